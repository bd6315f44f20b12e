/- that objects are reconstructed from their reports (part 19 of 29.) Conditions: those that each statement names. -/
import Derived.Test.YtjicdlilgjdefaaGreatDoorKJ11
import Derived.Test.YtjicdlilgjdefaaGreatDoorKJ13
import Derived.Test.YtjicdlilgjdefaaGreatDoorKJ16
import Derived.Test.YtjicdlilgjdefaaGreatDoorKJ17
import Derived.Test.YtjicdlilgjdefaaGreatDoorKJ18
set_option linter.unusedSimpArgs false
set_option linter.unusedVariables false
set_option maxHeartbeats 2000000
set_option maxRecDepth 100000
namespace Go.Vt
open Go.RowKit Go.Proofs
open Go.Proofs.Tryz (prog)
section
instance ZCc (w0 : World) (L : List Blk) (b n c : Nat) (pts : List SS) (sp : List Value) (T : TypeId) [h : AtC w0 L b (row rS pts sp) T] : SpecR prog w0 L 62 [.slice (some ⟨b, 0, none⟩) n c] (SlS rP 36 (frS pts)) (fun s => .tuple #[vSl s, .int .i64 (frE pts)]) (fun s => mS 115 s) ((pts.length = n ∧ 1 ≤ n ∧ n ≤ 19) ∧ Bnd pts ∧ Inc pts) := ⟨fun hp w hw =>
 ZmY b n c pts sp T hp.1.1 hp.1.2.1 hp.1.2.2 hp.2.1 (fun i hi => hp.2.2 i (by omega)) w (h.out w hw)⟩
end
section
instance ZAM (w0 : World) (L : List Blk) (v : Value) (l : List Zc) (s : ZC) [h : LstC w0 L v Zc Zh l] : SpecR prog w0 L 41 [v, .agg (Zm s)] (SlS (eI .i64) 1 (cI (chainL (cCp s.MaxSpeed l) l.length))) (fun o => vSl o) (fun o => mS 3 o) (l.length ≤ 4096 ∧ (∀ x ∈ l, TkOk x) ∧ (-1048576 ≤ s.MaxSpeed ∧ s.MaxSpeed ≤ 1048576)) := ⟨fun hp w hw =>
 Zmi v l s w (h.out w hw) hp.1 hp.2.1 hp.2.2⟩
theorem Zei {α β : Type} [Inhabited α] [Inhabited β] {f : α → β} {xs : List α} {i : Nat} (h : i < xs.length) : gi (xs.map f) (i : Int) = f (gi xs (i : Int)) := by
 rw [Zk (by rw [Ws]; exact h), Zk h, List.getElem_map]
def smT (x : Zc) : SS := ⟨x.T, ptT x⟩
def spL (l : List Zc) : List SS := l.map smT
theorem ZaZ (l : List Zc) : (spL l).length = l.length := Ws _
theorem ZcR {l : List Zc} (h : ∀ x ∈ l, TkOk x) : Bnd (spL l) := Zn2 fun x hx => by
 obtain ⟨y, hy, rfl⟩ := List.mem_map.1 hx
 have h1 := h y hy
 exact ⟨Wi h1.t (by decide), Wi (ZhE h1).1 (by decide), Wi (ZhE h1).2 (by decide)⟩
theorem Zll {l : List Zc} {g : Int} {i : Nat} (h : i < l.length) : thrC (spL l) (g : Rat) i = (decide (i + 1 < l.length) && !farT g (gi l (i : Int)) (gi l ((i + 1 : Nat) : Int))) := by
 unfold thrC farT
 rw [ZaZ]
 by_cases h1 : i + 1 < l.length
 ·rw [show gi (spL l) (i : Int) = smT (gi l (i : Int)) from Zei (f := smT) h, show gi (spL l) ((i + 1 : Nat) : Int) = smT (gi l ((i + 1 : Nat) : Int)) from Zei (f := smT) h1]
  rfl
 ·rw [We h1, Bool.false_and, Bool.false_and]
abbrev thrT (l : List Zc) (g : Int) (i : Nat) : List PU × List SS := thrN (spL l) (g : Rat) i
set_option maxHeartbeats 8000000 in
theorem Zph (v : Value) (l : List Zc) (s : ZC) (w : World) (hv : ArgS w v Zh l) (hl : l.length ≤ 19) (hok : ∀ x ∈ l, TkOk x) (hinc : Inc (spL l)) (hs : -2147483648 ≤ s.MaxGap ∧ s.MaxGap ≤ 2147483648) :
  Calls prog 42 [v, .agg (Zm s)].toArray w (RetM (SlS rP 36 (thrT l s.MaxGap l.length).1) (fun o => vSl o) (fun o => mS 115 o) w) := by
 obtain ⟨p, cp, rfl⟩ := hv.form
 generalize hn : l.length = n at *
 have hgo : ∀ i : Nat, i < n → TkOk (gi l (i : Int)) := fun i hi => hok _ (Z0 (by omega))
 have hO := fun i (hi : i ≤ n) => Zdz (g := (s.MaxGap : Rat)) (ZcR hok) hinc i (by rw [ZaZ]; omega)
 refine Zg Tryz.func42 rfl Tryz.ntmps42 rfl ?_
 repeat (refine wkM ?_; intros)
 rename_i b3
 refine Zq (S := (i : Nat) × (th : List PU × List SS) × SlS rP 36 th.1 × SlS rS 12 th.2) (fun q => q.1 ≤ n ∧ q.2.1 = thrT l s.MaxGap q.1) (fun q => [(0, .slice p n cp), (3, .pointer (some ⟨b3, 0, none⟩)), (5, vSl q.2.2.1), (6, vSl q.2.2.2), (11, .slice p n cp), (12, .int .i64 n), (13, .int .i64 (q.1 : Nat))]) (fun q => mS 143 q.2.2.2 ++ (mS 115 q.2.2.1 ++ [⟨b3, Zm s, 32⟩])) (fun q => n - q.1) ⟨0, ([], []), SlS.no, SlS.no⟩ ⟨Wm _, rfl⟩ sbB suB (fun q hq => ?_)
 obtain ⟨i, ⟨out, run⟩, o, r⟩ := q
 obtain ⟨hq, hth⟩ := hq
 simp only at hq hth o r ⊢
 have hi := hO i hq
 have hnx : thrT l s.MaxGap (i + 1) = if thrC (spL l) (s.MaxGap : Rat) i then ((thrT l s.MaxGap i).1, (thrT l s.MaxGap i).2 ++ [gi (spL l) (i : Int)]) else ((thrT l s.MaxGap i).1 ++ frS ((thrT l s.MaxGap i).2 ++ [gi (spL l) (i : Int)]), []) := rfl
 rw [show thrN (spL l) (s.MaxGap : Rat) i = (out, run) from hth.symm] at hi
 rw [← hth] at hnx
 have hrn : run.length ≤ i := hi.r
 have hon : out.length + run.length ≤ i := hi.n
 repeat (refine wkM ?_; intros)
 refine Zn rfl (fun h => ?_) (fun h => ?_)
 ·have hlt : i < n := by have := Wa h; omega
  have hrun : run ++ [gi (spL l) (i : Int)] = ((spL l).drop (i - run.length)).take (run.length + 1) := by
   have e : run = ((spL l).drop (i - run.length)).take run.length := hi.run
   rw [Wn (by rw [List.length_drop, ZaZ]; omega), ← e]
   rw [List.getElem_drop, Zk (by rw [ZaZ]; omega)]
   congr 2
   simp only [show i - run.length + run.length = i by omega]
  obtain ⟨p1, p2, -⟩ := ZeD (a := i - run.length) (r := run.length + 1) (ZcR hok) hinc (by rw [ZaZ]; omega)
  rw [← hrun] at p1 p2
  have hCC := Zll (g := s.MaxGap) (i := i) (l := l) (by omega)
  have hsm : gi (spL l) (i : Int) = smT (gi l (i : Int)) := Zei (f := smT) (by omega)
  rw [hsm] at hnx p1 p2
  have hlen : (run ++ [smT (gi l (i : Int))]).length = run.length + 1 := by simp
  have hfew := ZhH p1 p2 (by omega)
  have hne : l ≠ [] := fun h0 => by rw [h0] at hn; simp at hn; omega
  obtain ⟨bw, ow, cw, hvw, hcw, hrow⟩ := hv.blk (k := 11) hne []
  injection hvw with e1 e2 e3
  subst e1
  subst e3
  have hrow' : ∀ L, RowC w L bw ow Zc Zh l := fun L => ⟨fun w' hw' => hrow.out w' (hw'.sub (Wk _))⟩
  have k1 := hgo i hlt
  repeat (refine wkM ?_; intros)
  rename_i b8
  (refine Zao (.v [0, 1, 2, 3, 4, 5] (.e1 6 (.e1 7 (.e1 8 (.fin))))) ([⟨b8, Zv (Zu (gi l (i : Int))), 56⟩]) (h := ?_); refine wkX ?_)
  (repeat (first | refine wkH ?_ | (refine tC rfl rfl ?_ ?_; focus (exact k1))))
  repeat (refine wkT ?_; intros)
  refine eU rfl rfl ?_ ?_ ?_ ?_
  ·rfl
  ·rfl
  ·exact ⟨by decide, by omega, by omega⟩
  intro r'
  repeat (refine wkT ?_; intros)
  have hr' : ∃ r2 : SlS rS 12 (run ++ [smT (gi l (i : Int))]), vSl r2 = vSl r' ∧ ∀ T, mS T r2 = mS T r' := r'.like rfl
  obtain ⟨r2, hr2, hm2⟩ := hr'
  rw [← hr2]
  simp only [← hm2]
  clear hr2 hm2
  generalize smT (gi l (i : Int)) = x at *
  repeat (refine wkM ?_; intros)
  rename_i bx
  refine ZaO (S := Bool) (fun q => q = thrC (spL l) (s.MaxGap : Rat) i) (fun q => [(0, .slice (some ⟨bw, ow, none⟩) n cp), (3, .pointer (some ⟨b3, 0, none⟩)), (5, vSl o), (6, vSl r2), (11, .slice (some ⟨bw, ow, none⟩) n cp), (12, .int .i64 n), (13, .int .i64 (i : Nat)), (41, .bool q)]) (fun _ => mS 143 r2 ++ (mS 115 o ++ [⟨b3, Zm s, 32⟩])) ?_ (fun q hq2 => ?_)
  ·by_cases c1 : i + 1 < n
   ·rw [Wc (show i + 1 < l.length by omega), Bool.true_and] at hCC
    have k2 := hgo (i + 1) c1
    refine jD 16 16 (h := ?_)
    (repeat (refine wkH ?_))
    simp only [Wc (show (i : Int) + 1 < (n : Int) by omega)]
    (repeat (first | refine wkH ?_ | (refine tC rfl rfl ?_ ?_; focus (exact ⟨k1, k2, hs⟩))))
    refine Zo ?_
    refine Zr ?_
    repeat (refine wkM ?_; intros)
    exact ZL _ hCC.symm sbB suB
   ·rw [We (show ¬ i + 1 < l.length by omega), Bool.false_and] at hCC
    refine jD 16 16 (h := ?_)
    (repeat (refine wkH ?_))
    simp only [We (show ¬ (i : Int) + 1 < (n : Int) by omega)]
    (repeat (refine wkH ?_))
    refine Zo ?_
    refine Zr ?_
    repeat (refine wkM ?_; intros)
    exact ZL false hCC.symm sbB suB
  ·subst hq2
   cases hc : thrC (spL l) (s.MaxGap : Rat) i
   ·rw [hc, if_neg (by decide)] at hnx
    rcases r2.cases 143 with ⟨x0, x1, x2⟩ | ⟨bo, co, sp, hc1, x1, x2, xne⟩
    ·exact absurd (congrArg List.length x0) (by rw [hlen]; exact Nat.succ_ne_zero _)
    simp only [x1, x2, Wf, Wg]
    repeat (first | (refine wkM ?_; intros) | (refine wnM ?_ ?_; (focus (exact ⟨⟨rfl, by omega, by omega⟩, p1, p2⟩)); intros))
    rename_i fs
    refine sV rfl rfl ?_ ?_ ?_
    ·rfl
    ·exact ⟨by omega, by omega⟩
    intro o'
    repeat (refine wkO ?_; intros)
    exact Zj ⟨i + 1, (out ++ frS (run ++ [x]), []), o', SlS.no⟩ ⟨hlt, hnx.symm⟩ sbB suB (by show n - (i + 1) < n - i; omega)
   ·rw [hc, if_pos rfl] at hnx
    repeat (refine wkO ?_; intros)
    exact Zj ⟨i + 1, (out, run ++ [x]), o, r2⟩ ⟨hlt, hnx.symm⟩ sbB suB (by show n - (i + 1) < n - i; omega)
 ·have hge : i = n := by have := Wb h; omega
  subst hge
  rw [← hth]
  repeat (refine wkM ?_; intros)
  exact Zf rfl rfl (fun w hw => ⟨o, rfl, hw.sub suB⟩)
instance Zxy (w0 : World) (L : List Blk) (v : Value) (l : List Zc) (s : ZC) [h : LstC w0 L v Zc Zh l] : SpecR prog w0 L 42 [v, .agg (Zm s)] (SlS rP 36 (thrT l s.MaxGap l.length).1) (fun o => vSl o) (fun o => mS 115 o) (l.length ≤ 19 ∧ (∀ x ∈ l, TkOk x) ∧ Inc (spL l) ∧ (-2147483648 ≤ s.MaxGap ∧ s.MaxGap ≤ 2147483648)) := ⟨fun hp w hw =>
 Zph v l s w (h.out w hw) hp.1 hp.2.1 hp.2.2.1 hp.2.2.2⟩
end
section
def kpT (v : Int) (l : List Zc) : List Zc := (chainL (cCp v l) l.length).map fun k : Nat => gi l (k : Int)
theorem Zcy (v : Int) (l : List Zc) : (kpT v l).length = (chainL (cCp v l) l.length).length := Ws _
theorem Zi4 (C : Nat → Nat → Bool) (n : Nat) : ∀ i, (outN C n i).1.length ≤ i
 | 0 => Wl _
 | i + 1 => by
  have := Zi4 C n i
  rw [show outN C n (i + 1) = outS C n (outN C n i) i from rfl]
  unfold outS
  split
  ·rw [Wp, List.length_singleton]; omega
  ·omega
theorem ZbP (C : Nat → Nat → Bool) (n : Nat) : (chainL C n).length ≤ n := Zi4 C n n
theorem ZeW {C : Nat → Nat → Bool} {n : Nat} {k : Nat} (h : k ∈ chainL C n) : k < n := Znw C n k h
theorem Zej {v : Int} {l : List Zc} {x : Zc} (h : x ∈ kpT v l) : x ∈ l := by
 obtain ⟨k, hk, rfl⟩ := List.mem_map.1 h
 have := ZeW hk
 exact Z0 (by omega)
def gapI (a b : Zc) : Zt := ⟨⟨a.T, 0, false⟩, ⟨b.T, 0, false⟩, true, true⟩
def gpT (g : Int) (l : List Zc) : Nat → List Zt
 | 0 => []
 | m + 1 => if farT g (gi l (m : Int)) (gi l ((m + 1 : Nat) : Int)) then gpT g l m ++ [gapI (gi l (m : Int)) (gi l ((m + 1 : Nat) : Int))] else gpT g l m
theorem Zle (g : Int) (l : List Zc) : ∀ m, (gpT g l m).length ≤ m
 | 0 => Wl _
 | m + 1 => by
  have := Zle g l m
  simp only [gpT]
  split
  ·rw [Wp, List.length_singleton]; omega
  ·omega
end
section
def idxP {α : Type} (p : α → Bool) (xs : List α) : Int := if xs.any p then (xs.findIdx p : Int) else -1
theorem Zhm {α : Type} [Inhabited α] {p : α → Bool} {xs : List α} {m : Nat} (hm : m < xs.length) (h : p (gi xs (m : Int)) = true) (hb : ∀ j : Nat, j < m → p (gi xs (j : Int)) = false) : idxP p xs = m := by
 have e : xs.any p = true := List.any_eq_true.2 ⟨_, Z0 (by omega), h⟩
 unfold idxP
 rw [if_pos e]
 congr 1
 refine (List.findIdx_eq hm).2 ⟨by rw [← Zk hm]; exact h, fun j hj => ?_⟩
 rw [← Zk (by omega)]
 exact hb j hj
theorem ZhC {α : Type} [Inhabited α] {p : α → Bool} {xs : List α} (hb : ∀ j : Nat, j < xs.length → p (gi xs (j : Int)) = false) : idxP p xs = -1 := by
 unfold idxP
 rw [if_neg]
 intro h
 obtain ⟨x, hx, hp⟩ := List.any_eq_true.1 h
 obtain ⟨j, hj, rfl⟩ := List.getElem_of_mem hx
 have := hb j hj
 rw [Zk hj, hp] at this
 cases this
theorem Zld {α : Type} {p : α → Bool} {xs : List α} : decide (0 ≤ idxP p xs) = xs.any p := by
 unfold idxP
 cases h : xs.any p
 ·rw [if_neg (by decide)]
  rfl
 ·rw [if_pos rfl]
  exact Wc (Int.natCast_nonneg _)
instance ZwM : CallC prog 160 := ⟨by kernel_rfl⟩
instance Zw4 : CallC prog 101 := ⟨by kernel_rfl⟩
set_option maxHeartbeats 4000000 in
theorem Znh (v : Value) (rs : List Zb) (r : Zb) (w : World) (hv : ArgS w v Zd rs) (hl : rs.length ≤ 1048576) :
  Calls prog 160 [v, .agg (Zd r)].toArray w (Ret (.int .i64 (idxP (fun x => decide (r = x)) rs)) w) := by
 obtain ⟨p, cp, rfl⟩ := hv.form
 refine Zg Tryz.func160 rfl Tryz.ntmps160 rfl ?_
 repeat (refine wkM ?_; intros)
 rename_i b3
 refine Zq (S := Nat) (fun m => m ≤ rs.length ∧ ∀ j : Nat, j < m → decide (r = gi rs (j : Int)) = false) (fun m => [(0, .slice p rs.length cp), (3, .pointer (some ⟨b3, 0, none⟩)), (7, .int .i64 rs.length), (8, .int .i64 (m : Nat))]) (fun _ => [⟨b3, Zd r, 35⟩]) (fun m => rs.length - m) 0 ⟨Wm _, fun j hj => absurd hj (Nat.not_lt_zero _)⟩ sbB slB (fun m hm => ?_)
 obtain ⟨hm, hb⟩ := hm
 repeat (refine wkM ?_; intros)
 refine Zn rfl (fun h => ?_) (fun h => ?_)
 ·have hlt : m < rs.length := by have := Wa h; omega
  have hne : rs ≠ [] := fun h0 => by rw [h0] at hlt; simp at hlt
  obtain ⟨bw, ow, cw, hvw, hcw, hrow⟩ := hv.blk (k := 7) hne []
  injection hvw with e1 e2 e3
  subst e1
  subst e3
  have hrow' : ∀ L, RowC w L bw ow Zb Zd rs := fun L => ⟨fun w' hw' => hrow.out w' (hw'.sub (Wk _))⟩
  repeat (refine wkM ?_; intros)
  (refine jD 6 6 (h := ?_); (repeat (refine wkH ?_)); refine Zo ?_; (repeat (refine Z8 ?_; intro _)); refine Zr ?_)
  cases hd : decide (r = gi rs (m : Int))
  ·repeat (refine wkM ?_; intros)
   exact Zj (m + 1) ⟨hlt, fun j hj => by
    rcases Nat.lt_or_ge j m with h1 | h1
    ·exact hb j h1
    ·rw [show j = m by omega]
     exact hd⟩ sbB slB (by omega)
  ·rw [Zhm hlt hd hb]
   repeat (refine wkM ?_; intros)
   exact Zf rfl rfl (fun w hw => Zi hw)
 ·have hge : m = rs.length := by have := Wb h; omega
  subst hge
  rw [ZhC hb]
  repeat (refine wkM ?_; intros)
  exact Zf rfl rfl (fun w hw => Zi hw)
instance ZC6 (w0 : World) (L : List Blk) (v : Value) (rs : List Zb) (r : Zb) [h : LstC w0 L v Zb Zd rs] : SpecM prog w0 L 160 [v, .agg (Zd r)] (.int .i64 (idxP (fun x => decide (r = x)) rs)) (rs.length ≤ 1048576) := ⟨fun hp w hw => Znh v rs r w (h.out w hw) hp⟩
theorem ArgS.lst {α : Type} {w : World} {v : Value} {enc : α → Array Value} {xs : List α} (h : ArgS w v enc xs) (L : List Blk) : LstC w L v α enc xs := ⟨fun w' hw' => h.to hw'.ext⟩
instance ZA0 (w0 : World) (L : List Blk) (v : Value) (rs : List Zb) (r : Zb) [h : LstC w0 L v Zb Zd rs] : SpecM prog w0 L 101 [v, .agg (Zd r)] (.bool (rs.any fun x => decide (r = x))) (rs.length ≤ 1048576) := ⟨fun hp w hw => by
 have hv := fun L => (h.out w hw).lst L
 refine Zg Tryz.func101 rfl Tryz.ntmps101 rfl ?_
 repeat (first | (refine wkM ?_; intros) | (refine wnM ?_ ?_; (focus (exact hp)); intros))
 simp only [Zld]
 repeat (refine wkM ?_; intros)
 exact Zf rfl rfl (fun w hw => Zi hw)⟩
instance ZFH (w0 : World) (L : List Blk) (v : Value) (rs : List Zb) (r : Zb) [h : LstC w0 L v Zb Zd rs] : SpecM prog w0 L 53 [v, .agg (Zd r)] (.bool (rs.any fun x => decide (r = x))) (rs.length ≤ 1048576) := ⟨fun hp w hw => by
 have hv := fun L => (h.out w hw).lst L
 refine Zg Tryz.func53 rfl Tryz.ntmps53 rfl ?_
 repeat (first | (refine wkM ?_; intros) | (refine wnM ?_ ?_; (focus (exact hp)); intros))
 exact Zf rfl rfl (fun w hw => Zi hw)⟩
def statR (rs : List Zb) (r : Zb) : Int :=
 if (rs.any fun x => decide (r = x)) = false then 0 else if (mget (winR rs) (idR r)).getD Zas = r then (if r.Cancel then 3 else 1) else 2
instance ZyN (w0 : World) (L : List Blk) (v : Value) (rs : List Zb) (r : Zb) [h : LstC w0 L v Zb Zd rs] : SpecM prog w0 L 18 [v, .agg (Zd r)] (.int .i64 (statR rs r)) (rs.length ≤ 1048576) := ⟨fun hp w hw => by
 have hv := fun L => (h.out w hw).lst L
 have hd : statR rs r = if (rs.any fun x => decide (r = x)) = false then 0 else if (mget (winR rs) (idR r)).getD Zas = r then (if r.Cancel then 3 else 1) else 2 := rfl
 refine Zg Tryz.func18 rfl Tryz.ntmps18 rfl ?_
 repeat (refine wkM ?_; intros)
 rename_i b3
 refine ZaO (S := Nat) (fun _ => True) (fun b5 => [(0, v), (3, .pointer (some ⟨b3, 0, none⟩)), (5, .pointer (some ⟨b5, 0, none⟩))]) (fun b5 => [⟨b5, Zd ((mget (winR rs) (idR r)).getD Zas), 35⟩, ⟨b3, Zd r, 35⟩]) ?_ (fun b5 _ => ?_)
 ·(refine Zao (.v [0, 2] (.e2 1 (.v [3] (.e2 4 (.e1 5 (.e1 6 (.fin))) 5 (.e1 4 (.e1 6 (.fin))))) 5 (.e1 1 (.v [3] (.e1 4 (.e1 6 (.fin))))))) ([⟨b3, Zd r, 35⟩]) (h := ?_); refine wkX ?_)
  (repeat (refine wkH ?_))
  refine And.intro ?_ ?_
  all_goals
   repeat (first | (refine wkT ?_; intros) | (refine tC rfl rfl ?_ ?_; focus (first | exact hp | exact trivial)) | (refine uC rfl rfl ?_ ?_; focus (first | exact hp | exact trivial)) | (refine eN rfl rfl ?_ ?_; (focus (first | exact hp | exact trivial)); intro _; (try simp only [Wf, Wg, Wh])))
  all_goals try refine And.intro ?_ ?_
  all_goals
   repeat (first | (refine wkT ?_; intros) | (refine tC rfl rfl ?_ ?_; focus (first | exact hp | exact trivial)) | (refine uC rfl rfl ?_ ?_; focus (first | exact hp | exact trivial)) | (refine eN rfl rfl ?_ ?_; (focus (first | exact hp | exact trivial)); intro _; (try simp only [Wf, Wg, Wh])))
   exact ZL _ trivial sbB suB
 ·generalize (mget (winR rs) (idR r)).getD Zas = x at *
  repeat (first | (refine wkM ?_; intros) | (refine wnM ?_ ?_; (focus (exact hp)); intros))
  cases hc : rs.any fun x => decide (r = x)
  ·rw [hc, if_pos rfl] at hd
   rw [hd]
   repeat (refine wkM ?_; intros)
   exact Zf rfl rfl (fun w hw => Zi hw)
  rw [hc, if_neg (by decide)] at hd
  repeat (refine wkM ?_; intros)
  by_cases he : x = r
  ·rw [if_pos he] at hd
   subst he
   simp only [Wc (show x = x from rfl), Bool.not_true, Bool.not_false]
   repeat (refine wkM ?_; intros)
   cases hx : x.Cancel
   ·rw [hx] at hd
    rw [hd]
    repeat (refine wkM ?_; intros)
    exact Zf rfl rfl (fun w hw => Zi hw)
   ·rw [hx] at hd
    rw [hd]
    repeat (refine wkM ?_; intros)
    exact Zf rfl rfl (fun w hw => Zi hw)
  ·rw [if_neg he] at hd
   simp only [We he, Bool.not_true, Bool.not_false]
   rw [hd]
   repeat (refine wkM ?_; intros)
   exact Zf rfl rfl (fun w hw => Zi hw)⟩
instance ZA9 (w0 : World) (L : List Blk) (x : Zc) (b : Nat) (r : Zb) (T : TypeId) [k : AtC w0 L b (Zd r) T] : SpecM prog w0 L 48 [vTm x, .pointer (some ⟨b, 0, none⟩)] (.bool (decide (x.Report = r))) True := ⟨fun _ w hw => by
 have f := FoC.mk (k.out w hw)
 refine Zg Tryz.func48 rfl Tryz.ntmps48 rfl ?_
 repeat (refine wkM ?_; intros)
 exact Zf rfl rfl (fun w hw => Zi hw)⟩
abbrev vEx (b : Nat) : Value := .func (.func 48) #[] [.pointer (some ⟨b, 0, none⟩)].toArray
abbrev isT (r : Zb) (x : Zc) : Bool := decide (x.Report = r)
instance Zxz : CallC prog 99 := ⟨by kernel_rfl⟩
instance ZwU : CallC prog 49 := ⟨by kernel_rfl⟩
set_option maxHeartbeats 4000000 in
theorem ZmW (v : Value) (rs : List Zc) (b : Nat) (r : Zb) (T : TypeId) (w : World) (hv : ArgS w v Zh rs) (hl : rs.length ≤ 1048576) (hb : ∃ fz, w.heap[b]? = some (.cells (Zd r) T fz)) :
  Calls prog 99 [v, vEx b].toArray w (Ret (.int .i64 (idxP (isT r) rs)) w) := by
 have f := FoC.mk hb
 obtain ⟨p, cp, rfl⟩ := hv.form
 refine Zg Tryz.func99 rfl Tryz.ntmps99 rfl ?_
 repeat (refine wkM ?_; intros)
 refine Zq (S := Nat) (fun m => m ≤ rs.length ∧ ∀ j : Nat, j < m → isT r (gi rs (j : Int)) = false) (fun m => [(0, .slice p rs.length cp), (1, vEx b), (7, .int .i64 rs.length), (8, .int .i64 (m : Nat))]) (fun _ => []) (fun m => rs.length - m) 0 ⟨Wm _, fun j hj => absurd hj (Nat.not_lt_zero _)⟩ sbB slB (fun m hm => ?_)
 obtain ⟨hm, hb⟩ := hm
 repeat (refine wkM ?_; intros)
 refine Zn rfl (fun h => ?_) (fun h => ?_)
 ·have hlt : m < rs.length := by have := Wa h; omega
  have hne : rs ≠ [] := fun h0 => by rw [h0] at hlt; simp at hlt
  obtain ⟨bw, ow, cw, hvw, hcw, hrow⟩ := hv.blk (k := 11) hne []
  injection hvw with e1 e2 e3
  subst e1
  subst e3
  have hrow' : ∀ L, RowC w L bw ow Zc Zh rs := fun L => ⟨fun w' hw' => hrow.out w' (hw'.sub (Wk _))⟩
  have hi : isT r (gi rs (m : Int)) = decide ((gi rs (m : Int)).Report = r) := rfl
  repeat (refine wkM ?_; intros)
  rw [← hi]
  cases hd : isT r (gi rs (m : Int))
  ·repeat (refine wkM ?_; intros)
   exact Zj (m + 1) ⟨hlt, fun j hj => by
    rcases Nat.lt_or_ge j m with h1 | h1
    ·exact hb j h1
    ·rw [show j = m by omega]
     exact hd⟩ sbB slB (by omega)
  ·rw [Zhm hlt hd hb]
   repeat (refine wkM ?_; intros)
   exact Zf rfl rfl (fun w hw => Zi hw)
 ·have hge : m = rs.length := by have := Wb h; omega
  subst hge
  rw [ZhC hb]
  repeat (refine wkM ?_; intros)
  exact Zf rfl rfl (fun w hw => Zi hw)
instance ZBs (w0 : World) (L : List Blk) (v : Value) (rs : List Zc) (b : Nat) (r : Zb) (T : TypeId) [h : LstC w0 L v Zc Zh rs] [k : AtC w0 L b (Zd r) T] : SpecM prog w0 L 99 [v, vEx b] (.int .i64 (idxP (isT r) rs)) (rs.length ≤ 1048576) := ⟨fun hp w hw => ZmW v rs b r T w (h.out w hw) hp (k.out w hw)⟩
instance ZCz (w0 : World) (L : List Blk) (v : Value) (rs : List Zc) (b : Nat) (r : Zb) (T : TypeId) [h : LstC w0 L v Zc Zh rs] [k : AtC w0 L b (Zd r) T] : SpecM prog w0 L 49 [v, vEx b] (.bool (rs.any (isT r))) (rs.length ≤ 1048576) := ⟨fun hp w hw => by
 have hv := fun L => (h.out w hw).lst L
 have f := FoC.mk (k.out w hw)
 refine Zg Tryz.func49 rfl Tryz.ntmps49 rfl ?_
 repeat (first | (refine wkM ?_; intros) | (refine wnM ?_ ?_; (focus (exact hp)); intros))
 simp only [Zld]
 repeat (refine wkM ?_; intros)
 exact Zf rfl rfl (fun w hw => Zi hw)⟩
end
section
def tmd (t q x y : Int) : Zc := ⟨(t : Rat), ⟨1, q, 0, 0, t, x, y, false⟩⟩
instance ZBe (t q x y : Int) : SpecC prog 90 [.int .i64 t, .int .i64 q, .int .i64 x, .int .i64 y] (vTm (tmd t q x y)) (-9223372036854775808 ≤ t ∧ t ≤ 9223372036854775807) := ⟨fun hp w => by
 refine Zg Tryz.func90 rfl Tryz.ntmps90 rfl ?_
 repeat (first | (refine wkM ?_; intros) | (refine wnM ?_ ?_; (focus (exact hp)); intros))
 exact ZV rfl rfl (fun w hw => Zi hw)⟩
def exL : List Zc := [tmd 0 0 0 0, tmd 1 1 9 0, tmd 2 2 4 0, tmd 9 3 4 0]
instance ZxR (w0 : World) (L : List Blk) : SpecR prog w0 L 40 [] (SlS Zh 12 exL) (fun s => vSl s) (fun s => mS 56 s) True := ⟨fun _ w hw => by
 refine Zg Tryz.func40 rfl Tryz.ntmps40 rfl ?_
 repeat (first | (refine wkM ?_; intros) | (refine wnM ?_ ?_; (focus (exact ⟨by decide, by decide⟩)); intros))
 rename_i b
 obtain ⟨s', hv', hm'⟩ := SlS.put (enc := Zh) (k := 12) (b := b) (sp := []) (c := 4) (ys := exL) 56 rfl ⟨Wl _, rfl⟩ (by decide)
 refine Zf rfl rfl (fun w hw => ⟨s', ?_, ?_⟩)
 ·show Ending.returned _ = Ending.returned (vSl s')
  rw [hv']
  rfl
 ·dsimp only
  rw [hm']
  exact hw.sub suB⟩
def setT (a b : Int) : ZC := ⟨1 + a % 24, 1 + b % 30⟩
instance ZvL (p : Sl) (a b : Int) : SpecC prog 13 [.agg (ZK ⟨p, a, b⟩)] (.agg (Zm (setT a b))) ((0 ≤ a ∧ a ≤ 255) ∧ (0 ≤ b ∧ b ≤ 255)) := ⟨fun hp w => by
 obtain ⟨h1, h2⟩ := hp
 refine Zg Tryz.func13 rfl Tryz.ntmps13 rfl ?_
 repeat (refine wkO ?_; intros)
 dsimp only
 repeat (refine wkO ?_; intros)
 dsimp only
 repeat (refine wkO ?_; intros)
 exact ZV rfl rfl (fun w hw => Zi hw)⟩
instance ZxP (a b : Zc) (s : ZC) : SpecC prog 107 [vTm a, vTm b, .agg (Zm s)] (.bool (cpt s.MaxSpeed a b)) (TkOk a ∧ TkOk b ∧ (-1048576 ≤ s.MaxSpeed ∧ s.MaxSpeed ≤ 1048576)) := ⟨fun hp w => by
 obtain ⟨ha, hb, hv⟩ := hp
 have h1 : M b.T ≤ LQ ∧ M a.T ≤ LQ := ⟨Wi hb.t (by decide), Wi ha.t (by decide)⟩
 have g1 := MB.mk ha.t
 have g2 := MB.mk hb.t
 have g3 := MB.mk (ZdW (n := s.MaxSpeed) (by omega))
 have h2 : M (s.MaxSpeed : Rat) ≤ LQ ∧ M (b.T - a.T) ≤ LQ := ⟨MB.lt rfl, MB.lt rfl⟩
 have h3 : M ((s.MaxSpeed : Rat) * (b.T - a.T)) ≤ LQ ∧ M ((s.MaxSpeed : Rat) * (b.T - a.T)) ≤ LQ := ⟨MB.lt rfl, MB.lt rfl⟩
 have h6 : -9223372036854775808 ≤ s.MaxSpeed ∧ s.MaxSpeed ≤ 9223372036854775807 := by omega
 have hax := ha.x
 have hay := ha.y
 have hbx := hb.x
 have hby := hb.y
 have sq : ∀ z : Int, -2097152 ≤ z ∧ z ≤ 2097152 → 0 ≤ z * z ∧ z * z ≤ 4398046511104 := fun z hz => by
  refine ⟨?_, ?_⟩
  ·rcases Int.le_total 0 z with h | h
   ·exact Int.mul_nonneg h h
   ·exact Int.mul_nonneg_of_nonpos_of_nonpos h h
  ·rcases Int.le_total 0 z with h | h
   ·have := Int.mul_le_mul hz.2 hz.2 h (by decide)
    omega
   ·have e : z * z = (-z) * (-z) := by rw [Int.neg_mul_neg]
    have := Int.mul_le_mul (a := -z) (b := -z) (c := 2097152) (d := 2097152) (by omega) (by omega) (by omega) (by omega)
    rw [e]
    exact Int.le_trans this (by decide)
 have s1 := sq (b.Report.X - a.Report.X) (by omega)
 have s2 := sq (b.Report.Y - a.Report.Y) (by omega)
 have hd : (((b.Report.X - a.Report.X) * (b.Report.X - a.Report.X) + (b.Report.Y - a.Report.Y) * (b.Report.Y - a.Report.Y) : Int) : Rat) = d2 (ptT a) (ptT b) := by
  simp only [d2, ptT, Rat.intCast_add, Rat.intCast_mul, Rat.intCast_sub]
  grind
 have h4 : M (((b.Report.X - a.Report.X) * (b.Report.X - a.Report.X) + (b.Report.Y - a.Report.Y) * (b.Report.Y - a.Report.Y) : Int) : Rat) ≤ LQ ∧ M (((s.MaxSpeed : Rat) * (b.T - a.T)) * ((s.MaxSpeed : Rat) * (b.T - a.T))) ≤ LQ := by
  refine ⟨?_, MB.lt rfl⟩
  rw [ZmO]
  have := ZcS (n := (b.Report.X - a.Report.X) * (b.Report.X - a.Report.X) + (b.Report.Y - a.Report.Y) * (b.Report.Y - a.Report.Y)) (k := 8) (by omega)
  exact Nat.max_le.2 ⟨Wi this (by decide), by decide⟩
 refine Zg Tryz.func107 rfl Tryz.ntmps107 rfl ?_
 repeat (first | (refine wkM ?_; intros) | (refine wnM ?_ ?_; (focus (exact h1)); intros))
 unfold cpt
 by_cases h0 : 0 < b.T - a.T
 ·have h0' := (ZcP b.T a.T).2 h0
  simp only [We (show ¬ (b.T - a.T).num.sign ≤ 0 by omega)]
  repeat (refine wkM ?_; intros)
  (refine Zao (.v [0, 1, 2, 3, 4, 5, 6, 7, 8, 9, 10, 11, 12, 13] (.e1 14 (.e1 15 (.fin)))) (_) (h := ?_); refine wkX ?_)
  (repeat (refine wkH ?_))
  repeat (refine wkT ?_; intros)
  repeat (refine wkM ?_; intros)
  (refine Zep [0, 1, 2, 3, 4] [5] [6] (_) (h := ?_); refine wkI ?_)
  (repeat (first | refine wkH ?_ | (refine tC rfl rfl ?_ ?_; focus (first | exact h6 | exact h2))))
  repeat (refine wkT ?_; intros)
  repeat (refine wkM ?_; intros)
  refine jD 14 14 (h := ?_)
  (repeat (first | refine wkH ?_ | (refine tC rfl rfl ?_ ?_; focus (first | exact h3 | exact ⟨by omega, by omega⟩))))
  refine Zo ?_
  refine Zr ?_
  repeat (refine wkM ?_; intros)
  rw [hd, Wc h0, Bool.true_and, show decide (d2 (ptT a) (ptT b) ≤ ((s.MaxSpeed : Rat) * (b.T - a.T)) * ((s.MaxSpeed : Rat) * (b.T - a.T))) = decide (cq (d2 (ptT a) (ptT b)) (((s.MaxSpeed : Rat) * (b.T - a.T)) * ((s.MaxSpeed : Rat) * (b.T - a.T))) ≤ 0) from decide_eq_decide.2 Zm0.symm]
  exact Zf rfl rfl (fun w hw => Zi hw)
 ·have h0' : ¬ 0 < (b.T - a.T).num.sign := fun h => h0 ((ZcP b.T a.T).1 h)
  simp only [Wc (show (b.T - a.T).num.sign ≤ 0 by omega)]
  rw [We h0, Bool.false_and]
  repeat (refine wkM ?_; intros)
  exact Zf rfl rfl (fun w hw => Zi hw)⟩
end
section
open Go.ChangeMaps (setBlock)
abbrev mIn (l : List (Int × Bool)) : Obj := mapO (Value.int .i64) Value.bool l
abbrev pKI (l : List (Int × Bool)) : List Int := l.map (·.1)
theorem ZpW {l : List (Int × Bool)} {s : List Nat} {i : Nat} (h : i < l.length) : seenL (pKI l) (s ++ [i]) = seenL (pKI l) s ++ [(gi l (i : Int)).1] := by
 rw [ZbT _ _ _ (by rw [Ws]; exact h), List.getElem_map, Zk h]
set_option maxHeartbeats 4000000 in
theorem Zjy (wc w0 : World) (Bm b N : Nat) (TB : TypeId) (l : List (Int × Bool)) (hwc : Below wc.heap.size wc w0) (hB : ∃ fz, wc.heap[Bm]? = some (.cells #[.map (some b)] TB fz)) (hb : wc.heap[b]? = some (mIn l)) :
  SeqStopsK (Fr none) N prog 307 #[.pointer (some ⟨Bm, 0, none⟩)] (fun x : Int => #[.int .i64 x]) (KpK wc) (fun ys => ys.Perm (pKI l)) (fun _ => True) (l.length + 1) w0 := by
 intro lp Jp Jx W hW hJ hJx hY h0
 have hBW : Below wc.heap.size wc W := hwc.trans (hW.mono hwc.size)
 have hB1 : ∃ fz, W.heap[Bm]? = some (.cells #[.map (some b)] TB fz) := by
  obtain ⟨fz, h⟩ := hB
  exact ⟨fz, (hBW.block Bm (Zp h)).trans h⟩
 have hb1 : W.heap[b]? = some (mIn l) := (hBW.block b (Zp hb)).trans hb
 have fB := FoC.mk (w0 := W) hB1
 have fb := FoO.mk hb1
 have hgo := Zft (N := N) (P := prog) (l := [Value.func (.yield lp) #[] #[], Value.pointer (some ⟨Bm, 0, none⟩)]) (w := W) (R := fun e W' => (∃ v, e = Ending.returned v) ∧ ((∃ xs, xs.Perm (pKI l) ∧ Jp xs W') ∨ ∃ pre, True ∧ Jx pre W')) Tryz.func307 rfl Tryz.ntmps307 rfl
 refine hgo ?_
 clear hgo
 refine Zaw ?_
 refine Zcp ?_
 repeat (refine wkM ?_; intros)
 refine Zai ?_
 rename_i r
 refine Za9 ?_
 refine ZhK (S := List Nat) (fun s W1 => SeenOk l.length s ∧ Jp (seenL (pKI l) s) W1 ∧ Below wc.heap.size wc W1 ∧ W1.heap[r]? = some (itO b l.length s) ∧ W.heap.size ≤ r) (fun _ => [(0, .func (.yield lp) #[] #[]), (5, .pointer (some ⟨r, 0, none⟩))]) (fun s => l.length - s.length) [] (fun w hw => ⟨⟨List.nodup_nil, fun i hi => by cases hi⟩, hJ _ W w none h0 (Z7 hw.ext) (fun _ e => by cases e), hBW.trans (hw.ext.bel.mono hBW.size), (hw.mem _ (.head _)).2, (hw.mem _ (.head _)).1⟩) sbB (fun s W1 hI => ?_)
 obtain ⟨hs, hJp, hB0, hr1, hrW⟩ := hI
 have hbb : W1.heap[b]? = some (mIn l) := (hB0.block b (Zp hb)).trans hb
 have hlen := ZaT hs.nd hs.lt
 refine Zaw ?_
 refine ZaX ?_
 refine ZgB rfl rfl (fun w hw => (hw.ext.block _ (Zp hr1)).trans hr1) (fun w hw => (hw.ext.block _ (Zp hbb)).trans hbb) (fun hall => ?h0) (fun w w1 hw hw1 i hi hni => ?h1)
 case h0 =>
  refine Zbr (fun _ _ h => by obtain ⟨⟨v, h⟩, _⟩ := h; cases h) rfl ?_
  repeat (refine wkM ?_; intros)
  refine Zai ?_
  refine Zaw ?_
  refine Zbu rfl (fun h => by cases h) (fun _ => ?_)
  refine Zhw ?_
  refine Zdi ?_
  refine Zdg ?_
  refine Zcq ?_
  exact Zar rfl (fun w hw => ⟨⟨_, rfl⟩, .inl ⟨_, Zcg hs.nd (by rw [Ws]; exact hs.lt) (by rw [Ws]; exact hall), hJ _ W1 w none hJp (Z7 hw.ext) (fun _ e => by cases e)⟩⟩)
 case h1 =>
  have hs' := hs.snoc hi hni
  have hlen' := ZaT hs'.nd hs'.lt
  rw [Wp, List.length_singleton] at hlen'
  have hrw : w.heap[r]? = some (itO b l.length s) := (hw.ext.block _ (Zp hr1)).trans hr1
  have hg := ZeE (r := r) (o := itO b l.length (s ++ [i])) hw1
  have hJ2 := hJ _ w _ (some r) (hJ _ W1 w none hJp (Z7 hw.ext) (fun _ e => by cases e)) hg (fun r' e => by cases e; exact ⟨hrW, _, hrw, ZcX _ _ _⟩)
  have hB2 := (hB0.trans (hw.ext.bel.mono hB0.size)).grown hg (Wi hB0.size hw.ext.size) (fun j e => by cases e; exact Wi hBW.size hrW)
  have hr2 := ZfK (o := itO b l.length (s ++ [i])) hw1 hrw
  generalize setBlock w1 r (itO b l.length (s ++ [i])) = W2 at *
  have hb2 : W2.heap[b]? = some (mIn l) := (hB2.block b (Zp hb)).trans hb
  have f2 := FoO.mk hr2
  have f3 := FoO.mk hb2
  refine Zbr (fun _ _ h => by obtain ⟨⟨v, h⟩, _⟩ := h; cases h) rfl ?_
  repeat (refine wkM ?_; intros)
  refine Zai ?_
  refine Zaw ?_
  refine Zbu rfl (fun _ => ?_) (fun h => by cases h)
  refine Zdt ?_
  refine Zai ?_
  refine Za9 ?_
  refine Zaw ?_
  refine Zcp ?_
  repeat (refine wkM ?_; intros)
  refine Zai ?_
  refine Zaw ?_
  refine ZaX ?_
  refine ⟨fun a2 w2 ha2 hw2 => Zbg [_, _] a2 w2 rfl (JO.out ?_ a2 w2 ha2 hw2)⟩
  repeat (refine wkM ?_; intros)
  refine Zdp (fun a3 w3 ha3 hw3 => (Zfv (l := lp) (args := #[.int .i64 (gi l (i : Int)).1]) (R := fun e W' => (e = .returned (.bool true) ∧ Jp (seenL (pKI l) (s ++ [i])) W' ∧ KpK wc W2 W') ∨ (e = .returned (.bool false) ∧ Jx (seenL (pKI l) (s ++ [i])) W')) rfl rfl rfl (fun a w ha => Zfl ha rfl rfl) (fun w hw => ?_) ?_).out a3 w3 ha3 hw3)
  ·obtain ⟨fn, tmps, asg, bd, y1, y2⟩ := hY (seenL (pKI l) s) (gi l (i : Int)).1 w (hJ _ W2 w none hJ2 (Z7 hw.ext) (fun _ e => by cases e)) (by rw [Zd4 _ (by rw [Ws]; exact hs.lt)]; omega)
   refine ⟨fn, tmps, asg, bd, y1, y2.mono fun e W' h => ?_⟩
   rw [ZpW hi]
   rcases h with ⟨e1, e2, e3⟩ | ⟨e1, e2⟩
   ·exact .inl ⟨e1, e2, (hw.ext.bel.mono hB2.size).trans e3.1, fun k o hk hwk => e3.2 k o ((hw.ext.block k (Zp hk)).trans hk) hwk⟩
   ·exact .inr ⟨e1, e2⟩
  ·rintro e W' (⟨rfl, hJ', hk⟩ | ⟨rfl, hx'⟩)
   ·refine ⟨_, rfl, ?_⟩
    refine Zbr (E := (12, .bool true) :: _) (fun _ _ h => by obtain ⟨⟨v, h⟩, _⟩ := h; cases h) rfl ?_
    repeat (refine wkM ?_; intros)
    refine Zai ?_
    refine Zbu rfl (fun h => by cases h) (fun _ => ?_)
    refine Zdt ?_
    refine ZeY ?_
    refine ZgA (s ++ [i]) (fun w hw => ⟨hs', hJ _ W' w none hJ' (Z7 hw.ext) (fun _ e => by cases e), hB2.trans ((hk.1.mono (Wl _)).trans (hw.ext.bel.mono (Wi hB2.size hk.1.size))), ?_, hrW⟩) sbB (by simp only [Wp, List.length_singleton]; omega)
    have h3 := hk.2 r _ hr2 (ZcX _ _ _)
    exact (hw.ext.block _ (Zp h3)).trans h3
   ·refine ⟨_, rfl, ?_⟩
    refine Zbr (E := (12, .bool false) :: _) (fun _ _ h => by obtain ⟨⟨v, h⟩, _⟩ := h; cases h) rfl ?_
    repeat (refine wkM ?_; intros)
    refine Zai ?_
    refine Zbu rfl (fun _ => ?_) (fun h => by cases h)
    refine ZjN ?_
    refine Zbo ?_
    refine ZdS ?_
    refine Zbo ?_
    exact Zds rfl (fun w hw => ⟨⟨_, rfl⟩, .inr ⟨_, trivial, hJx _ W' w none hx' (Z7 hw.ext) (fun _ e => by cases e)⟩⟩)
end
section
def SeqIN (w : World) (b2 : Nat) (pre : List Int) (W : World) : Prop :=
 (∃ v', Boxed W b2 106 v' ∧ W.ownsRow w.heap.size 3 1 v' pre.length (rowL (eI .i64) pre) ∧ (pre = [] → v' = .slice none 0 0)) ∧ Below w.heap.size w W
theorem Zh1 {w : World} {b2 B : Nat} (hB : w.heap.size ≤ B) : OwnFrom B (SeqIN w b2) :=
 OwnFrom.and (Own.from (holdsRow_own w.heap.size b2 106 3 1 (fun pre => pre.length) (fun pre => rowL (eI .i64) pre) (fun pre v' => pre = [] → v' = .slice none 0 0)) _) (ownFrom_below (Wl _) hB)
def SeqAI (b2 : Nat) (x : Int) (a' : Act) (_ : World) : Prop := Rep 13 [(2, .pointer (some ⟨b2, 0, none⟩)), (5, .int .i64 x)] a'
theorem Zoh {w W w3 w4 : World} {b2 B : Nat} {v' v2 : Value} {pre : List Int} {x : Int} (hw : w.heap.size ≤ W.heap.size) (hBe : Below w.heap.size w W) (h5 : Boxed W b2 106 v') (hrow : W.ownsRow w.heap.size 3 1 v' pre.length (rowL (eI .i64) pre))
  (hx : Ext W w3) (hown : w4.ownsRow w.heap.size 3 1 v2 (pre.length + 1) (rowL (eI .i64) pre ++ rowL (eI .i64) [x])) (hg : w3.grownBy w4 v'.ownBlock) (hb2 : w.heap.size ≤ b2) :
  Boxed w4 b2 106 v' ∧ KeepsFrom B W (w4.setCell ⟨b2, 0, none⟩ v2) ∧ KpK w W (w4.setCell ⟨b2, 0, none⟩ v2) ∧ SeqIN w b2 (pre ++ [x]) (w4.setCell ⟨b2, 0, none⟩ v2) := by
 have hrow3 : w3.ownsRow w.heap.size 3 1 v' pre.length (rowL (eI .i64) pre) := hrow.kept (Z7 hx) (by cases v' with
  | slice p n c => cases p with
   | none => exact .inl rfl
   | some p => exact .inr (fun h => by cases h)
  | _ => exact .inl rfl)
 have q5 := Boxed.kept (ZcT h5 hx) hg (Boxed.not_row (ZcT h5 hx) (by decide) hrow3)
 have own : ∀ j, v'.ownBlock = some j → w.heap.size ≤ j ∧ ∃ cs T, w3.heap[j]? = some (.cells cs T (0, 0)) := fun j hj => by
  rcases hrow3.2 with ⟨rfl, _⟩ | ⟨g, cap, cur, rfl, hb, hgb, _⟩
  ·cases hj
  ·obtain rfl : g = j := by simpa [Value.ownBlock] using hj
   exact ⟨hb, _, _, hgb⟩
 have keep : ∀ (k : Nat) (o : Obj), W.heap[k]? = some o → o.isCells = false → (w4.setCell ⟨b2, 0, none⟩ v2).heap[k]? = some o := fun k o hk ho => by
  have e3 : w3.heap[k]? = some o := (hx.block k (Zp hk)).trans hk
  have e4 : w4.heap[k]? = some o := (hg.block k (Zp e3) (fun e => by obtain ⟨-, cs, T, hc⟩ := own k e.symm; rw [e3] at hc; cases hc; cases ho)).trans e3
  refine ((grownBy_setCell' w4 b2 v2).block k (Zp e4) (fun e => ?_)).trans e4
  obtain rfl : k = b2 := by simpa using e
  rw [show w4.heap[k]? = _ from q5] at e4
  cases e4
  cases ho
 have hbel := ((hx.bel.mono hw).grown hg (Wi hw hx.size) (fun j e => (own j e).1)).setCell (p := ⟨b2, 0, none⟩) hb2 v2
 refine ⟨q5, ⟨Wi hx.size (Wi hg.size (grownBy_setCell' w4 b2 v2).size), fun k o _ hk ho => keep k o hk ho⟩, ⟨hbel, fun k o hk ho => keep k o hk (Obj.not_cells_of_walk ho)⟩, ⟨⟨v2, Boxed.set v2 q5, ?_, fun h => ?_⟩, hBe.trans hbel⟩⟩
 ·have e := hown.kept (grownBy_setCell' w4 b2 v2) (.inr (Boxed.not_row q5 (by decide) hown).symm)
  rw [Wp, List.length_singleton, Zbi]
  exact e
 ·simp at h
set_option maxHeartbeats 4000000 in
theorem ZmI (Bm b : Nat) (TB : TypeId) (l : List (Int × Bool)) (w : World) (hl : l.length ≤ 1048576) (hB : ∃ fz, w.heap[Bm]? = some (.cells #[.map (some b)] TB fz)) (hb : w.heap[b]? = some (mIn l)) :
  Calls prog 333 [.slice none 0 0, .func (.func 307) #[] [.pointer (some ⟨Bm, 0, none⟩)].toArray].toArray w (RetM ((ys : { ys : List Int // ys.Perm (pKI l) }) × SlS (eI .i64) 1 ys.1) (fun s => vSl s.2) (fun s => mS 3 s.2) w) := by
 have hgo := Zfh (N := 5) (P := prog) (l := [Value.slice none 0 0, .func (.func 307) #[] [.pointer (some ⟨Bm, 0, none⟩)].toArray]) (w := w) (R := RetM ((ys : { ys : List Int // ys.Perm (pKI l) }) × SlS (eI .i64) 1 ys.1) (fun s => vSl s.2) (fun s => mS 3 s.2) w) Tryz.func333 rfl Tryz.ntmps333 rfl
 refine hgo ?_
 clear hgo
 refine Zaw ?_
 refine Zcp ?_
 repeat (refine wkM ?_; intros)
 refine Zai ?_
 refine Zaw ?_
 refine Zaw ?_
 refine Zcp ?_
 repeat (refine wkM ?_; intros)
 refine Zai ?_
 refine Za9 ?_
 rename_i b2
 refine ⟨fun a w1 ha hw1 => ?_⟩
 have hb2 := hw1.mem _ (.head _)
 have hwd := hw1.ext.size
 refine wpIn_rangeFunc_ownH (F := Fr none) (n := 5) (P := prog) (w0 := w1) (N := l.length + 1) (α := Int) (encs := fun x => #[.int .i64 x]) (S := fun ys => ys.Perm (pKI l)) (Sp := fun _ => True) (Kp := KpK w) rfl (by omega) (gf := 307) (lb := #[.pointer (some ⟨Bm, 0, none⟩)]) (ha.ev (x := .tmp 6) rfl) trivial (fun args w => ZbE (by kernel_rfl) args w)
  (Zjy w w1 Bm b 4 TB l hw1.ext.bel hB hb) (fun h k => ⟨h.1.trans k.1, fun i o ho hw => k.2 i o (h.2 i o ho hw) hw⟩) (fun W lo o o' hl h hc hk => ⟨belowK_b (w := w1) hwd W lo o o' hl h hc hk, fun k o2 h2 hw2 => (World.putObj_heap_other (fun e => by rw [e, h] at h2; cases h2; rw [hk] at hw2; cases hw2)).trans h2⟩) (Below.refl _ _) (fun _ => rfl)
  (SeqIN w b2) (fun _ _ _ => False) (Zh1 hwd) (fun _ _ _ _ _ hs _ _ => hs) ⟨⟨_, hb2.2, World.ownsRow_nil _ _ _ _, fun _ => rfl⟩, hw1.ext.bel⟩
  (SeqAI b2) (fun _ _ _ _ _ _ h _ _ => h) ?assign ?body ?done ?stop
 case stop =>
  rintro D c pre W _ _ h _
  exact h.elim
 case assign =>
  intro lo pre x W K hi hK
  have hact : ∀ a0 : Act, a0.defers = [] → ({ tmps := ((#[7] : Array Tmp).zip #[Value.int .i64 x]).foldl (fun t (p, v) => t.setIfInBounds p v) a0.tmps, defers := [] } : Act) = a0.put (some 7) (.int .i64 x) := fun a0 h => by
   cases a0
   simp only at h
   subst h
   simp [Act.put]
  rw [hact a ha.defers]
  have hrep := ha.put (some 7) (.int .i64 x) rfl
  refine JI.out (r := some lo) (N := 3) (P := prog) (w0 := W) (n := 13) (E := [(7, .int .i64 x), (2, .pointer (some ⟨b2, 0, none⟩))]) (L := []) ?_ _ W (hrep.sub sbB) (Own.start W)
  refine ZaX ?_
  refine Zbr (fun _ _ h => h) rfl ?_
  repeat (refine wkM ?_; intros)
  refine ⟨fun a' W' ha' hw' => hK a' W' ⟨hw'.ext.size, fun k o _ hk _ => (hw'.ext.block k (Zp hk)).trans hk⟩ ⟨hw'.ext.bel.mono hi.2.size, fun k o ho _ => (hw'.ext.block _ (Zp ho)).trans ho⟩ (Zh1 (Wl _) _ W W' none hi (Z7 hw'.ext) (fun r e => by cases e)) (ha'.sub sbB)⟩
 case body =>
  rintro lo pre x a' W hlw hr hi hra hlt
  obtain ⟨⟨v', hv', hrow, hnil⟩, hBe⟩ := hi
  obtain ⟨o, m, c, hvs⟩ : ∃ o m c, v' = .slice o m c := by
   rcases hrow.2 with ⟨h, _⟩ | ⟨g, cap, _, h, _⟩
   ·exact ⟨_, _, _, h⟩
   ·exact ⟨_, _, _, h⟩
  have f2 := FoC.mk ⟨(0, 0), hv'⟩
  rw [hvs] at f2
  refine JI.out (r := some lo) (N := 3) (P := prog) (w0 := W) (n := 13) (E := [(2, .pointer (some ⟨b2, 0, none⟩)), (5, .int .i64 x)]) (L := []) ?_ _ W hra (Own.start W)
  refine Za9 ?_
  refine ZaX ?_
  refine ⟨fun a2 w2 ha2 hw2 => ?_⟩
  refine Zbg [_, _, _] a2 w2 rfl (JO.out (w0 := W) (n := 13) (L := []) ?_ a2 w2 ha2 hw2)
  repeat (refine wkM ?_; intros)
  refine Zdp (fun a3 w3 ha3 hw3 => ?_)
  have hbn := (hw3.mem _ (.head _)).2
  refine Zfa (size := 1) (k := pre.length) (m := 1) (base := w.heap.size) (v := v') (xs := rowL (eI .i64) pre) (news := rowL (eI .i64) [x]) ha3 (by rw [hvs]; rfl) rfl rfl (by decide) (hrow.kept (Z7 hw3.ext) (by rw [hvs]; cases o with | none => exact .inl rfl | some p => exact .inr (fun h => by cases h))) (Z9 (k := 1) [x]) (fun j u hu => by rw [ZaE, Zat hbn, Nat.zero_add]; simpa [row] using hu) (Zcz [x]) (by simp only [maxLen]; omega) ?_ (Wi hBe.size hw3.ext.size) (fun v2 w4 hown hgrow => ?_)
  ·omega
  ·obtain ⟨g', cap', hv2⟩ := ownsRow_succ hown
   subst hv2
   obtain ⟨q5, k1, k2, k3⟩ := Zoh (x := x) (B := w1.heap.size) hBe.size hBe hv' hrow hw3.ext hown hgrow hb2.1
   refine Zed (b := b2) (ha3.put (some 11) _ rfl) rfl rfl q5 (by kernel_rfl) rfl rfl ?_
   exact wpListIn_nil ⟨k1, k2, k3⟩
 case done =>
  rintro D ys W hD hp hi hK
  obtain ⟨⟨v', hv', hrow, hnil⟩, hBe⟩ := hi
  obtain ⟨s, hs1, hs2, hs3⟩ := Zja hnil hrow
  obtain ⟨o, m, c, hvs⟩ : ∃ o m c, v' = .slice o m c := by
   rcases hrow.2 with ⟨h, _⟩ | ⟨g, cap, _, h, _⟩
   ·exact ⟨_, _, _, h⟩
   ·exact ⟨_, _, _, h⟩
  have f5 := FoC.mk ⟨(0, 0), hv'⟩
  rw [hvs] at f5 hs1
  have hra : Rep 13 [(2, .pointer (some ⟨b2, 0, none⟩))] a := ha.sub sbB
  have hl : YlC prog W 13 [] [(2, .pointer (some ⟨b2, 0, none⟩))] (.load 106 (.tmp 2)) (.slice o m c) := inferInstance
  show Code.wpIn (Fr none) 5 _ _ _ _ W
  refine wpIn_seq (wpIn_region_lit ?_)
  refine Zdu (a := a) (L := []) (w0 := W) (hl.out _ _ _ _ _) hra (Own.start W) rfl rfl (fun W2 hx2 => ?_)
  refine Zdu (a := a.put (some 12) (.slice o m c)) (L := []) (w0 := W2) (E := Env.put [(2, .pointer (some ⟨b2, 0, none⟩))] (some 12) (.slice o m c)) (Zea rfl) (hra.put (some 12) _ rfl) (Own.start W2) rfl rfl (fun W3 hx3 => ?_)
  refine wpListIn_nil ?_
  have hx := hx2.tr hx3
  have hK3 : W3.heap[D]? = some (.deferred (some [])) := (hx.block D (Zp hK)).trans hK
  have hr4 : ((a.put (some 12) (.slice o m c)).put (some 4) (.slice o m c)).tmps[4]? = some (.slice o m c) := ((hra.put (some 12) _ rfl).put (some 4) (.slice o m c) rfl).val 4 _ rfl
  refine wpIn_ret ?_
  refine ⟨by simp, .inl ⟨_, _, rfl, run_takeDeferred hK3, ?_⟩⟩
  rw [ha.defers]
  refine ⟨.slice o m c, ?_, ⟨⟨ys, hp⟩, s⟩, by rw [hs1], ⟨⟨?_, trivial⟩, fun e he => ?_, hs2⟩⟩
  ·rw [results_tmp rfl]
   show Result.ok (Array.getD _ 4 undef) _ = _
   rw [Array.getD_eq_getD_getElem?, hr4]
   rfl
  ·exact (hBe.trans (hx.bel.mono hBe.size)).trans (belowK_b (w := w1) hwd W3 D _ _ hD hK3 rfl rfl)
  ·obtain ⟨h1, h2⟩ := hs3 e he
   have h3 := (hx.block _ (Zp h2)).trans h2
   refine ⟨h1, (World.putObj_heap_other (fun hd => ?_)).trans h3⟩
   rw [hd, hK3] at h3
   simp only at he
   rcases s.cases 3 with ⟨-, -, x2⟩ | ⟨bs, cs, sp, -, -, x2, -⟩
   ·rw [x2] at he
    cases he
   ·rw [x2, Wo] at he
    subst he
    cases h3
end
section
instance ZD9 (x : Int) : SpecC prog 209 [.int .i64 x] (.bool false) True := ⟨fun _ w => by
 refine Zg Tryz.func209 rfl Tryz.ntmps209 rfl ?_
 repeat (refine wkM ?_; intros)
 simp only [Wc (show x = x from rfl), Bool.not_true]
 repeat (refine wkM ?_; intros)
 exact Zf rfl rfl (fun w hw => Zi hw)⟩
instance ZEy (x : Int) : SpecC prog 263 [.int .i64 x] (.bool false) True := ⟨fun _ w => by
 refine Zg Tryz.func263 rfl Tryz.ntmps263 rfl ?_
 repeat (refine wkM ?_; intros)
 simp only [Wc (show x = x from rfl), Bool.not_true]
 repeat (refine wkM ?_; intros)
 exact Zf rfl rfl (fun w hw => Zi hw)⟩
instance ZAU (x y : Int) : SpecC prog 262 [.int .i64 x, .int .i64 y] (.bool (decide (x < y))) True := ⟨fun _ w => by
 refine Zg Tryz.func262 rfl Tryz.ntmps262 rfl ?_
 repeat (first | (refine wkM ?_; intros) | (refine wnM ?_ ?_; (focus (exact trivial)); intros))
 exact Zf rfl rfl (fun w hw => Zi hw)⟩
instance Zzi : CallC prog 262 := ⟨by kernel_rfl⟩
instance ZAn : CallC prog 263 := ⟨by kernel_rfl⟩
def cmpI (a b : Int) : Int := a - b
def leI (a b : Int) : Prop := a ≤ b
def sortI (xs : List Int) : List Int := srtG cmpI xs (xs.length - 1)
theorem ZcH (xs : List Int) : (sortI xs).Perm xs := by
 unfold sortI
 rcases Nat.eq_zero_or_pos xs.length with h | h
 ·rw [List.length_eq_zero_iff.1 h]
  exact .refl _
 ·exact ZbL _ _ _ (by omega)
theorem Zd1 (xs : List Int) : (sortI xs).length = xs.length := (ZcH xs).length_eq
theorem Zd6 (xs : List Int) : (sortI xs).Pairwise leI := by
 refine List.pairwise_iff_getElem.2 fun p q hp hq hpq => ?_
 have hl := Zd1 xs
 rw [← Zk hp, ← Zk hq]
 unfold sortI
 exact ZcW (c := cmpI) (le := leI) (fun a b h => by unfold leI cmpI at *; omega) (fun a b h => by unfold leI cmpI at *; omega) (fun _ _ _ h k => Int.le_trans h k) xs (xs.length - 1) (by omega) p q hpq (by omega)
theorem ZiO {xs ys : List Int} (h : xs.Perm ys) : sortI xs = sortI ys :=
 Zcj (fun _ _ h k => Int.le_antisymm h k) ((ZcH xs).trans (h.trans (ZcH ys).symm)) (Zd6 xs) (Zd6 ys)
theorem ZnE (xs : List Int) (j : Nat) : (swpG xs j).length = xs.length := ZcV xs j
theorem ZoS (xs : List Int) (i : Nat) (h : i < xs.length) : (srtG cmpI xs i).length = xs.length := (ZbL cmpI xs i h).length_eq
set_option maxHeartbeats 4000000 in
theorem Zny (w0 w : World) (L1 : List Blk) (b c n : Nat) (xs : List Int) (sp : List Value) (T : TypeId) (hn : xs.length = n) (h0 : 0 < n) (hl : n ≤ 1048576) (hw : Own w0 (⟨b, row (eI .i64) xs sp, T⟩ :: L1) w) :
  Calls prog 355 [.slice (some ⟨b, 0, none⟩) n c, .int .i64 0, .int .i64 n].toArray w (RetX w0 Unit (fun _ => .tuple #[]) (fun _ => ⟨b, row (eI .i64) (sortI xs) sp, T⟩ :: L1)) := by
 have hso : sortI xs = srtG cmpI xs (n - 1) := by rw [sortI, hn]
 rw [hso]
 refine Z2 Tryz.func355 rfl Tryz.ntmps355 rfl hw ?_
 repeat (refine wkM ?_; intros)
 refine Zq (S := Nat) (fun m => m ≤ n - 1) (fun m => [(0, .slice (some ⟨b, 0, none⟩) n c), (1, .int .i64 0), (2, .int .i64 n), (6, .int .i64 ((m + 1 : Nat)))]) (fun m => ⟨b, row (eI .i64) (srtG cmpI xs m) sp, T⟩ :: L1) (fun m => n - 1 - m) 0 (Wm _) sbB slB (fun m hm => ?_)
 have hsl := ZoS xs m (by omega)
 repeat (refine wkM ?_; intros)
 refine Zn rfl (fun h => ?_) (fun h => ?_)
 ·have hlt : m + 1 < n := by have := Wa h; omega
  repeat (refine wkM ?_; intros)
  refine Zq (S := Nat × List Int) (fun s => dwnG cmpI s.2 s.1 = srtG cmpI xs (m + 1) ∧ s.2.length = n ∧ s.1 ≤ m + 1) (fun s => [(0, .slice (some ⟨b, 0, none⟩) n c), (1, .int .i64 0), (2, .int .i64 n), (6, .int .i64 ((m + 1 : Nat))), (7, .int .i64 ((s.1 : Nat)))]) (fun s => ⟨b, row (eI .i64) s.2 sp, T⟩ :: L1) (fun s => s.1) (m + 1, srtG cmpI xs m)
   ⟨rfl, by show (srtG cmpI xs m).length = n; omega, Wl _⟩ sbB slB (fun s hs => ?_)
  obtain ⟨j, ys⟩ := s
  obtain ⟨g1, g2, g3⟩ := hs
  simp only at g1 g2 g3 ⊢
  repeat (refine wkM ?_; intros)
  rcases j with _ | j
  ·(refine jD 15 15 (h := ?_); (repeat (refine wkH ?_)); refine Zo ?_; (repeat (refine Z8 ?_; intro _)); refine Zr ?_)
   repeat (refine wkM ?_; intros)
   exact Zj (m + 1) (by omega) sbB (by rw [← g1]; exact Wj _) (by omega)
  ·have hj1 : ((j : Int)).toNat < ys.length := by omega
   have hj2 : (((j + 1 : Nat) : Int)).toNat < ys.length := by omega
   have e1 : ((j + 1 : Nat) : Int) - 1 = (j : Int) := by omega
   rw [dwnG] at g1
   refine jD 15 15 (h := ?_)
   (repeat (refine wkH ?_))
   simp only [Wc (show (0 : Int) < ((j + 1 : Nat) : Int) by omega), e1]
   (repeat (refine wkH ?_))
   simp only [e1]
   (repeat (first | refine wkH ?_ | (refine tC rfl rfl ?_ ?_; focus (exact trivial))))
   refine Zo ?_
   refine Zr ?_
   repeat (refine wkM ?_; intros)
   by_cases hc : gi ys ((j + 1 : Nat) : Int) < gi ys (j : Int)
   ·rw [if_pos (by unfold cmpI; omega)] at g1
    simp only [Wc hc]
    repeat (refine wkM ?_; intros)
    (refine ZfP [(true, [0, 1, 2, 3, 4, 5, 6, 7, 8]), (false, [9]), (true, [10, 11, 12]), (false, [13]), (true, [14])] [15, 16, 17] (h := ?_); refine wkS ?_)
    (repeat (refine wkH ?_))
    simp only [e1]
    refine Zo ?_
    refine eR rfl ?_ ?_
    ·omega
    refine uS rfl rfl ?_ ?_
    ·omega
    refine eR rfl ?_ ?_
    ·rw [List.length_set]; omega
    refine Zbq ?_
    simp only [Int.toNat_natCast]
    repeat (refine wkO ?_; intros)
    simp only [e1]
    exact Zj (j, swpG ys j) ⟨g1, by rw [ZnE]; exact g2, by omega⟩ sbB slB (by show j < j + 1; omega)
   ·rw [if_neg (by unfold cmpI; omega)] at g1
    simp only [We hc]
    repeat (refine wkO ?_; intros)
    exact Zj (m + 1) (by omega) sbB (by rw [← g1]; exact Wj _) (by omega)
 ·have hge : m = n - 1 := by have := Wb h; omega
  subst hge
  repeat (refine wkM ?_; intros)
  exact Zar rfl (fun w hw => ⟨(), rfl, hw⟩)
abbrev SrtSI (xs : List Int) (s : SlS (eI .i64) 1 xs) : Type := { s' : SlS (eI .i64) 1 (sortI xs) // vSl s' = vSl s }
theorem ZmZ (w0 w : World) (L L1 : List Blk) (xs : List Int) (s : SlS (eI .i64) 1 xs) (T : TypeId) [hd : OwnS T s L L1] (hl : xs.length ≤ 12) (hw : Own w0 L w) :
  Calls prog 355 [vSl s, .int .i64 0, .int .i64 xs.length].toArray w (RetX w0 (SrtSI xs s) (fun _ => .tuple #[]) (fun s' => mS T s'.1 ++ L1)) := by
 have hw1 := hw.perm hd.out
 rcases s.cases T with ⟨rfl, hv, hm⟩ | ⟨b, c, sp, h1, hv, hm, hne⟩
 ·suffices h : Calls prog 355 [.slice none 0 0, .int .i64 0, .int .i64 (([] : List Int).length : Nat)].toArray w (RetX w0 (SrtSI [] s) (fun _ => .tuple #[]) (fun s' => mS T s'.1 ++ L1)) by
   rw [← hv] at h
   exact h
  refine Z2 Tryz.func355 rfl Tryz.ntmps355 rfl hw1 ?_
  repeat (refine wkM ?_; intros)
  refine Zq (S := Unit) (fun _ => True) (fun _ => [(2, .int .i64 (([] : List Int).length : Nat)), (6, .int .i64 1)]) (fun _ => mS T s ++ L1) (fun _ => 0) () trivial sbB slB (fun _ _ => ?_)
  repeat (refine wkM ?_; intros)
  simp only [We (show ¬ (1 : Int) < ((([] : List Int).length : Nat) : Int) by simp)]
  repeat (refine wkM ?_; intros)
  exact Zar rfl (fun w hw => ⟨⟨s, rfl⟩, rfl, hw⟩)
 ·suffices h : Calls prog 355 [.slice (some ⟨b, 0, none⟩) xs.length c, .int .i64 0, .int .i64 xs.length].toArray w (RetX w0 (SrtSI xs s) (fun _ => .tuple #[]) (fun s' => mS T s'.1 ++ L1)) by
   rw [← hv] at h
   exact h
  rw [hm] at hw1
  have hsl := Zd1 xs
  have hpos : 0 < xs.length := List.length_pos_iff.2 hne
  refine (Zny w0 w L1 b c xs.length xs sp T rfl hpos (by omega) hw1).mono fun e w' ⟨_, he, hw'⟩ => ?_
  exact ⟨⟨SlS.at_ b c sp (by rw [hsl]; exact h1) (fun h0 => hne (List.length_eq_zero_iff.1 (by rw [h0, Wx] at hsl; exact hsl.symm))), by rw [hv]; show Value.slice _ (sortI xs).length c = _; rw [hsl]⟩, he, hw'⟩
instance ZEV (w0 : World) (L L1 : List Blk) (xs : List Int) (s : SlS (eI .i64) 1 xs) (T : TypeId) [hd : OwnS T s L L1] : SpecX prog w0 L 355 [vSl s, .int .i64 0, .int .i64 xs.length] (SrtSI xs s) (fun _ => .tuple #[]) (fun s' => mS T s'.1 ++ L1) (xs.length ≤ 12) := ⟨fun hp w hw => ZmZ w0 w L L1 xs s T hp hw⟩
theorem Zok (w0 w : World) (L L1 : List Blk) (xs : List Int) (s : SlS (eI .i64) 1 xs) (T : TypeId) (z : Int) [hd : OwnS T s L L1] (hl : xs.length ≤ 12) (hw : Own w0 L w) :
  Calls prog 334 [vSl s, .int .i64 0, .int .i64 xs.length, .int .i64 z].toArray w (RetX w0 (SrtSI xs s) (fun _ => .tuple #[]) (fun s' => mS T s'.1 ++ L1)) := by
 refine Z2 Tryz.func334 rfl Tryz.ntmps334 rfl hw ?_
 repeat (refine wkM ?_; intros)
 refine Zq (S := Unit) (fun _ => True) (fun _ => [(0, vSl s), (1, .int .i64 0), (2, .int .i64 xs.length)]) (fun _ => L) (fun _ => 0) () trivial sbB slB (fun _ _ => ?_)
 repeat (refine wkM ?_; intros)
 simp only [Wc (show (xs.length : Int) - 0 ≤ 12 by omega)]
 repeat (refine wkM ?_; intros)
 refine sZ rfl rfl hl ?_
 intro s'
 repeat (refine wkM ?_; intros)
 exact Zds rfl (fun w hw => ⟨s', rfl, hw⟩)
instance ZDM (w0 : World) (L L1 : List Blk) (xs : List Int) (s : SlS (eI .i64) 1 xs) (T : TypeId) (z : Int) [hd : OwnS T s L L1] : SpecX prog w0 L 334 [vSl s, .int .i64 0, .int .i64 xs.length, .int .i64 z] (SrtSI xs s) (fun _ => .tuple #[]) (fun s' => mS T s'.1 ++ L1) (xs.length ≤ 12) := ⟨fun hp w hw => Zok w0 w L L1 xs s T z hp hw⟩
theorem Zm9 (w0 w : World) (L L1 : List Blk) (xs : List Int) (s : SlS (eI .i64) 1 xs) (T : TypeId) [hd : OwnS T s L L1] (hl : xs.length ≤ 12) (hw : Own w0 L w) :
  Calls prog 306 [vSl s].toArray w (RetX w0 (SrtSI xs s) (fun _ => .tuple #[]) (fun s' => mS T s'.1 ++ L1)) := by
 refine Z2 Tryz.func306 rfl Tryz.ntmps306 rfl hw ?_
 have hr : ((xs.length : Nat) : Int) ≤ 18446744073709551615 := by omega
 repeat (first | (refine wkM ?_; intros) | (refine wnM ?_ ?_; (focus (first | exact hr | exact ⟨by omega, by omega⟩)); intros))
 refine sZ rfl rfl hl ?_
 intro s'
 repeat (refine wkM ?_; intros)
 exact Zar rfl (fun w hw => ⟨s', rfl, hw⟩)
instance ZCG (w0 : World) (L L1 : List Blk) (xs : List Int) (s : SlS (eI .i64) 1 xs) (T : TypeId) [hd : OwnS T s L L1] : SpecX prog w0 L 306 [vSl s] (SrtSI xs s) (fun _ => .tuple #[]) (fun s' => mS T s'.1 ++ L1) (xs.length ≤ 12) := ⟨fun hp w hw => Zm9 w0 w L L1 xs s T hp hw⟩
structure CutI (xs : List Int) (t : Int) (k : Nat) : Prop where
 le : k ≤ xs.length
 lo : ∀ j : Nat, j < k → gi xs (j : Int) < t
 hi : ∀ j : Nat, k ≤ j → j < xs.length → t ≤ gi xs (j : Int)
theorem Zhb {t : Int} : ∀ {xs : List Int}, xs.Pairwise leI → ∃ k, CutI xs t k
 | [], _ => ⟨0, Wl _, fun j h => absurd h (Nat.not_lt_zero _), fun j _ h => absurd h (Nat.not_lt_zero _)⟩
 | x :: xs, h => by
  obtain ⟨h1, h2⟩ := List.pairwise_cons.1 h
  by_cases hx : x < t
  ·obtain ⟨k, k1, k2, k3⟩ := Zhb (t := t) h2
   refine ⟨k + 1, by simpa using k1, fun j hj => ?_, fun j hj hl => ?_⟩
   ·rcases j with _ | j
    ·exact hx
    ·have := k2 j (by omega)
     rw [Zk (by simp; omega)]
     rw [Zk (by omega)] at this
     simpa using this
   ·rcases j with _ | j
    ·omega
    ·have := k3 j (by omega) (by simpa using hl)
     rw [Zk hl]
     rw [Zk (by simpa using hl)] at this
     simpa using this
  ·refine ⟨0, Wm _, fun j h => absurd h (Nat.not_lt_zero _), fun j _ hl => ?_⟩
   rw [Zk hl]
   rcases j with _ | j
   ·show t ≤ x
    omega
   ·have h3 : x ≤ xs[j]'(by simpa using hl) := h1 _ (List.getElem_mem _)
    show t ≤ xs[j]'(by simpa using hl)
    omega
theorem ZqL {xs : List Int} {t : Int} {k : Nat} (h : CutI xs t k) (hs : xs.Pairwise leI) : (k < xs.length ∧ gi xs (k : Int) = t) ↔ t ∈ xs := by
 constructor
 ·rintro ⟨h1, h2⟩
  rw [← h2]
  exact Z0 (by omega)
 ·intro hm
  obtain ⟨j, hj, rfl⟩ := List.getElem_of_mem hm
  have hjk : k ≤ j := by
   rcases Nat.lt_or_ge j k with h1 | h1
   ·have := h.lo j h1
    rw [Zk hj] at this
    omega
   ·exact h1
  have hk : k < xs.length := by omega
  refine ⟨hk, ?_⟩
  have h1 := h.hi k (Wl _) hk
  rw [Zk hk] at h1 ⊢
  rcases Nat.lt_or_ge k j with h2 | h2
  ·have := List.pairwise_iff_getElem.1 hs k j hk hj h2
   unfold leI at this
   omega
  ·have : k = j := by omega
   subst this
   rfl
set_option maxHeartbeats 4000000 in
theorem Zqp (v : Value) (xs : List Int) (t : Int) (k : Nat) (hk : CutI xs t k) (hs : xs.Pairwise leI) (w : World) (hv : ArgS w v (eI .i64) xs) (hl : xs.length ≤ 1048576) :
  Calls prog 212 [v, .int .i64 t].toArray w (Ret (.tuple #[.int .i64 (k : Nat), .bool (decide (t ∈ xs))]) w) := by
 rw [show decide (t ∈ xs) = decide (k < xs.length ∧ gi xs (k : Int) = t) from decide_eq_decide.2 (ZqL hk hs).symm]
 refine Zg Tryz.func212 rfl Tryz.ntmps212 rfl ?_
 obtain ⟨p, cp, rfl⟩ := hv.form
 repeat (refine wkM ?_; intros)
 refine Zq (S := Nat × Nat) (fun s => s.1 ≤ k ∧ k ≤ s.2 ∧ s.2 ≤ xs.length) (fun s => [(0, .slice p xs.length cp), (1, .int .i64 t), (6, .int .i64 xs.length), (7, .int .i64 (s.1 : Nat)), (8, .int .i64 (s.2 : Nat))]) (fun _ => []) (fun s => s.2 - s.1) (0, xs.length)
  ⟨Wm _, hk.le, Wl _⟩ sbB slB (fun s hs => ?_)
 obtain ⟨lo, hi⟩ := s
 obtain ⟨h1, h2, h3⟩ := hs
 simp only at h1 h2 h3 ⊢
 repeat (refine wkM ?_; intros)
 refine Zn rfl (fun h => ?_) (fun h => ?_)
 ·have hlt : lo < hi := by have := Wa h; omega
  have hne : xs ≠ [] := fun h0 => by rw [h0] at h3; simp at h3; omega
  obtain ⟨bw, ow, cw, hvw, hcw, hrow⟩ := hv.blk (k := 0) hne []
  injection hvw with e1 e2 e3
  subst e1
  subst e3
  have hrow' : ∀ L, RowC w L bw ow Int (eI .i64) xs := fun L => ⟨fun w' hw' => hrow.out w' (hw'.sub (Wk _))⟩
  repeat (refine wkM ?_; intros)
  refine jq (Zcn rfl rfl (by decide)) rfl rfl ?_
  obtain ⟨m, hm⟩ : ∃ m, m = (lo + hi) / 2 := ⟨_, rfl⟩
  have em : ((lo : Int) + (hi : Int)) / 2 ^ (1 : Int).toNat = (m : Int) := by
   rw [show (2 : Int) ^ (1 : Int).toNat = 2 from rfl]
   omega
  simp only [em]
  have hml : lo ≤ m ∧ m < hi := by omega
  repeat (first | (refine wkM ?_; intros) | (refine wnM ?_ ?_; (focus (exact trivial)); intros))
  by_cases hc : gi xs (m : Int) < t
  ·simp only [Wc hc]
   have hmk : m < k := by
    rcases Nat.lt_or_ge m k with h1 | h1
    ·exact h1
    ·have := hk.hi m h1 (by omega)
     omega
   repeat (refine wkO ?_; intros)
   exact Zj (m + 1, hi) ⟨hmk, h2, h3⟩ sbB slB (by show hi - (m + 1) < hi - lo; omega)
  ·simp only [We hc]
   have hmk : k ≤ m := by
    rcases Nat.lt_or_ge m k with h1 | h1
    ·exact absurd (hk.lo m h1) hc
    ·exact h1
   repeat (refine wkM ?_; intros)
   exact Zj (lo, m) ⟨h1, hmk, by show m ≤ xs.length; omega⟩ sbB slB (by show m - lo < hi - lo; omega)
 ·have hge : lo = k ∧ hi = k := by have := Wb h; omega
  obtain ⟨rfl, rfl⟩ := hge
  repeat (refine wkM ?_; intros)
  by_cases hlt : hi < xs.length
  ·have hne : xs ≠ [] := fun h0 => by rw [h0] at hlt; simp at hlt
   obtain ⟨bw, ow, cw, hvw, hcw, hrow⟩ := hv.blk (k := 0) hne []
   injection hvw with e1 e2 e3
   subst e1
   subst e3
   have hrow' : ∀ L, RowC w L bw ow Int (eI .i64) xs := fun L => ⟨fun w' hw' => hrow.out w' (hw'.sub (Wk _))⟩
   simp only [Wc (show (hi : Int) < (xs.length : Int) by omega)]
   repeat (refine wkM ?_; intros)
   by_cases he : gi xs (hi : Int) = t
   ·rw [Wc (show hi < xs.length ∧ gi xs (hi : Int) = t from ⟨hlt, he⟩)]
    simp only [Wc he]
    repeat (refine wkM ?_; intros)
    exact Zz rfl (Zl rfl) (Zl rfl) (fun w hw => Zi hw)
   ·rw [We (show ¬ (hi < xs.length ∧ gi xs (hi : Int) = t) from fun h => he h.2)]
    simp only [We he]
    repeat (first | (refine wkM ?_; intros) | (refine wnM ?_ ?_; (focus (exact trivial)); intros))
    exact Zz rfl (Zl rfl) (Zl rfl) (fun w hw => Zi hw)
  ·rw [We (show ¬ (hi < xs.length ∧ gi xs (hi : Int) = t) from fun h => hlt h.1)]
   try simp only [We (show ¬ (hi : Int) < (xs.length : Int) by omega)]
   repeat (refine wkM ?_; intros)
   exact Zz rfl (Zl rfl) (Zl rfl) (fun w hw => Zi hw)
end
end Go.Vt
