/- Proof that reconstructed trajectories are explained by their reports (part 24 of 27.) Conditions: those that each statement names. -/
import Derived.Test.YtjicdlilgjdefaaGreatDoorKE11
import Derived.Test.YtjicdlilgjdefaaGreatDoorKE17
import Derived.Test.YtjicdlilgjdefaaGreatDoorKE18
import Derived.Test.YtjicdlilgjdefaaGreatDoorKE23
/- The reports of an object with their times, put into a list one by one: the same list. Conditions: those that each statement names. -/
set_option linter.unusedSimpArgs false
set_option linter.unusedVariables false
set_option maxHeartbeats 2000000
set_option maxRecDepth 100000
namespace Go.Vt
open Go.RowKit Go.Proofs
def leTm (a b : Zd) : Prop := a.T < b.T ∨ (a.T = b.T ∧ a.Report.Seq ≤ b.Report.Seq)
instance (a b : Zd) : Decidable (leTm a b) := by unfold leTm; infer_instance
theorem Zhm {a b c : Zd} (h : leTm a b) (k : leTm b c) : leTm a c := by
 unfold leTm at *
 rcases h with h | ⟨h, h'⟩ <;> rcases k with k | ⟨k, k'⟩
 ·exact .inl (by grind)
 ·exact .inl (by rw [← k]; exact h)
 ·exact .inl (by rw [h]; exact k)
 ·exact .inr ⟨h.trans k, Int.le_trans h' k'⟩
theorem Zoq (a b : Zd) : leTm a b ∨ leTm b a := by
 unfold leTm
 by_cases h : a.T < b.T
 ·exact .inl (.inl h)
 ·by_cases k : b.T < a.T
  ·exact .inr (.inl k)
  ·have e : a.T = b.T := by grind
   rcases Int.le_total a.Report.Seq b.Report.Seq with h1 | h1
   ·exact .inl (.inr ⟨e, h1⟩)
   ·exact .inr (.inr ⟨e.symm, h1⟩)
theorem ZhR (a b : Zd) : (a.T < b.T ∧ cmpTm a b = -1) ∨ (b.T < a.T ∧ cmpTm a b = 1) ∨ (a.T = b.T ∧ cmpTm a b = Lib.compareInt a.Report.Seq b.Report.Seq) := by
 unfold cmpTm
 simp only [orL]
 by_cases h : a.T < b.T
 ·refine .inl ⟨h, ?_⟩
  rw [show cq a.T b.T = -1 from if_pos h]
  rfl
 ·by_cases k : b.T < a.T
  ·refine .inr (.inl ⟨k, ?_⟩)
   rw [show cq a.T b.T = 1 by unfold cq; rw [if_neg h, if_pos k]]
   rfl
  ·refine .inr (.inr ⟨by grind, ?_⟩)
   rw [show cq a.T b.T = 0 by unfold cq; rw [if_neg h, if_neg k], if_pos rfl]
   split
   ·rename_i h0; exact h0.symm
   ·rfl
theorem Zpj {a b : Zd} (h : cmpTm a b < 0) : leTm a b := by
 rcases ZhR a b with ⟨h1, -⟩ | ⟨-, h2⟩ | ⟨h1, h2⟩
 ·exact .inl h1
 ·omega
 ·refine .inr ⟨h1, ?_⟩
  rw [h2] at h
  unfold Lib.compareInt at h
  split at h
  ·omega
  ·split at h <;> omega
theorem Zpw {a b : Zd} (h : ¬ cmpTm a b < 0) : leTm b a := by
 rcases ZhR a b with ⟨-, h2⟩ | ⟨h1, -⟩ | ⟨h1, h2⟩
 ·omega
 ·exact .inl h1
 ·refine .inr ⟨h1.symm, ?_⟩
  rw [h2] at h
  unfold Lib.compareInt at h
  split at h
  ·omega
  ·split at h <;> omega
theorem ZqY (xs : List Zd) (j : Nat) : swpTm xs j = swpG xs j := rfl
theorem Zlk : ∀ (j : Nat) (xs : List Zd), dwnTm xs j = dwnG cmpTm xs j
 | 0, _ => rfl
 | j + 1, xs => by rw [dwnTm, dwnG, Zlk j, ZqY]
theorem Zhb (xs : List Zd) : ∀ i, srtTm xs i = srtG cmpTm xs i
 | 0 => rfl
 | i + 1 => by rw [srtTm, srtG, Zlk, Zhb xs i]
theorem ZjV (xs : List Zd) : (srtTm xs (xs.length - 1)).Perm xs := by
 rw [Zhb]
 rcases Nat.eq_zero_or_pos xs.length with h | h
 ·rw [List.length_eq_zero_iff.1 h]
  exact .refl _
 ·exact ZbB _ _ _ (by omega)
theorem Zmj (xs : List Zd) : (srtTm xs (xs.length - 1)).Pairwise leTm := by
 refine List.pairwise_iff_getElem.2 fun p q hp hq hpq => ?_
 have hl := Zcl xs (xs.length - 1)
 rw [← Zl hp, ← Zl hq]
 rw [Zhb]
 exact ZcO (c := cmpTm) (le := leTm) (fun a b h => Zpj h) (fun a b h => Zpw h) (fun _ _ _ => Zhm) xs (xs.length - 1) (by omega) p q hpq (by omega)
def posT (l : List Zd) (x : Zd) : Nat → Nat
 | 0 => 0
 | k + 1 => if leTm (gi l (k : Int)) x then k + 1 else posT l x k
def putL (l : List Zd) (x : Zd) : List Zd := l.take (posT l x l.length) ++ x :: l.drop (posT l x l.length)
theorem Zlr (l : List Zd) (x : Zd) : ∀ k, posT l x k ≤ k
 | 0 => Nat.le_refl _
 | k + 1 => by
  have := Zlr l x k
  rw [posT]
  split <;> omega
theorem ZkA (l : List Zd) (x : Zd) : ∀ k j : Nat, posT l x k ≤ j → j < k → ¬ leTm (gi l (j : Int)) x
 | 0, j, _, h => absurd h (Nat.not_lt_zero _)
 | k + 1, j, h1, h2 => by
  rw [posT] at h1
  split at h1
  ·omega
  ·rename_i hk
   rcases Nat.lt_or_ge j k with h3 | h3
   ·exact ZkA l x k j h1 h3
   ·rw [show j = k by omega]
    exact hk
theorem Zls (l : List Zd) (x : Zd) : ∀ k p : Nat, posT l x k = p + 1 → leTm (gi l (p : Int)) x
 | 0, p, h => by simp [posT] at h
 | k + 1, p, h => by
  rw [posT] at h
  split at h
  ·rename_i hk
   rw [show p = k by omega]
   exact hk
  ·exact Zls l x k p h
theorem ZnT (l : List Zd) (x : Zd) : (putL l x).Perm (x :: l) := by
 unfold putL
 refine List.perm_middle.trans (List.Perm.cons _ ?_)
 rw [List.take_append_drop]
theorem Zqb {l : List Zd} {x : Zd} (h : l.Pairwise leTm) : (putL l x).Pairwise leTm := by
 have hp := Zlr l x l.length
 unfold putL
 generalize hq : posT l x l.length = p at *
 have hlo : ∀ y ∈ l.take p, leTm y x := fun y hy => by
  obtain ⟨j, hj, rfl⟩ := List.getElem_of_mem hy
  rw [List.length_take] at hj
  cases p with
  | zero => omega
  | succ p =>
   have h1 := Zls l x l.length p hq
   rw [Zl (by omega)] at h1
   rw [List.getElem_take]
   rcases Nat.lt_or_ge j p with h2 | h2
   ·exact Zhm (List.pairwise_iff_getElem.1 h j p (by omega) (by omega) h2) h1
   ·have e : j = p := by omega
    subst e
    exact h1
 have hhi : ∀ y ∈ l.drop p, leTm x y := fun y hy => by
  obtain ⟨j, hj, rfl⟩ := List.getElem_of_mem hy
  rw [List.length_drop] at hj
  rw [List.getElem_drop]
  have h1 := ZkA l x l.length (p + j) (by omega) (by omega)
  rw [Zl (by omega)] at h1
  exact (Zoq _ _).resolve_left h1
 refine List.pairwise_append.2 ⟨h.sublist (List.take_sublist _ _), List.pairwise_cons.2 ⟨hhi, h.sublist (List.drop_sublist _ _)⟩, fun a ha b hb => ?_⟩
 rcases List.mem_cons.1 hb with rfl | hb
 ·exact hlo a ha
 ·exact Zhm (hlo a ha) (hhi b hb)
def puts (l : List Zd) : List Zd := l.foldl putL []
theorem ZfK (l : List Zd) : (puts l).Perm l ∧ (puts l).Pairwise leTm := by
 have key : ∀ (l a : List Zd), a.Pairwise leTm → (l.foldl putL a).Perm (a ++ l) ∧ (l.foldl putL a).Pairwise leTm := by
  intro l
  induction l with
  | nil => intro a h; exact ⟨by rw [List.append_nil]; exact .refl _, h⟩
  | cons x l ih =>
   intro a h
   obtain ⟨h1, h2⟩ := ih (putL a x) (Zqb h)
   refine ⟨h1.trans (((ZnT a x).append_right l).trans ?_), h2⟩
   exact List.perm_middle.symm
 have := key l [] .nil
 rw [List.nil_append] at this
 exact this
theorem Zn1 (l : List Zd) (x : Zd) : puts (l ++ [x]) = putL (puts l) x := by
 unfold puts
 rw [List.foldl_append]
 rfl
theorem Ziz (l : List Zd) : (puts l).length = l.length := (ZfK l).1.length_eq
noncomputable def repL (rs : List Zb) (es : List Za) (o : Int) : List Zd := puts (tmXL es (ofL rs o))
theorem Zsx {r z : Zb} (h : r.Object = z.Object) (k : r.Seq = z.Seq) : idR r = idR z := by unfold idR; rw [h, k]
theorem ZqG {rs : List Zb} {o : Int} {r z : Zb} (hr : r ∈ ofL rs o) (hz : z ∈ ofL rs o) (h : r.Seq = z.Seq) : r = z := by
 obtain ⟨h1, h2⟩ := List.mem_filter.1 hr
 obtain ⟨g1, g2⟩ := List.mem_filter.1 hz
 have e := Zsx ((of_decide_eq_true h2).trans (of_decide_eq_true g2).symm : r.Object = z.Object) h
 have k1 := (ZeA.1 h1).2
 have k2 := (ZeA.1 g1).2
 rw [e, k2] at k1
 exact (Option.some.inj k1).symm
theorem ZnB (rs : List Zb) (o : Int) : (ofL rs o).Nodup := (Zey rs).filter _
theorem ZgE {ex : List Za} : ∀ {cs : List Zb}, cs.Nodup → (tmXL ex cs).Nodup
 | [], _ => List.nodup_nil
 | r :: cs, h => by
  obtain ⟨h1, h2⟩ := List.nodup_cons.1 h
  have ih := ZgE (ex := ex) h2
  unfold tmXL at *
  rw [List.filterMap_cons]
  split
  ·exact ih
  ·rename_i z hz
   refine List.nodup_cons.2 ⟨fun hm => h1 ?_, ih⟩
   have h3 := (Zew (ex := ex) (cs := cs) hm).1
   unfold tmF at hz
   split at hz
   ·injection hz with hz
    subst hz
    exact h3
   ·cases hz
theorem Zrf {ex : List Za} {rs : List Zb} {o : Int} : ∀ x ∈ tmXL ex (ofL rs o), ∀ y ∈ tmXL ex (ofL rs o), leTm x y → leTm y x → x = y := fun x hx y hy h k => by
 obtain ⟨h1, h2⟩ := Zew hx
 obtain ⟨g1, g2⟩ := Zew hy
 have e : x.Report.Seq = y.Report.Seq ∧ x.T = y.T := by
  unfold leTm at h k
  rcases h with h | ⟨h, h'⟩ <;> rcases k with k | ⟨k, k'⟩
  ·exact absurd h (by grind)
  ·exact absurd h (by rw [k]; grind)
  ·exact absurd k (by rw [h]; grind)
  ·exact ⟨Int.le_antisymm h' k', h⟩
 have e2 := ZqG h1 g1 e.1
 cases x; cases y
 simp only at e e2 ⊢
 rw [e2, e.2]
theorem ZmA (rs : List Zb) (es : List Za) (o : Int) : repL rs es o = tmXS es (ofL rs o) := by
 have h1 := ZfK (tmXL es (ofL rs o))
 have h2 := ZjV (tmXL es (ofL rs o))
 have h3 := Zmj (tmXL es (ofL rs o))
 have hn := ZgE (ex := es) (ZnB rs o)
 unfold repL tmXS
 refine Zes (le := leTm) (fun x hx y hy => Zrf x (h1.1.mem_iff.1 hx) y (h1.1.mem_iff.1 hy)) (h1.1.nodup_iff.2 hn) (h2.nodup_iff.2 hn) h1.2 h3 fun x => ?_
 rw [h1.1.mem_iff, h2.mem_iff]
theorem Zps {es ks : List Za} (h : ∀ y, y ∈ es ↔ y ∈ ks) (cs : List Zb) : tmXL es cs = tmXL ks cs := by
 unfold tmXL
 congr 1
 funext r
 unfold tmF
 rw [Zol h]
theorem Zp9 {es ks : List Za} (h : ∀ y, y ∈ es ↔ y ∈ ks) (cs : List Zb) : tmXS es cs = tmXS ks cs := by
 unfold tmXS
 rw [Zps h]
theorem ZiG {l : List (Zb × Bool)} {x : List (Za × Bool)} {rs : List Zb} {es : List Za} {o : Int} (hr : ∀ r, r.Object = o → (r ∈ pKR l ↔ r ∈ rs)) (he : ∀ y, y ∈ pKE x ↔ y ∈ es) : tmX l x o = repL rs es o := by
 rw [ZmA]
 unfold tmX
 rw [ZqZ (ks := rs) fun r ho => ((ZaG (pKR l)).mem_iff).trans (hr r ho)]
 exact Zp9 (fun y => ((Zcq (pKE x)).mem_iff).trans (he y)) _
end Go.Vt
/- The law's longest chain, walked. Conditions: those that each statement names. -/
namespace Go.Vt
open Go.RowKit Go.Proofs
set_option maxHeartbeats 8000000 in
theorem Zj9 (v : Value) (l : List Zd) (s : ZU) (w : World) (hv : ArgS w v Zi l) (hl : l.length ≤ 4096) (hok : ∀ x ∈ l, TkOk x) (hs : -1048576 ≤ s.MaxSpeed ∧ s.MaxSpeed ≤ 1048576) :
  Calls Tryz.prog 57 [v, .agg (Zq s)].toArray w (RetM (SlS (eI .i64) 1 (cI (chainL (cCp s.MaxSpeed l) l.length))) (fun o => vSl o) (fun o => mS 3 o) w) := by
 obtain ⟨p, cp, rfl⟩ := hv.form
 have hC : ∀ i k, cCp s.MaxSpeed l i k = cpt s.MaxSpeed (gi l (i : Int)) (gi l (k : Int)) := fun _ _ => rfl
 generalize hCe : cCp s.MaxSpeed l = C at *
 generalize hn : l.length = n at *
 have hgo : ∀ i : Nat, i < n → TkOk (gi l (i : Int)) := fun i hi => hok _ (ZZ (by omega))
 refine Zg Tryz.func57 rfl Tryz.ntmps57 rfl ?_
 repeat (refine wkM ?_; try intro _)
 refine sM rfl rfl ⟨by omega, by omega⟩ (fun b5 => ?_)
 repeat (refine wkM ?_; try intro _)
 rename_i b3
 refine Zp (S := Nat) (fun m => m ≤ n) (fun m => [(0, .slice p n cp), (3, .pointer (some ⟨b3, 0, none⟩)), (5, .slice (some ⟨b5, 0, none⟩) n n), (6, .int .i64 (mostL (bestL C n m))), (7, .int .i64 ((n : Int) - 1 - m))]) (fun m => [⟨b5, row (eI .i64) (tabL (n - m) (bestL C n m)) [], 3⟩, ⟨b3, Zq s, 32⟩]) (fun m => n - m) 0 (Nat.zero_le _) ?_ ?_ (fun m hm => ?_)
 ·exact sbB
 ·have e : tabL (n - 0) (bestL C n 0) = List.replicate n 0 := by simp [tabL, cI, bestL]
  simp only [e]
  exact slB
 repeat (refine wkM ?_; try intro _)
 refine Zn rfl (fun h => ?_) (fun h => ?_)
 ·have hlt : m < n := by have := of_decide_eq_true h; omega
  obtain ⟨i, hi⟩ : ∃ i, n = m + i + 1 := ⟨n - m - 1, by omega⟩
  have e7 : (n : Int) - 1 - (m : Int) = (i : Int) := by omega
  have e8 : n - m = i + 1 := by omega
  have hbl := ZcI C n m
  have hbn := ZbX C n m
  have hnx : bestL C n (m + 1) = innB C i (i + 1) (bestL C n m) 1 :: bestL C n m := by
   rw [bestL, show n - (m + 1) = i by omega, show n - m = i + 1 by omega]
  have hmo := Zds hbl
  generalize bestL C n m = r at *
  rw [e8]
  simp only [e7]
  have ht1 := ZbP (i + 1) r
  have hset : (tabL (i + 1) r).set ((i : Int)).toNat (1 : Int) = tabL i (1 :: r) := by
   rw [Int.toNat_natCast]
   exact ZiQ i r 1
  repeat (refine wkM ?_; try intro _)
  simp only [hset]
  refine Zp (S := Nat × Nat) (fun q => q.1 ≤ m ∧ innB C i (i + 1) r 1 = innB C i (i + 1 + q.1) (r.drop q.1) q.2 ∧ q.2 ≤ m + 1) (fun q => [(0, .slice p n cp), (3, .pointer (some ⟨b3, 0, none⟩)), (5, .slice (some ⟨b5, 0, none⟩) n n), (6, .int .i64 (mostL r)), (7, .int .i64 (i : Nat)), (8, .int .i64 ((i + 1 + q.1 : Nat)))]) (fun q => [⟨b5, row (eI .i64) (tabL i (q.2 :: r)) [], 3⟩, ⟨b3, Zq s, 32⟩]) (fun q => m - q.1) (0, 1) ⟨Nat.zero_le _, rfl, by show 1 ≤ m + 1; omega⟩ sbB slB (fun q hq => ?_)
  obtain ⟨j, a⟩ := q
  obtain ⟨hj, hin, ha⟩ := hq
  simp only at hj hin ha ⊢
  have ht2 := ZbP i (a :: r)
  rw [List.length_cons] at ht2
  have hai := ZmK i r a
  repeat (refine wkM ?_; try intro _)
  refine Zn rfl (fun h => ?_) (fun h => ?_)
  ·have hjm : j < m := by have := of_decide_eq_true h; omega
   have hget := Zlh i r a j (by omega)
   have hb := hbl (r.getD j 0) (by rw [List.getD_eq_getElem?_getD, List.getElem?_eq_getElem (by omega)]; exact List.getElem_mem _)
   have hdr : r.drop j = r.getD j 0 :: r.drop (j + 1) := by
    rw [List.drop_eq_getElem_cons (by omega), List.getD_eq_getElem?_getD, List.getElem?_eq_getElem (by omega)]
    rfl
   rw [hdr] at hin
   simp only [innB] at hin
   have hne : l ≠ [] := fun h0 => by rw [h0] at hn; simp at hn; omega
   obtain ⟨bw, ow, cw, hvw, hcw, hrow⟩ := hv.blk (k := 11) hne []
   injection hvw with e1 e2 e3
   subst e1
   subst e3
   have hrow' : ∀ L, RowC w L bw ow Zd Zi l := fun L => ⟨fun w' hw' => hrow.out w' (hw'.sub (List.nil_sublist _))⟩
   have k1 := hgo i (by omega)
   have k2 := hgo (i + 1 + j) (by omega)
   have hCk := hC i (i + 1 + j)
   generalize r.getD j 0 = bb at *
   repeat (refine wkM ?_; try intro _)
   (refine jD 10 10 (h := ?_); (repeat (first | refine wkH ?_ | (refine tC rfl rfl ?_ ?_; focus (exact ⟨k1, k2, hs⟩)))); refine Zo ?_; (repeat (refine Z4 ?_; intro _)); refine Zr ?_)
   simp only [← hCk]
   cases hc : C i (i + 1 + j)
   ·rw [hc, if_neg (by decide)] at hin
    repeat (refine wkO ?_; try intro _)
    exact Zj (j + 1, a) ⟨hjm, by rw [hin]; rfl, ha⟩ sbB slB (by show m - (j + 1) < m - j; omega)
   ·rw [hc, if_pos rfl] at hin
    have hmv : (if (bb : Int) + 1 > (a : Int) then (bb : Int) + 1 else (a : Int)) = ((max a (bb + 1) : Nat) : Int) := by
     split <;> omega
    have hs2 : (tabL i (a :: r)).set ((i : Int)).toNat ((max a (bb + 1) : Nat) : Int) = tabL i (max a (bb + 1) :: r) := by
     rw [Int.toNat_natCast]
     exact Zkw i r a (max a (bb + 1))
    repeat (refine wkM ?_; try intro _)
    refine jD 13 13 (h := ?_)
    (repeat (refine wkH ?_))
    rw [hget, hai, hmv]
    refine Zo ?_
    refine Zr ?_
    repeat (refine wkM ?_; try intro _)
    simp only [hs2]
    repeat (refine wkO ?_; try intro _)
    exact Zj (j + 1, max a (bb + 1)) ⟨hjm, by rw [hin]; rfl, by show max a (bb + 1) ≤ m + 1; omega⟩ sbB slB (by show m - (j + 1) < m - j; omega)
  ·have hge : j = m := by have := of_decide_eq_false h; omega
   subst hge
   rw [← hbn, List.drop_length, hbn] at hin
   simp only [innB] at hin
   rw [hin] at hnx
   have hmx : (if (a : Int) > (mostL r : Int) then (a : Int) else (mostL r : Int)) = ((mostL (bestL C n (j + 1)) : Nat) : Int) := by
    rw [hnx, mostL]
    split <;> omega
   have e9 : n - (j + 1) = i := by omega
   repeat (refine wkM ?_; try intro _)
   simp only [hai, hmx]
   exact Zj (j + 1) hlt sbB (by simp only [e9, hnx]; exact List.Sublist.refl _) (by omega)
 ·have hge : m = n := by have := of_decide_eq_false h; omega
  subst hge
  have hbn := ZbX C m m
  have hat : ∀ i : Nat, i < m → gi (tabL 0 (bestL C m m)) (i : Int) = ((bestA C m i : Nat) : Int) := fun i hi => by
   rw [Zl (by rw [ZbP]; omega)]
   simp only [tabL, List.replicate_zero, List.nil_append, cI, List.getElem_map, bestA, List.getD_eq_getElem?_getD, List.getElem?_eq_getElem (show i < (bestL C m m).length by omega), Option.getD_some]
  have hmo := Zds (ZcI C m m)
  have htl := ZbP 0 (bestL C m m)
  rw [Nat.sub_self]
  repeat (refine wkM ?_; try intro _)
  have hO := fun i (hi : i ≤ m) => Zfy C m i hi
  have hmA : mostL (bestL C m m) = mostA C m := rfl
  have hB : ∀ i, bestA C m i ≤ m := fun i => by
   have : bestA C m i ≤ mostA C m := Zgk _ _
   omega
  generalize tabL 0 (bestL C m m) = tb at *
  refine Zp (S := (i : Nat) × SlS (eI .i64) 1 (cI (outN C m i).1)) (fun q => q.1 ≤ m) (fun q => [(0, .slice p m cp), (3, .pointer (some ⟨b3, 0, none⟩)), (5, .slice (some ⟨b5, 0, none⟩) m m), (6, .int .i64 ((outN C m q.1).2 : Nat)), (9, vSl q.2), (10, .int .i64 (q.1 : Nat))]) (fun q => mS 3 q.2 ++ [⟨b5, row (eI .i64) tb [], 3⟩, ⟨b3, Zq s, 32⟩]) (fun q => m - q.1) ⟨0, SlS.no⟩ (Nat.zero_le _) sbB suB (fun q hq => ?_)
  obtain ⟨i, o⟩ := q
  simp only at hq ⊢
  have hOi := hO i hq
  have hnx : outN C m (i + 1) = outS C m (outN C m i) i := rfl
  unfold outS at hnx
  have hlen := hOi.len
  repeat (refine wkM ?_; try intro _)
  refine Zn rfl (fun h => ?_) (fun h => ?_)
  ·have hlt : i < m := by have := of_decide_eq_true h; omega
   have hai := hat i hlt
   have hol := Zfo (outN C m i).1
   repeat (refine wkM ?_; try intro _)
   refine ZaK (S := Bool) (fun q => q = decide (bestA C m i = (outN C m i).2 ∧ 0 < (outN C m i).2 ∧ ((outN C m i).1 = [] ∨ C ((outN C m i).1.getLastD 0) i = true))) (fun q => [(0, .slice p m cp), (3, .pointer (some ⟨b3, 0, none⟩)), (5, .slice (some ⟨b5, 0, none⟩) m m), (6, .int .i64 ((outN C m i).2 : Nat)), (9, vSl o), (10, .int .i64 (i : Nat)), (98, .bool q)]) (fun _ => mS 3 o ++ [⟨b5, row (eI .i64) tb [], 3⟩, ⟨b3, Zq s, 32⟩]) ?_ (fun q hq => ?_)
   ·have hne : l ≠ [] := fun h0 => by rw [h0] at hn; simp at hn; omega
    obtain ⟨bw, ow, cw, hvw, hcw, hrow⟩ := hv.blk (k := 11) hne []
    injection hvw with e1 e2 e3
    subst e1
    subst e3
    have hrow' : ∀ L, RowC w L bw ow Zd Zi l := fun L => ⟨fun w' hw' => hrow.out w' (hw'.sub (List.nil_sublist _))⟩
    have k2 := hgo i hlt
    rcases o.cases 3 with ⟨x0, x1, x2⟩ | ⟨bo, co, sp, hc1, x1, x2, xne⟩
    ·have hout : (outN C m i).1 = [] := by
      have := congrArg List.length x0
      rw [hol] at this
      exact List.length_eq_zero_iff.1 this
     simp only [x1, x2, List.cons_append, List.nil_append]
     by_cases c1 : bestA C m i = (outN C m i).2
     ·refine jD 32 32 (h := ?_)
      (repeat (refine wkH ?_))
      simp only [hai, decide_eq_true (show ((bestA C m i : Nat) : Int) = ((outN C m i).2 : Int) by omega)]
      (repeat (refine wkH ?_))
      try simp only [decide_eq_true (show ((0 : Nat) : Int) = 0 by omega)]
      (repeat (refine wkH ?_))
      by_cases c2 : 0 < (outN C m i).2
      ·have hd : decide (bestA C m i = (outN C m i).2 ∧ 0 < (outN C m i).2 ∧ ((outN C m i).1 = [] ∨ C ((outN C m i).1.getLastD 0) i = true)) = true := decide_eq_true ⟨c1, c2, .inl hout⟩
       simp only [decide_eq_true (show (0 : Int) < ((outN C m i).2 : Int) by omega)]
       (repeat (refine wkH ?_))
       refine Zo ?_
       refine Zr ?_
       repeat (refine wkM ?_; try intro _)
       exact ZK true hd.symm sbB suB
      ·have hd : decide (bestA C m i = (outN C m i).2 ∧ 0 < (outN C m i).2 ∧ ((outN C m i).1 = [] ∨ C ((outN C m i).1.getLastD 0) i = true)) = false := decide_eq_false fun h => c2 h.2.1
       simp only [decide_eq_false (show ¬ (0 : Int) < ((outN C m i).2 : Int) by omega)]
       (repeat (refine wkH ?_))
       refine Zo ?_
       refine Zr ?_
       repeat (refine wkM ?_; try intro _)
       exact ZK false hd.symm sbB suB
     ·have hd : decide (bestA C m i = (outN C m i).2 ∧ 0 < (outN C m i).2 ∧ ((outN C m i).1 = [] ∨ C ((outN C m i).1.getLastD 0) i = true)) = false := decide_eq_false fun h => c1 h.1
      refine jD 32 32 (h := ?_)
      (repeat (refine wkH ?_))
      simp only [hai, decide_eq_false (show ¬ ((bestA C m i : Nat) : Int) = ((outN C m i).2 : Int) by omega)]
      (repeat (refine wkH ?_))
      refine Zo ?_
      refine Zr ?_
      repeat (refine wkM ?_; try intro _)
      exact ZK false hd.symm sbB suB
    ·have hone : (outN C m i).1 ≠ [] := fun h0 => by rw [h0] at xne; exact xne rfl
     have hpos : 0 < (outN C m i).1.length := List.length_pos_iff.2 hone
     have hlm : (outN C m i).1.getLastD 0 < m := by
      have h1 : (outN C m i).1.getLastD 0 ∈ (outN C m i).1 := by
       rw [ZbH hone, List.getD_eq_getElem?_getD, List.getElem?_eq_getElem (by omega)]
       exact List.getElem_mem _
      have := hOi.lt _ h1
      omega
     have hla : gi (cI (outN C m i).1) (((cI (outN C m i).1).length : Int) - 1) = (((outN C m i).1.getLastD 0 : Nat) : Int) := by
      rw [hol, show (((outN C m i).1.length : Int) - 1) = (((outN C m i).1.length - 1 : Nat) : Int) by omega, Zl (by rw [hol]; omega), ZbH hone]
      simp only [cI, List.getElem_map, List.getD_eq_getElem?_getD, List.getElem?_eq_getElem (show (outN C m i).1.length - 1 < (outN C m i).1.length by omega), Option.getD_some]
     have k1 := hgo _ hlm
     have hCk := hC ((outN C m i).1.getLastD 0) i
     simp only [x1, x2, List.cons_append, List.nil_append]
     by_cases c1 : bestA C m i = (outN C m i).2
     ·refine jD 32 32 (h := ?_)
      (repeat (refine wkH ?_))
      simp only [hai, decide_eq_true (show ((bestA C m i : Nat) : Int) = ((outN C m i).2 : Int) by omega)]
      (repeat (refine wkH ?_))
      simp only [decide_eq_false (show ¬ ((cI (outN C m i).1).length : Int) = 0 by omega)]
      (repeat (refine wkH ?_))
      simp only [hla]
      (repeat (first | refine wkH ?_ | (refine tC rfl rfl ?_ ?_; focus (exact ⟨k1, k2, hs⟩))))
      simp only [← hCk]
      cases hc : C ((outN C m i).1.getLastD 0) i
      ·have hd : decide (bestA C m i = (outN C m i).2 ∧ 0 < (outN C m i).2 ∧ ((outN C m i).1 = [] ∨ C ((outN C m i).1.getLastD 0) i = true)) = false := by
        simp only [hc, c1, hone, false_or, decide_eq_false_iff_not]
        exact fun h => absurd h.2.2 (by decide)
       rw [hc] at hd
       (repeat (refine wkH ?_))
       refine Zo ?_
       refine Zr ?_
       repeat (refine wkM ?_; try intro _)
       exact ZK false hd.symm sbB suB
      ·by_cases c2 : 0 < (outN C m i).2
       ·have hd : decide (bestA C m i = (outN C m i).2 ∧ 0 < (outN C m i).2 ∧ ((outN C m i).1 = [] ∨ C ((outN C m i).1.getLastD 0) i = true)) = true := decide_eq_true ⟨c1, c2, .inr hc⟩
        rw [hc] at hd
        (repeat (refine wkH ?_))
        simp only [decide_eq_true (show (0 : Int) < ((outN C m i).2 : Int) by omega)]
        (repeat (refine wkH ?_))
        refine Zo ?_
        refine Zr ?_
        repeat (refine wkM ?_; try intro _)
        exact ZK true (hd.symm.trans (by simp)) sbB suB
       ·have hd : decide (bestA C m i = (outN C m i).2 ∧ 0 < (outN C m i).2 ∧ ((outN C m i).1 = [] ∨ C ((outN C m i).1.getLastD 0) i = true)) = false := decide_eq_false fun h => c2 h.2.1
        rw [hc] at hd
        (repeat (refine wkH ?_))
        simp only [decide_eq_false (show ¬ (0 : Int) < ((outN C m i).2 : Int) by omega)]
        (repeat (refine wkH ?_))
        refine Zo ?_
        refine Zr ?_
        repeat (refine wkM ?_; try intro _)
        exact ZK false (hd.symm.trans (by simp)) sbB suB
     ·have hd : decide (bestA C m i = (outN C m i).2 ∧ 0 < (outN C m i).2 ∧ ((outN C m i).1 = [] ∨ C ((outN C m i).1.getLastD 0) i = true)) = false := decide_eq_false fun h => c1 h.1
      refine jD 32 32 (h := ?_)
      (repeat (refine wkH ?_))
      simp only [hai, decide_eq_false (show ¬ ((bestA C m i : Nat) : Int) = ((outN C m i).2 : Int) by omega)]
      (repeat (refine wkH ?_))
      refine Zo ?_
      refine Zr ?_
      repeat (refine wkM ?_; try intro _)
      exact ZK false hd.symm sbB suB
   ·by_cases hP : bestA C m i = (outN C m i).2 ∧ 0 < (outN C m i).2 ∧ ((outN C m i).1 = [] ∨ C ((outN C m i).1.getLastD 0) i = true)
    ·rw [decide_eq_true hP] at hq
     subst hq
     rw [if_pos hP] at hnx
     repeat (refine wkM ?_; try intro _)
     refine sU rfl rfl ?_ ?_ ?_ ?_
     ·rfl
     ·rfl
     ·exact ⟨by decide, by omega, by omega⟩
     intro s'
     repeat (refine wkO ?_; try intro _)
     have e1 : cI (outN C m (i + 1)).1 = cI (outN C m i).1 ++ [(i : Int)] := by rw [hnx]; simp [cI]
     have e4 : (((outN C m (i + 1)).2 : Nat) : Int) = ((outN C m i).2 : Int) - 1 := by rw [hnx]; simp only; omega
     obtain ⟨s3, e2, e3⟩ := SlS.turn 3 e1.symm s'
     exact Zj ⟨i + 1, s3⟩ hlt (by simp only [e2, e4]; exact sbB) (by simp only [e3]; exact suB) (by show m - (i + 1) < m - i; omega)
    ·rw [decide_eq_false hP] at hq
     subst hq
     rw [if_neg hP] at hnx
     repeat (refine wkO ?_; try intro _)
     have e1 : cI (outN C m (i + 1)).1 = cI (outN C m i).1 := by rw [hnx]
     have e4 : (((outN C m (i + 1)).2 : Nat) : Int) = ((outN C m i).2 : Int) := by rw [hnx]
     obtain ⟨s3, e2, e3⟩ := SlS.turn 3 e1.symm o
     exact Zj ⟨i + 1, s3⟩ hlt (by simp only [e2, e4]; exact sbB) (by simp only [e3]; exact suB) (by show m - (i + 1) < m - i; omega)
  ·have hge : i = m := by have := of_decide_eq_false h; omega
   subst hge
   repeat (refine wkM ?_; try intro _)
   exact Zf rfl rfl (fun w hw => ⟨o, rfl, hw.sub suB⟩)
instance ZwZ (w0 : World) (L : List Blk) (v : Value) (l : List Zd) (s : ZU) [h : LstC w0 L v Zd Zi l] : SpecR Tryz.prog w0 L 57 [v, .agg (Zq s)] (SlS (eI .i64) 1 (cI (chainL (cCp s.MaxSpeed l) l.length))) (fun o => vSl o) (fun o => mS 3 o) (l.length ≤ 4096 ∧ (∀ x ∈ l, TkOk x) ∧ (-1048576 ≤ s.MaxSpeed ∧ s.MaxSpeed ≤ 1048576)) := ⟨fun hp w hw =>
 Zj9 v l s w (h.out w hw) hp.1 hp.2.1 hp.2.2⟩
end Go.Vt
/- What the part of a value during a period says: plain. Conditions: those that each statement names. -/
namespace Go.Vt
open Go.RowKit Go.Proofs
open Fv (va red)
def memI (I : ZD) (t : Rat) : Prop := (I.From.P < t ∨ (I.From.P = t ∧ I.OpenFrom = false)) ∧ (t < I.To.P ∨ (t = I.To.P ∧ I.OpenTo = false))
end Go.Vt
/- What sweeping over the borders of two periods gives: the instants of the result, and that its intervals lie apart. Conditions: those that each statement names. -/
set_option linter.unusedSectionVars false
/- Periods as functions with one value; the period during which a car is somewhere. Conditions: those that each statement names. -/
set_option linter.unusedSectionVars false
/- The statements' own lists of reports with times: put, reports, kept, same. Conditions: those that each statement names. -/
namespace Go.Vt
open Go.RowKit Go.Proofs
theorem ZrG (y x : Zd) : leTm y x ↔ (0 < cq x.T y.T ∨ (cq x.T y.T = 0 ∧ y.Report.Seq ≤ x.Report.Seq)) := by
 unfold leTm
 rw [Zlv, Zfw]
 constructor
 ·rintro (h | ⟨h1, h2⟩)
  ·exact .inl h
  ·exact .inr ⟨h1.symm, h2⟩
 ·rintro (h | ⟨h1, h2⟩)
  ·exact .inl h
  ·exact .inr ⟨h1.symm, h2⟩
theorem Zr5 (w : World) : (Instr.buildSlice 48 0 [].toArray).run Tryz.prog w = .ok (.slice (some ⟨w.heap.size, 0, none⟩) 0 0) (w.alloc (.cells (row (Zi) [] []) 56)) := by kernel_rfl
instance (priority := high) ZGH : BsC Tryz.prog 48 0 [] (row (Zi) [] []) 56 := ⟨Zr5⟩
set_option maxHeartbeats 8000000 in
theorem Zni (v : Value) (l : List Zd) (x : Zd) (w : World) (hv : ArgS w v Zi l) (hl : l.length ≤ 1048576) (hok : ∀ z ∈ l, TkOk z) (hx : TkOk x) :
  Calls Tryz.prog 56 [v, vTm x].toArray w (RetM (SlS Zi 12 (putL l x)) (fun s => vSl s) (fun s => mS 56 s) w) := by
 obtain ⟨p, cp, rfl⟩ := hv.form
 have hcp : l.length ≤ cp := by
  rcases hv.out with ⟨h1, h2⟩ | ⟨a, c, h1, h2, -⟩
  ·rw [h2]; exact Nat.zero_le _
  ·injection h1 with _ _ e; omega
 refine Zg Tryz.func56 rfl Tryz.ntmps56 rfl ?_
 repeat (refine wkM ?_; try intro _)
 rename_i b3
 refine ZsG (S := Nat) (fun k => k ≤ l.length ∧ k = posT l x l.length) (fun k => [(0, .slice p l.length cp), (3, .pointer (some ⟨b3, 0, none⟩)), (5, .int .i64 (k : Nat))]) (fun _ => [⟨b3, Zi x, 56⟩]) ?_ (fun k hk => ?_)
 ·refine Zp (S := Nat) (fun k => k ≤ l.length ∧ posT l x k = posT l x l.length) (fun k => [(0, .slice p l.length cp), (3, .pointer (some ⟨b3, 0, none⟩)), (5, .int .i64 (k : Nat))]) (fun _ => [⟨b3, Zi x, 56⟩]) (fun k => k) l.length ⟨Nat.le_refl _, rfl⟩ sbB slB (fun k hk => ?_)
  obtain ⟨hk, hpos⟩ := hk
  rcases k with _ | j
  ·repeat (refine wkM ?_; try intro _)
   simp only [decide_eq_false (show ¬ (0 : Int) < ((0 : Nat) : Int) by omega)]
   repeat (refine wkM ?_; try intro _)
   exact ZK 0 ⟨Nat.zero_le _, hpos⟩ sbB slB
  ·have hlt : j < l.length := hk
   have hne : l ≠ [] := fun h0 => by rw [h0] at hlt; simp at hlt
   obtain ⟨bw, ow, cw, hvw, hcw, hrow⟩ := hv.blk (k := 11) hne []
   injection hvw with x1 x2 x3
   subst x1 x3
   have hrow' : ∀ L, RowC w L bw ow Zd Zi l := fun L => ⟨fun w' hw' => hrow.out w' (hw'.sub (List.nil_sublist _))⟩
   have hj := hok (gi l (j : Int)) (ZZ (by omega))
   have hM : M x.T ≤ LQ ∧ M (gi l (j : Int)).T ≤ LQ := ⟨Nat.le_trans hx.t (by decide), Nat.le_trans hj.t (by decide)⟩
   have e1 : ((j + 1 : Nat) : Int) - 1 = (j : Int) := by omega
   have hle := ZrG (gi l (j : Int)) x
   rw [posT] at hpos
   repeat (refine wkM ?_; try intro _)
   simp only [decide_eq_true (show (0 : Int) < ((j + 1 : Nat) : Int) by omega)]
   repeat (refine wkM ?_; try intro _)
   (refine Zal (.v [0, 1, 2, 3, 4, 5, 6, 7, 8] (.e1 9 (.fin))) ([⟨b3, Zi x, 56⟩]) (h := ?_); refine wkX ?_)
   (repeat (refine wkH ?_))
   simp only [e1]
   (repeat (first | refine wkH ?_ | (refine tC rfl rfl ?_ ?_; focus (exact hM))))
   repeat (refine wkT ?_; try intro _)
   repeat (refine wkM ?_; try intro _)
   refine jD 19 19 (h := ?_)
   (repeat (refine wkH ?_))
   by_cases c1 : 0 < cq x.T (gi l (j : Int)).T
   ·rw [if_pos (hle.2 (.inl c1))] at hpos
    simp only [decide_eq_true c1]
    (repeat (refine wkH ?_))
    refine Zo ?_
    refine Zr ?_
    repeat (refine wkM ?_; try intro _)
    exact ZK (j + 1) ⟨hk, hpos⟩ sbB slB
   ·simp only [decide_eq_false c1]
    (repeat (refine wkH ?_))
    by_cases c2 : cq x.T (gi l (j : Int)).T = 0
    ·simp only [decide_eq_true c2]
     (repeat (refine wkH ?_))
     try simp only [e1]
     (repeat (refine wkH ?_))
     simp only [show ow + ((j : Nat) : Int).toNat * 12 + 4 + 1 = ow + ((j : Nat) : Int).toNat * 12 + 5 from rfl]
     (repeat (refine wkH ?_))
     by_cases c3 : (gi l (j : Int)).Report.Seq ≤ x.Report.Seq
     ·rw [if_pos (hle.2 (.inr ⟨c2, c3⟩))] at hpos
      simp only [decide_eq_true c3]
      (repeat (refine wkH ?_))
      refine Zo ?_
      refine Zr ?_
      repeat (refine wkM ?_; try intro _)
      exact ZK (j + 1) ⟨hk, hpos⟩ sbB slB
     ·rw [if_neg (fun h => (hle.1 h).elim c1 (fun h => c3 h.2))] at hpos
      simp only [decide_eq_false c3]
      (repeat (refine wkH ?_))
      refine Zo ?_
      refine Zr ?_
      repeat (refine wkO ?_; try intro _)
      try simp only [e1]
      exact Zj j ⟨Nat.le_of_lt hlt, hpos⟩ sbB slB (Nat.lt_succ_self _)
    ·rw [if_neg (fun h => (hle.1 h).elim c1 (fun h => c2 h.1))] at hpos
     simp only [decide_eq_false c2]
     (repeat (refine wkH ?_))
     refine Zo ?_
     refine Zr ?_
     repeat (refine wkO ?_; try intro _)
     try simp only [e1]
     exact Zj j ⟨Nat.le_of_lt hlt, hpos⟩ sbB slB (Nat.lt_succ_self _)
 ·obtain ⟨hk, hpos⟩ := hk
  have hT := fun L => (hv.take k hk).lst L
  have hD := fun L => (hv.drop k hk).lst L
  have hend : ∀ s3 : FlS Zi 12 (([] ++ l.take k) ++ [x] ++ l.drop k), ∃ s4 : SlS Zi 12 (putL l x), vSl s4 = vF s3 ∧ mS 56 s4 = mF 56 s3 := fun s3 => by
   obtain ⟨s4, f1, f2⟩ := s3.sl (by simp)
   obtain ⟨s5, f3, f4⟩ := s4.like (show putL l x = ([] ++ l.take k) ++ [x] ++ l.drop k by unfold putL; rw [← hpos]; simp)
   exact ⟨s5, f3.trans f1, (f4 _).trans (f2 _)⟩
  refine ZfJ (S := SlS Zi 12 (putL l x)) (fun _ => True) (fun s => [(4, vSl s)]) (fun s => mS 56 s) ?_ (fun s _ => ?_)
  ·(refine Zal (.v [1, 2, 3, 5, 8, 9, 10] (.e2 0 (.e2 4 (.e1 6 (.e1 7 (.e1 11 (.e1 12 (.fin))))) 6 (.e1 4 (.e1 7 (.e1 11 (.e1 12 (.fin)))))) 6 (.e1 0 (.e1 4 (.e1 7 (.e1 11 (.e1 12 (.fin)))))))) ([⟨b3, Zi x, 56⟩]) (h := ?_); refine wkX ?_)
   (repeat (first | refine wkH ?_ | (refine tC rfl rfl ?_ ?_; focus (exact ⟨by omega, by omega⟩))))
   refine And.intro ?_ ?_
   ·repeat (refine wkT ?_; try intro _)
    rename_i b0
    refine And.intro ?_ ?_
    ·refine eVF (k := 11) (enc := Zi) (s := FlS.em b0) (hx := ⟨rfl⟩) rfl rfl ?_ ?_ ?_
     ·rfl
     ·exact ⟨by simp only [List.length_take, List.length_nil]; omega, by simp only [List.length_take, List.length_nil]; omega⟩
     intro s1
     repeat (refine wkT ?_; try intro _)
     refine eVF rfl rfl ?_ ?_ ?_
     ·rfl
     ·exact ⟨by simp only [List.length_append, List.length_take, List.length_nil, List.length_cons]; omega, by simp only [List.length_append, List.length_take, List.length_nil, List.length_cons]; omega⟩
     intro s2
     refine eVF rfl rfl ?_ ?_ ?_
     ·rfl
     ·exact ⟨by simp only [List.length_append, List.length_take, List.length_drop, List.length_nil, List.length_cons]; omega, by simp only [List.length_append, List.length_take, List.length_drop, List.length_nil, List.length_cons]; omega⟩
     intro s3
     repeat (refine wkT ?_; try intro _)
     obtain ⟨s4, f1, f2⟩ := hend s3
     exact ZK s4 trivial (by simp only [f1]; exact sbB) (by rw [f2]; exact suB)
    ·repeat (refine wkT ?_; try intro _)
     refine eVF (k := 11) (enc := Zi) (s := FlS.em b0) (hx := ⟨rfl⟩) rfl rfl ?_ ?_ ?_
     ·rfl
     ·exact ⟨by simp only [List.length_take, List.length_nil]; omega, by simp only [List.length_take, List.length_nil]; omega⟩
     intro s1
     refine eVF rfl rfl ?_ ?_ ?_
     ·rfl
     ·exact ⟨by simp only [List.length_append, List.length_take, List.length_nil, List.length_cons]; omega, by simp only [List.length_append, List.length_take, List.length_nil, List.length_cons]; omega⟩
     intro s2
     refine eVF rfl rfl ?_ ?_ ?_
     ·rfl
     ·exact ⟨by simp only [List.length_append, List.length_take, List.length_drop, List.length_nil, List.length_cons]; omega, by simp only [List.length_append, List.length_take, List.length_drop, List.length_nil, List.length_cons]; omega⟩
     intro s3
     repeat (refine wkT ?_; try intro _)
     obtain ⟨s4, f1, f2⟩ := hend s3
     exact ZK s4 trivial (by simp only [f1]; exact sbB) (by rw [f2]; exact suB)
   ·repeat (refine wkT ?_; try intro _)
    rename_i b0
    refine eVF (k := 11) (enc := Zi) (s := FlS.em b0) (hx := ⟨rfl⟩) rfl rfl ?_ ?_ ?_
    ·rfl
    ·exact ⟨by simp only [List.length_take, List.length_nil]; omega, by simp only [List.length_take, List.length_nil]; omega⟩
    intro s1
    refine eVF rfl rfl ?_ ?_ ?_
    ·rfl
    ·exact ⟨by simp only [List.length_append, List.length_take, List.length_nil, List.length_cons]; omega, by simp only [List.length_append, List.length_take, List.length_nil, List.length_cons]; omega⟩
    intro s2
    refine eVF rfl rfl ?_ ?_ ?_
    ·rfl
    ·exact ⟨by simp only [List.length_append, List.length_take, List.length_drop, List.length_nil, List.length_cons]; omega, by simp only [List.length_append, List.length_take, List.length_drop, List.length_nil, List.length_cons]; omega⟩
    intro s3
    repeat (refine wkT ?_; try intro _)
    obtain ⟨s4, f1, f2⟩ := hend s3
    exact ZK s4 trivial (by simp only [f1]; exact sbB) (by rw [f2]; exact suB)
  ·repeat (refine wkM ?_; try intro _)
   exact Zf rfl rfl (fun w hw => ⟨s, rfl, hw⟩)
end Go.Vt
/- The statements' own reports of an object, the kept ones, equal lists. Conditions: those that each statement names. -/
namespace Go.Vt
open Go.RowKit Go.Proofs
instance ZFR (w0 : World) (L : List Blk) (v : Value) (l : List Zd) (x : Zd) [h : LstC w0 L v Zd Zi l] : SpecR Tryz.prog w0 L 56 [v, vTm x] (SlS Zi 12 (putL l x)) (fun s => vSl s) (fun s => mS 56 s) (l.length ≤ 1048576 ∧ (∀ z ∈ l, TkOk z) ∧ TkOk x) := ⟨fun hp w hw => Zni v l x w (h.out w hw) hp.1 hp.2.1 hp.2.2⟩
structure RsOk (rs : List Zb) (es : List Za) : Prop where
 n : rs.length ≤ 12
 en : es.length ≤ 6
 ee : ∀ y ∈ es, ExB y
 rr : ∀ r ∈ rs, RepV r
theorem RsOk.tk {rs : List Zb} {es : List Za} {o : Int} (h : RsOk rs es) (w : World) : ∀ z ∈ tmXL es (ofL rs o), TkOk z := ZgS w h.en h.ee fun r hr => h.rr r (ZfL hr)
theorem RsOk.rk {rs : List Zb} {es : List Za} {o : Int} (h : RsOk rs es) (w : World) : ∀ z ∈ repL rs es o, TkOk z := fun z hz => h.tk w z ((ZfK _).1.mem_iff.1 hz)
theorem ZiJ {rs : List Zb} {es : List Za} {o : Int} : (repL rs es o).length ≤ rs.length := by
 unfold repL
 rw [Ziz]
 exact Nat.le_trans Zdn ZgI
set_option maxHeartbeats 8000000 in
theorem Zie (sr0 he : Sl) (rs : List Zb) (es : List Za) (o : Int) (w : World) (hv : ArgS w (vSlc sr0) Zc rs) (hu : ArgS w (vSlc he) Ze es) (hk : RsOk rs es) :
  Calls Tryz.prog 19 [.agg (Zs ⟨sr0, he⟩), .int .i64 o].toArray w (RetM (SlS Zi 12 (repL rs es o)) (fun s => vSl s) (fun s => mS 56 s) w) := by
 have hvl := fun L => hv.lst L
 have hul := fun L => hu.lst L
 have hTk := hk.tk w (o := o)
 have hov : ∀ r ∈ ofL rs o, RepV r := fun r hr => hk.rr r (ZfL hr)
 have hol := ZgI (rs := rs) (o := o)
 have hn := hk.n
 have hdf : repL rs es o = puts (tmXL es (ofL rs o)) := rfl
 refine Zg Tryz.func19 rfl Tryz.ntmps19 rfl ?_
 repeat (refine wkM ?_; try intro _)
 try dsimp only
 repeat (first | (refine wkM ?_; try intro _) | (refine sC rfl rfl ?_ ?_; focus (exact hn)) | (refine sN rfl rfl ?_ ?_; (focus (exact hn)); intro _; (try simp only [List.cons_append, List.nil_append, List.append_nil])))
 rename_i b2 s0
 generalize ofL rs o = cs at *
 refine Zp (S := (m : Nat) × SlS Zi 12 (puts (tmXL es (cs.take m)))) (fun q => q.1 ≤ cs.length) (fun q => [(2, .pointer (some ⟨b2, 0, none⟩)), (5, vSl q.2), (6, vF s0), (7, .int .i64 (q.1 : Nat))]) (fun q => mS 56 q.2 ++ (mF 35 s0 ++ [⟨b2, Zs ⟨sr0, he⟩, 40⟩])) (fun q => cs.length - q.1) ⟨0, SlS.no⟩ (Nat.zero_le _) sbB suB (fun q hq => ?_)
 obtain ⟨m, q⟩ := q
 simp only at hq ⊢
 have hql : (puts (tmXL es (cs.take m))).length ≤ m := by
  rw [Ziz]
  have := Zdn (ex := es) (cs := cs.take m)
  rw [List.length_take] at this
  omega
 have hqk : ∀ z ∈ puts (tmXL es (cs.take m)), TkOk z := fun z hz => by
  have h1 := (ZfK _).1.mem_iff.1 hz
  obtain ⟨r, h2, h3⟩ := List.mem_filterMap.1 h1
  exact hTk z (List.mem_filterMap.2 ⟨r, List.mem_of_mem_take h2, h3⟩)
 repeat (refine wkM ?_; try intro _)
 refine Zn rfl (fun h => ?_) (fun h => ?_)
 ·have hlt : m < cs.length := by have := of_decide_eq_true h; omega
  have hr := hov (gi cs (m : Int)) (ZZ (by omega))
  have hn1 := (Zi0 (ex := es) hlt).1
  have hpr : es.length ≤ 6 ∧ (∀ x ∈ es, ExB x) ∧ (0 ≤ (gi cs (m : Int)).Device ∧ (gi cs (m : Int)).Device ≤ 1073741824) ∧ (0 ≤ (gi cs (m : Int)).Time ∧ (gi cs (m : Int)).Time ≤ 1073741824) := ⟨hk.en, hk.ee, hr.d, hr.t⟩
  rcases s0.cases 35 with ⟨x0, -, -⟩ | ⟨bs, cb, sp, hc1, x1, x2⟩
  ·rw [x0] at hlt
   cases hlt
  have hz : (corX es (gi cs (m : Int))).2 = 0 → TkOk ⟨(corX es (gi cs (m : Int))).1, gi cs (m : Int)⟩ := fun h0 => ⟨Zn8 w hk.en hk.ee hr.d hr.t, hr.x, hr.y⟩
  unfold tmF at hn1
  simp only [x1, x2, List.cons_append, List.nil_append]
  repeat (refine wkM ?_; try intro _)
  (refine Zd8 [0, 1, 2, 3, 4, 5, 6, 7, 8, 9] [10] [11, 12] ([⟨bs, row Zc cs sp, 35⟩, ⟨b2, Zs ⟨_, he⟩, 40⟩]) (h := ?_); refine wkI ?_)
  (repeat (refine wkH ?_))
  try dsimp only
  (repeat (first | refine wkH ?_ | (refine tC rfl rfl ?_ ?_; focus (exact hpr))))
  repeat (refine wkT ?_; try intro _)
  rename_i b8
  repeat (refine wkM ?_; try intro _)
  by_cases e0 : (corX es (gi cs (m : Int))).2 = 0
  ·rw [if_pos e0, Option.toList_some] at hn1
   have hnx : puts (tmXL es (cs.take (m + 1))) = putL (puts (tmXL es (cs.take m))) ⟨(corX es (gi cs (m : Int))).1, gi cs (m : Int)⟩ := by rw [hn1, Zn1]
   have hpp : (puts (tmXL es (cs.take m))).length ≤ 1048576 ∧ (∀ z ∈ puts (tmXL es (cs.take m)), TkOk z) ∧ TkOk ⟨(corX es (gi cs (m : Int))).1, gi cs (m : Int)⟩ := ⟨by omega, hqk, hz e0⟩
   simp only [decide_eq_true e0, Bool.not_true]
   repeat (refine wkM ?_; try intro _)
   (refine Zal (.v [0, 1, 2, 3, 4, 5, 6] (.e1 7 (.e1 8 (.fin)))) ([⟨b8, Zv (Q (corX es (gi cs (m : Int))).1), 54⟩, ⟨bs, row Zc cs sp, 35⟩]) (h := ?_); refine wkX ?_)
   (repeat (refine wkH ?_))
   repeat (first | (refine wkT ?_; try intro _) | (refine tC rfl rfl ?_ ?_; focus (exact hpp)) | (refine uC rfl rfl ?_ ?_; focus (exact hpp)) | (refine eN rfl rfl ?_ ?_; (focus (exact hpp)); intro _; (try simp only [List.cons_append, List.nil_append, List.append_nil])))
   rename_i q'
   repeat (refine wkO ?_; try intro _)
   obtain ⟨s3, e1, e2⟩ := SlS.turn 56 hnx.symm q'
   exact Zj ⟨m + 1, s3⟩ hlt (by simp only [e1, x1]; exact sbB) (by simp only [e2, x2]; exact suB) (by show cs.length - (m + 1) < cs.length - m; omega)
  ·rw [if_neg e0, Option.toList_none, List.append_nil] at hn1
   simp only [decide_eq_false e0, Bool.not_false]
   repeat (refine wkO ?_; try intro _)
   obtain ⟨s3, e1, e2⟩ := SlS.turn 56 (show puts (tmXL es (cs.take m)) = puts (tmXL es (cs.take (m + 1))) by rw [hn1]) q
   exact Zj ⟨m + 1, s3⟩ hlt (by simp only [e1, x1]; exact sbB) (by simp only [e2, x2]; exact suB) (by show cs.length - (m + 1) < cs.length - m; omega)
 ·have hge : m = cs.length := by have := of_decide_eq_false h; omega
  obtain ⟨s3, e1, e2⟩ := SlS.turn 56 (show puts (tmXL es (cs.take m)) = repL rs es o by rw [hdf, List.take_of_length_le (by omega)]) q
  repeat (refine wkM ?_; try intro _)
  refine Zf rfl rfl (fun w hw => ⟨s3, ?_, ?_⟩)
  ·show Ending.returned (vSl q) = Ending.returned (vSl s3)
   rw [e1]
  ·show Own _ (mS _ s3) w
   rw [e2]
   exact hw.sub suB
instance ZtT (w0 : World) (L : List Blk) (sr0 he : Sl) (rs : List Zb) (es : List Za) (o : Int) [h1 : LstC w0 L (vSlc sr0) Zb Zc rs] [h2 : LstC w0 L (vSlc he) Za Ze es] : SpecR Tryz.prog w0 L 19 [.agg (Zs ⟨sr0, he⟩), .int .i64 o] (SlS Zi 12 (repL rs es o)) (fun s => vSl s) (fun s => mS 56 s) (RsOk rs es) := ⟨fun hp w hw => Zie sr0 he rs es o w (h1.out w hw) (h2.out w hw) hp⟩
set_option maxHeartbeats 8000000 in
theorem Zmk (sr0 he : Sl) (rs : List Zb) (es : List Za) (o : Int) (s : ZU) (w : World) (hv : ArgS w (vSlc sr0) Zc rs) (hu : ArgS w (vSlc he) Ze es) (hk : RsOk rs es) (hs : -1048576 ≤ s.MaxSpeed ∧ s.MaxSpeed ≤ 1048576) :
  Calls Tryz.prog 20 [.agg (Zs ⟨sr0, he⟩), .int .i64 o, .agg (Zq s)].toArray w (RetM (SlS Zi 12 (kpT s.MaxSpeed (repL rs es o))) (fun s => vSl s) (fun s => mS 56 s) w) := by
 have hvl := fun L => hv.lst L
 have hul := fun L => hu.lst L
 have hn := hk.n
 have hl := ZiJ (rs := rs) (es := es) (o := o)
 have hk2 : (repL rs es o).length ≤ 4096 ∧ (∀ z ∈ repL rs es o, TkOk z) ∧ (-1048576 ≤ s.MaxSpeed ∧ s.MaxSpeed ≤ 1048576) := ⟨by omega, hk.rk w, hs⟩
 refine Zg Tryz.func20 rfl Tryz.ntmps20 rfl ?_
 repeat (first | (refine wkM ?_; try intro _) | (refine sC rfl rfl ?_ ?_; focus (first | exact hk | exact hk2)) | (refine sN rfl rfl ?_ ?_; (focus (first | exact hk | exact hk2)); intro _; (try simp only [List.cons_append, List.nil_append, List.append_nil])))
 rename_i b3 b5 s1 ch
 generalize hT : repL rs es o = T at *
 have hcn := Zcy (cCp s.MaxSpeed T) T.length
 have hcl := fun k (h : k ∈ chainL (cCp s.MaxSpeed T) T.length) => Zet h
 have hkp : kpT s.MaxSpeed T = (chainL (cCp s.MaxSpeed T) T.length).map fun k : Nat => gi T (k : Int) := rfl
 generalize chainL (cCp s.MaxSpeed T) T.length = C at *
 have hCl := Zfo C
 refine Zp (S := (m : Nat) × SlS Zi 12 ((C.take m).map fun k : Nat => gi T (k : Int))) (fun q => q.1 ≤ C.length) (fun q => [(7, vSl s1), (8, vSl ch), (9, vSl q.2), (10, .int .i64 (q.1 : Nat))]) (fun q => mS 56 q.2 ++ (mS 3 ch ++ mS 56 s1)) (fun q => C.length - q.1) ⟨0, SlS.no⟩ (Nat.zero_le _) sbB suB (fun q hq => ?_)
 obtain ⟨m, q⟩ := q
 simp only at hq ⊢
 have hml : ((C.take m).map fun k : Nat => gi T (k : Int)).length = m := by rw [List.length_map, List.length_take]; omega
 repeat (refine wkM ?_; try intro _)
 refine Zn rfl (fun h => ?_) (fun h => ?_)
 ·have hlt : m < C.length := by have := of_decide_eq_true h; omega
  have hcm : gi (cI C) (m : Int) = ((C[m] : Nat) : Int) := by
   rw [Zl (by omega)]
   simp only [cI, List.getElem_map]
  have hCm := hcl C[m] (List.getElem_mem _)
  have hnx : ((C.take (m + 1)).map fun k : Nat => gi T (k : Int)) = ((C.take m).map fun k : Nat => gi T (k : Int)) ++ [gi T ((C[m] : Nat) : Int)] := by
   rw [List.take_succ_eq_append_getElem hlt, List.map_append]
   rfl
  generalize C[m] = k at *
  rcases s1.cases 56 with ⟨x0, -, -⟩ | ⟨bs, cb, sp, hc1, x1, x2, xne⟩
  ·rw [x0] at hCm
   cases hCm
  rcases ch.cases 3 with ⟨y0, -, -⟩ | ⟨bc, cc, sq, hc2, y1, y2, yne⟩
  ·rw [y0, List.length_nil] at hCl
   omega
  simp only [x1, x2, y1, y2, List.cons_append, List.nil_append]
  repeat (refine wkM ?_; try intro _)
  simp only [hcm]
  repeat (refine wkM ?_; try intro _)
  refine sU rfl rfl ?_ ?_ ?_ ?_
  ·rfl
  ·rfl
  ·exact ⟨by decide, by omega, by omega⟩
  intro s'
  repeat (refine wkO ?_; try intro _)
  obtain ⟨s3, e1, e2⟩ := SlS.turn 56 hnx.symm s'
  exact Zj ⟨m + 1, s3⟩ hlt (by simp only [e1, x1, y1]; exact sbB) (by simp only [e2, x2, y2]; exact suB) (by show C.length - (m + 1) < C.length - m; omega)
 ·have hge : m = C.length := by have := of_decide_eq_false h; omega
  subst hge
  repeat (refine wkM ?_; try intro _)
  obtain ⟨s3, e1, e2⟩ := SlS.turn 56 (show ((C.take C.length).map fun k : Nat => gi T (k : Int)) = kpT s.MaxSpeed T by rw [List.take_length, hkp]) q
  refine Zf rfl rfl (fun w hw => ⟨s3, ?_, ?_⟩)
  ·show Ending.returned (vSl q) = Ending.returned (vSl s3)
   rw [e1]
  ·show Own _ (mS _ s3) w
   rw [e2]
   exact hw.sub suB
instance Zzb (w0 : World) (L : List Blk) (sr0 he : Sl) (rs : List Zb) (es : List Za) (o : Int) (s : ZU) [h1 : LstC w0 L (vSlc sr0) Zb Zc rs] [h2 : LstC w0 L (vSlc he) Za Ze es] : SpecR Tryz.prog w0 L 20 [.agg (Zs ⟨sr0, he⟩), .int .i64 o, .agg (Zq s)] (SlS Zi 12 (kpT s.MaxSpeed (repL rs es o))) (fun s => vSl s) (fun s => mS 56 s) (RsOk rs es ∧ (-1048576 ≤ s.MaxSpeed ∧ s.MaxSpeed ≤ 1048576)) := ⟨fun hp w hw => Zmk sr0 he rs es o s w (h1.out w hw) (h2.out w hw) hp.1 hp.2⟩
end Go.Vt
