/- that objects are reconstructed from their reports (part 25 of 29.) Conditions: those that each statement names. -/
import Derived.Test.YtjicdlilgjdefaaGreatDoorKJ11
import Derived.Test.YtjicdlilgjdefaaGreatDoorKJ18
import Derived.Test.YtjicdlilgjdefaaGreatDoorKJ19
import Derived.Test.YtjicdlilgjdefaaGreatDoorKJ24
set_option linter.unusedSimpArgs false
set_option linter.unusedVariables false
set_option maxHeartbeats 2000000
set_option maxRecDepth 100000
set_option linter.unusedSectionVars false
namespace Go.Vt
open Go.RowKit Go.Proofs
open Go.Proofs.Tryz (prog)
section
set_option maxHeartbeats 8000000 in
theorem ZkH (v : Value) (l : List Zc) (s : ZC) (w : World) (hv : ArgS w v Zh l) (hl : l.length ≤ 4096) (hok : ∀ x ∈ l, TkOk x) (hs : -1048576 ≤ s.MaxSpeed ∧ s.MaxSpeed ≤ 1048576) :
  Calls prog 57 [v, .agg (Zm s)].toArray w (RetM (SlS (eI .i64) 1 (cI (chainL (cCp s.MaxSpeed l) l.length))) (fun o => vSl o) (fun o => mS 3 o) w) := by
 obtain ⟨p, cp, rfl⟩ := hv.form
 have hC : ∀ i k, cCp s.MaxSpeed l i k = cpt s.MaxSpeed (gi l (i : Int)) (gi l (k : Int)) := fun _ _ => rfl
 generalize hCe : cCp s.MaxSpeed l = C at *
 generalize hn : l.length = n at *
 have hgo : ∀ i : Nat, i < n → TkOk (gi l (i : Int)) := fun i hi => hok _ (Z0 (by omega))
 refine Zg Tryz.func57 rfl Tryz.ntmps57 rfl ?_
 repeat (refine wkM ?_; intros)
 refine sM rfl rfl ⟨by omega, by omega⟩ (fun b5 => ?_)
 repeat (refine wkM ?_; intros)
 rename_i b3
 refine Zq (S := Nat) (fun m => m ≤ n) (fun m => [(0, .slice p n cp), (3, .pointer (some ⟨b3, 0, none⟩)), (5, .slice (some ⟨b5, 0, none⟩) n n), (6, .int .i64 (mostL (bestL C n m))), (7, .int .i64 ((n : Int) - 1 - m))]) (fun m => [⟨b5, row (eI .i64) (tabL (n - m) (bestL C n m)) [], 3⟩, ⟨b3, Zm s, 32⟩]) (fun m => n - m) 0 (Wm _) ?_ ?_ (fun m hm => ?_)
 ·exact sbB
 ·have e : tabL (n - 0) (bestL C n 0) = List.replicate n 0 := by simp [tabL, cI, bestL]
  simp only [e]
  exact slB
 repeat (refine wkM ?_; intros)
 refine Zn rfl (fun h => ?_) (fun h => ?_)
 ·have hlt : m < n := by have := Wa h; omega
  obtain ⟨i, hi⟩ : ∃ i, n = m + i + 1 := ⟨n - m - 1, by omega⟩
  have e7 : (n : Int) - 1 - (m : Int) = (i : Int) := by omega
  have e8 : n - m = i + 1 := by omega
  have hbl := ZcQ C n m
  have hbn := Zce C n m
  have hnx : bestL C n (m + 1) = innB C i (i + 1) (bestL C n m) 1 :: bestL C n m := by
   rw [bestL, show n - (m + 1) = i by omega, show n - m = i + 1 by omega]
  have hmo := ZdO hbl
  generalize bestL C n m = r at *
  rw [e8]
  simp only [e7]
  have ht1 := ZbW (i + 1) r
  have hset : (tabL (i + 1) r).set ((i : Int)).toNat (1 : Int) = tabL i (1 :: r) := by
   rw [Int.toNat_natCast]
   exact Zi7 i r 1
  repeat (refine wkM ?_; intros)
  simp only [hset]
  refine Zq (S := Nat × Nat) (fun q => q.1 ≤ m ∧ innB C i (i + 1) r 1 = innB C i (i + 1 + q.1) (r.drop q.1) q.2 ∧ q.2 ≤ m + 1) (fun q => [(0, .slice p n cp), (3, .pointer (some ⟨b3, 0, none⟩)), (5, .slice (some ⟨b5, 0, none⟩) n n), (6, .int .i64 (mostL r)), (7, .int .i64 (i : Nat)), (8, .int .i64 ((i + 1 + q.1 : Nat)))]) (fun q => [⟨b5, row (eI .i64) (tabL i (q.2 :: r)) [], 3⟩, ⟨b3, Zm s, 32⟩]) (fun q => m - q.1) (0, 1) ⟨Wm _, rfl, by show 1 ≤ m + 1; omega⟩ sbB slB (fun q hq => ?_)
  obtain ⟨j, a⟩ := q
  obtain ⟨hj, hin, ha⟩ := hq
  simp only at hj hin ha ⊢
  have ht2 := ZbW i (a :: r)
  rw [Wu] at ht2
  have hai := ZoT i r a
  repeat (refine wkM ?_; intros)
  refine Zn rfl (fun h => ?_) (fun h => ?_)
  ·have hjm : j < m := by have := Wa h; omega
   have hget := Zlt i r a j (by omega)
   have hb := hbl (r.getD j 0) (by rw [List.getD_eq_getElem?_getD, List.getElem?_eq_getElem (by omega)]; exact List.getElem_mem _)
   have hdr : r.drop j = r.getD j 0 :: r.drop (j + 1) := by
    rw [List.drop_eq_getElem_cons (by omega), List.getD_eq_getElem?_getD, List.getElem?_eq_getElem (by omega)]
    rfl
   rw [hdr] at hin
   simp only [innB] at hin
   have hne : l ≠ [] := fun h0 => by rw [h0] at hn; simp at hn; omega
   obtain ⟨bw, ow, cw, hvw, hcw, hrow⟩ := hv.blk (k := 11) hne []
   injection hvw with e1 e2 e3
   subst e1
   subst e3
   have hrow' : ∀ L, RowC w L bw ow Zc Zh l := fun L => ⟨fun w' hw' => hrow.out w' (hw'.sub (Wk _))⟩
   have k1 := hgo i (by omega)
   have k2 := hgo (i + 1 + j) (by omega)
   have hCk := hC i (i + 1 + j)
   generalize r.getD j 0 = bb at *
   repeat (refine wkM ?_; intros)
   (refine jD 10 10 (h := ?_); (repeat (first | refine wkH ?_ | (refine tC rfl rfl ?_ ?_; focus (exact ⟨k1, k2, hs⟩)))); refine Zo ?_; (repeat (refine Z8 ?_; intro _)); refine Zr ?_)
   simp only [← hCk]
   cases hc : C i (i + 1 + j)
   ·rw [hc, if_neg (by decide)] at hin
    repeat (refine wkO ?_; intros)
    exact Zj (j + 1, a) ⟨hjm, by rw [hin]; rfl, ha⟩ sbB slB (by show m - (j + 1) < m - j; omega)
   ·rw [hc, if_pos rfl] at hin
    have hmv : (if (bb : Int) + 1 > (a : Int) then (bb : Int) + 1 else (a : Int)) = ((max a (bb + 1) : Nat) : Int) := by
     split <;> omega
    have hs2 : (tabL i (a :: r)).set ((i : Int)).toNat ((max a (bb + 1) : Nat) : Int) = tabL i (max a (bb + 1) :: r) := by
     rw [Int.toNat_natCast]
     exact Zl3 i r a (max a (bb + 1))
    repeat (refine wkM ?_; intros)
    refine jD 13 13 (h := ?_)
    (repeat (refine wkH ?_))
    rw [hget, hai, hmv]
    refine Zo ?_
    refine Zr ?_
    repeat (refine wkM ?_; intros)
    simp only [hs2]
    repeat (refine wkO ?_; intros)
    exact Zj (j + 1, max a (bb + 1)) ⟨hjm, by rw [hin]; rfl, by show max a (bb + 1) ≤ m + 1; omega⟩ sbB slB (by show m - (j + 1) < m - j; omega)
  ·have hge : j = m := by have := Wb h; omega
   subst hge
   rw [← hbn, List.drop_length, hbn] at hin
   simp only [innB] at hin
   rw [hin] at hnx
   have hmx : (if (a : Int) > (mostL r : Int) then (a : Int) else (mostL r : Int)) = ((mostL (bestL C n (j + 1)) : Nat) : Int) := by
    rw [hnx, mostL]
    split <;> omega
   have e9 : n - (j + 1) = i := by omega
   repeat (refine wkM ?_; intros)
   simp only [hai, hmx]
   exact Zj (j + 1) hlt sbB (by simp only [e9, hnx]; exact Wj _) (by omega)
 ·have hge : m = n := by have := Wb h; omega
  subst hge
  have hbn := Zce C m m
  have hat : ∀ i : Nat, i < m → gi (tabL 0 (bestL C m m)) (i : Int) = ((bestA C m i : Nat) : Int) := fun i hi => by
   rw [Zk (by rw [ZbW]; omega)]
   simp only [tabL, List.replicate_zero, Wg, cI, List.getElem_map, bestA, List.getD_eq_getElem?_getD, List.getElem?_eq_getElem (show i < (bestL C m m).length by omega), Option.getD_some]
  have hmo := ZdO (ZcQ C m m)
  have htl := ZbW 0 (bestL C m m)
  rw [Nat.sub_self]
  repeat (refine wkM ?_; intros)
  have hO := fun i (hi : i ≤ m) => Zey C m i hi
  have hmA : mostL (bestL C m m) = mostA C m := rfl
  have hB : ∀ i, bestA C m i ≤ m := fun i => by
   have : bestA C m i ≤ mostA C m := Zgu _ _
   omega
  generalize tabL 0 (bestL C m m) = tb at *
  refine Zq (S := (i : Nat) × SlS (eI .i64) 1 (cI (outN C m i).1)) (fun q => q.1 ≤ m) (fun q => [(0, .slice p m cp), (3, .pointer (some ⟨b3, 0, none⟩)), (5, .slice (some ⟨b5, 0, none⟩) m m), (6, .int .i64 ((outN C m q.1).2 : Nat)), (9, vSl q.2), (10, .int .i64 (q.1 : Nat))]) (fun q => mS 3 q.2 ++ [⟨b5, row (eI .i64) tb [], 3⟩, ⟨b3, Zm s, 32⟩]) (fun q => m - q.1) ⟨0, SlS.no⟩ (Wm _) sbB suB (fun q hq => ?_)
  obtain ⟨i, o⟩ := q
  simp only at hq ⊢
  have hOi := hO i hq
  have hnx : outN C m (i + 1) = outS C m (outN C m i) i := rfl
  unfold outS at hnx
  have hlen := hOi.len
  repeat (refine wkM ?_; intros)
  refine Zn rfl (fun h => ?_) (fun h => ?_)
  ·have hlt : i < m := by have := Wa h; omega
   have hai := hat i hlt
   have hol := Zfd (outN C m i).1
   repeat (refine wkM ?_; intros)
   refine ZaO (S := Bool) (fun q => q = decide (bestA C m i = (outN C m i).2 ∧ 0 < (outN C m i).2 ∧ ((outN C m i).1 = [] ∨ C ((outN C m i).1.getLastD 0) i = true))) (fun q => [(0, .slice p m cp), (3, .pointer (some ⟨b3, 0, none⟩)), (5, .slice (some ⟨b5, 0, none⟩) m m), (6, .int .i64 ((outN C m i).2 : Nat)), (9, vSl o), (10, .int .i64 (i : Nat)), (98, .bool q)]) (fun _ => mS 3 o ++ [⟨b5, row (eI .i64) tb [], 3⟩, ⟨b3, Zm s, 32⟩]) ?_ (fun q hq => ?_)
   ·have hne : l ≠ [] := fun h0 => by rw [h0] at hn; simp at hn; omega
    obtain ⟨bw, ow, cw, hvw, hcw, hrow⟩ := hv.blk (k := 11) hne []
    injection hvw with e1 e2 e3
    subst e1
    subst e3
    have hrow' : ∀ L, RowC w L bw ow Zc Zh l := fun L => ⟨fun w' hw' => hrow.out w' (hw'.sub (Wk _))⟩
    have k2 := hgo i hlt
    rcases o.cases 3 with ⟨x0, x1, x2⟩ | ⟨bo, co, sp, hc1, x1, x2, xne⟩
    ·have hout : (outN C m i).1 = [] := by
      have := congrArg List.length x0
      rw [hol] at this
      exact List.length_eq_zero_iff.1 this
     simp only [x1, x2, Wf, Wg]
     by_cases c1 : bestA C m i = (outN C m i).2
     ·refine jD 32 32 (h := ?_)
      (repeat (refine wkH ?_))
      simp only [hai, Wc (show ((bestA C m i : Nat) : Int) = ((outN C m i).2 : Int) by omega)]
      (repeat (refine wkH ?_))
      try simp only [Wc (show ((0 : Nat) : Int) = 0 by omega)]
      (repeat (refine wkH ?_))
      by_cases c2 : 0 < (outN C m i).2
      ·have hd : decide (bestA C m i = (outN C m i).2 ∧ 0 < (outN C m i).2 ∧ ((outN C m i).1 = [] ∨ C ((outN C m i).1.getLastD 0) i = true)) = true := Wc ⟨c1, c2, .inl hout⟩
       simp only [Wc (show (0 : Int) < ((outN C m i).2 : Int) by omega)]
       (repeat (refine wkH ?_))
       refine Zo ?_
       refine Zr ?_
       repeat (refine wkM ?_; intros)
       exact ZL true hd.symm sbB suB
      ·have hd : decide (bestA C m i = (outN C m i).2 ∧ 0 < (outN C m i).2 ∧ ((outN C m i).1 = [] ∨ C ((outN C m i).1.getLastD 0) i = true)) = false := We fun h => c2 h.2.1
       simp only [We (show ¬ (0 : Int) < ((outN C m i).2 : Int) by omega)]
       (repeat (refine wkH ?_))
       refine Zo ?_
       refine Zr ?_
       repeat (refine wkM ?_; intros)
       exact ZL false hd.symm sbB suB
     ·have hd : decide (bestA C m i = (outN C m i).2 ∧ 0 < (outN C m i).2 ∧ ((outN C m i).1 = [] ∨ C ((outN C m i).1.getLastD 0) i = true)) = false := We fun h => c1 h.1
      refine jD 32 32 (h := ?_)
      (repeat (refine wkH ?_))
      simp only [hai, We (show ¬ ((bestA C m i : Nat) : Int) = ((outN C m i).2 : Int) by omega)]
      (repeat (refine wkH ?_))
      refine Zo ?_
      refine Zr ?_
      repeat (refine wkM ?_; intros)
      exact ZL false hd.symm sbB suB
    ·have hone : (outN C m i).1 ≠ [] := fun h0 => by rw [h0] at xne; exact xne rfl
     have hpos : 0 < (outN C m i).1.length := List.length_pos_iff.2 hone
     have hlm : (outN C m i).1.getLastD 0 < m := by
      have h1 : (outN C m i).1.getLastD 0 ∈ (outN C m i).1 := by
       rw [ZbV hone, List.getD_eq_getElem?_getD, List.getElem?_eq_getElem (by omega)]
       exact List.getElem_mem _
      have := hOi.lt _ h1
      omega
     have hla : gi (cI (outN C m i).1) (((cI (outN C m i).1).length : Int) - 1) = (((outN C m i).1.getLastD 0 : Nat) : Int) := by
      rw [hol, show (((outN C m i).1.length : Int) - 1) = (((outN C m i).1.length - 1 : Nat) : Int) by omega, Zk (by rw [hol]; omega), ZbV hone]
      simp only [cI, List.getElem_map, List.getD_eq_getElem?_getD, List.getElem?_eq_getElem (show (outN C m i).1.length - 1 < (outN C m i).1.length by omega), Option.getD_some]
     have k1 := hgo _ hlm
     have hCk := hC ((outN C m i).1.getLastD 0) i
     simp only [x1, x2, Wf, Wg]
     by_cases c1 : bestA C m i = (outN C m i).2
     ·refine jD 32 32 (h := ?_)
      (repeat (refine wkH ?_))
      simp only [hai, Wc (show ((bestA C m i : Nat) : Int) = ((outN C m i).2 : Int) by omega)]
      (repeat (refine wkH ?_))
      simp only [We (show ¬ ((cI (outN C m i).1).length : Int) = 0 by omega)]
      (repeat (refine wkH ?_))
      simp only [hla]
      (repeat (first | refine wkH ?_ | (refine tC rfl rfl ?_ ?_; focus (exact ⟨k1, k2, hs⟩))))
      simp only [← hCk]
      cases hc : C ((outN C m i).1.getLastD 0) i
      ·have hd : decide (bestA C m i = (outN C m i).2 ∧ 0 < (outN C m i).2 ∧ ((outN C m i).1 = [] ∨ C ((outN C m i).1.getLastD 0) i = true)) = false := by
        simp only [hc, c1, hone, false_or, decide_eq_false_iff_not]
        exact fun h => absurd h.2.2 (by decide)
       rw [hc] at hd
       (repeat (refine wkH ?_))
       refine Zo ?_
       refine Zr ?_
       repeat (refine wkM ?_; intros)
       exact ZL false hd.symm sbB suB
      ·by_cases c2 : 0 < (outN C m i).2
       ·have hd : decide (bestA C m i = (outN C m i).2 ∧ 0 < (outN C m i).2 ∧ ((outN C m i).1 = [] ∨ C ((outN C m i).1.getLastD 0) i = true)) = true := Wc ⟨c1, c2, .inr hc⟩
        rw [hc] at hd
        (repeat (refine wkH ?_))
        simp only [Wc (show (0 : Int) < ((outN C m i).2 : Int) by omega)]
        (repeat (refine wkH ?_))
        refine Zo ?_
        refine Zr ?_
        repeat (refine wkM ?_; intros)
        exact ZL true (hd.symm.trans (by simp)) sbB suB
       ·have hd : decide (bestA C m i = (outN C m i).2 ∧ 0 < (outN C m i).2 ∧ ((outN C m i).1 = [] ∨ C ((outN C m i).1.getLastD 0) i = true)) = false := We fun h => c2 h.2.1
        rw [hc] at hd
        (repeat (refine wkH ?_))
        simp only [We (show ¬ (0 : Int) < ((outN C m i).2 : Int) by omega)]
        (repeat (refine wkH ?_))
        refine Zo ?_
        refine Zr ?_
        repeat (refine wkM ?_; intros)
        exact ZL false (hd.symm.trans (by simp)) sbB suB
     ·have hd : decide (bestA C m i = (outN C m i).2 ∧ 0 < (outN C m i).2 ∧ ((outN C m i).1 = [] ∨ C ((outN C m i).1.getLastD 0) i = true)) = false := We fun h => c1 h.1
      refine jD 32 32 (h := ?_)
      (repeat (refine wkH ?_))
      simp only [hai, We (show ¬ ((bestA C m i : Nat) : Int) = ((outN C m i).2 : Int) by omega)]
      (repeat (refine wkH ?_))
      refine Zo ?_
      refine Zr ?_
      repeat (refine wkM ?_; intros)
      exact ZL false hd.symm sbB suB
   ·by_cases hP : bestA C m i = (outN C m i).2 ∧ 0 < (outN C m i).2 ∧ ((outN C m i).1 = [] ∨ C ((outN C m i).1.getLastD 0) i = true)
    ·rw [Wc hP] at hq
     subst hq
     rw [if_pos hP] at hnx
     repeat (refine wkM ?_; intros)
     refine sU rfl rfl ?_ ?_ ?_ ?_
     ·rfl
     ·rfl
     ·exact ⟨by decide, by omega, by omega⟩
     intro s'
     repeat (refine wkO ?_; intros)
     have e1 : cI (outN C m (i + 1)).1 = cI (outN C m i).1 ++ [(i : Int)] := by rw [hnx]; simp [cI]
     have e4 : (((outN C m (i + 1)).2 : Nat) : Int) = ((outN C m i).2 : Int) - 1 := by rw [hnx]; simp only; omega
     obtain ⟨s3, e2, e3⟩ := SlS.turn 3 e1.symm s'
     exact Zj ⟨i + 1, s3⟩ hlt (by simp only [e2, e4]; exact sbB) (by simp only [e3]; exact suB) (by show m - (i + 1) < m - i; omega)
    ·rw [We hP] at hq
     subst hq
     rw [if_neg hP] at hnx
     repeat (refine wkO ?_; intros)
     have e1 : cI (outN C m (i + 1)).1 = cI (outN C m i).1 := by rw [hnx]
     have e4 : (((outN C m (i + 1)).2 : Nat) : Int) = ((outN C m i).2 : Int) := by rw [hnx]
     obtain ⟨s3, e2, e3⟩ := SlS.turn 3 e1.symm o
     exact Zj ⟨i + 1, s3⟩ hlt (by simp only [e2, e4]; exact sbB) (by simp only [e3]; exact suB) (by show m - (i + 1) < m - i; omega)
  ·have hge : i = m := by have := Wb h; omega
   subst hge
   repeat (refine wkM ?_; intros)
   exact Zf rfl rfl (fun w hw => ⟨o, rfl, hw.sub suB⟩)
instance Zz2 (w0 : World) (L : List Blk) (v : Value) (l : List Zc) (s : ZC) [h : LstC w0 L v Zc Zh l] : SpecR prog w0 L 57 [v, .agg (Zm s)] (SlS (eI .i64) 1 (cI (chainL (cCp s.MaxSpeed l) l.length))) (fun o => vSl o) (fun o => mS 3 o) (l.length ≤ 4096 ∧ (∀ x ∈ l, TkOk x) ∧ (-1048576 ≤ s.MaxSpeed ∧ s.MaxSpeed ≤ 1048576)) := ⟨fun hp w hw =>
 ZkH v l s w (h.out w hw) hp.1 hp.2.1 hp.2.2⟩
end
section
open Fv (va red)
def mtF (a b : Zt) : ZJ × Bool := if a.From.P < b.From.P then (b.From, b.OpenFrom) else if a.From.P = b.From.P then (a.From, a.OpenFrom || b.OpenFrom) else (a.From, a.OpenFrom)
def mtT (a b : Zt) : ZJ × Bool := if b.To.P < a.To.P then (b.To, b.OpenTo) else if a.To.P = b.To.P then (a.To, a.OpenTo || b.OpenTo) else (a.To, a.OpenTo)
def mt (a b : Zt) : Zt := ⟨(mtF a b).1, (mtT a b).1, (mtF a b).2, (mtT a b).2⟩
def mtO (a b : Zt) : Bool := decide ((mt a b).From.P < (mt a b).To.P) || (decide ((mt a b).From.P = (mt a b).To.P) && (!(mt a b).OpenFrom && !(mt a b).OpenTo))
end
section
open Fv (va red)
def ri (u : UL) (ds : List Zt) : Nat → List UL
 | 0 => []
 | k + 1 => ri u ds k ++ (if mtO u.In (gi ds (k : Int)) = true then [⟨mt u.In (gi ds (k : Int)), u.F⟩] else [])
def ro (us : List UL) (ds : List Zt) : Nat → List UL
 | 0 => []
 | m + 1 => ro us ds m ++ ri (gi us (m : Int)) ds ds.length
end
section
open Fv (va red)
def memI (I : Zt) (t : Rat) : Prop := (I.From.P < t ∨ (I.From.P = t ∧ I.OpenFrom = false)) ∧ (t < I.To.P ∨ (t = I.To.P ∧ I.OpenTo = false))
theorem ZtI {us : List UL} {x : UL} {ds : List Zt} : ∀ {m : Nat}, m ≤ us.length → (x ∈ ro us ds m ↔ ∃ i : Nat, i < m ∧ x ∈ ri (gi us (i : Int)) ds ds.length)
 | 0, _ => by simp [ro]
 | m + 1, hm => by
  rw [ro, Wv, ZtI (by omega)]
  constructor
  ·rintro (⟨i, h1, h2⟩ | h1)
   ·exact ⟨i, by omega, h2⟩
   ·exact ⟨m, by omega, h1⟩
  ·rintro ⟨i, h1, h2⟩
   rcases (by omega : i < m ∨ i = m) with h4 | h4
   ·exact .inl ⟨i, h4, h2⟩
   ·subst h4; exact .inr h2
structure UK (K : Nat) (u : UL) : Prop where
 i : IvOk K u.In
 f : LnOk K u.F
theorem UK.mono {K K' : Nat} {u : UL} (h : UK K u) (hk : K ≤ K') : UK K' u := ⟨h.i.mono hk, h.f.mono hk⟩
theorem UK.uin {K : Nat} {u : UL} (h : UK K u) (hk : K ≤ KN) : UIn u := ⟨h.i.mono hk, h.f.mono hk⟩
theorem Zuc {K : Nat} {f : ZF} {t : Rat} (h : LnOk K f) (ht : M t ≤ K) : LnOk (4 * K + 4) (lred f t) := by
 have one : ∀ a b : Rat, M a ≤ K → M b ≤ K → M (a + t * (b + t * 0)) ≤ 4 * K + 4 := fun a b ha hb => by
  have h1 := ZiP a (t * (b + t * 0))
  have h2 := ZmU t (b + t * 0)
  have h3 := ZiP b (t * 0)
  have h4 := ZmU t 0
  have h5 : M 0 = 1 := by decide
  omega
 have h0 : M 0 ≤ 4 * K + 4 := by
  have h5 : M 0 = 1 := by decide
  omega
 exact ⟨one _ _ h.x0 h.x1, h0, one _ _ h.y0 h.y1, h0⟩
theorem ZtN {K : Nat} {l : List UL} {i : Nat} {xs : List UL} {x : UL} (h : ∀ v ∈ xs, UK (4 * K + 4) v) (hx : UK K x) : ∀ v ∈ nstp l i xs x, UK (4 * K + 4) v := by
 have hx' := hx.mono (show K ≤ 4 * K + 4 by omega)
 have trn : ∀ {u : UL}, UK (4 * K + 4) u → ∀ v ∈ turn xs u, UK (4 * K + 4) v := fun hu v hv => by
  rcases List.mem_or_eq_of_mem_set hv with h1 | h1
  ·exact h v h1
  ·rw [h1]; exact hu
 unfold nstp
 split
 ·split
  ·rename_i hc
   have h0 : 0 < xs.length := by
    unfold cA at hc
    simp only [Wq] at hc
    exact Zcf hc.1
   have hl := h _ (Z0 (i := (xs.length : Int) - 1) (xs := xs) (by omega))
   exact trn ⟨⟨hl.i.r1, hx'.i.r2, hl.i.n1, hx'.i.n2, hl.i.m1, hx'.i.m2⟩, hl.f⟩
  ·intro v hv
   rcases List.mem_append.1 hv with h1 | h1
   ·exact h v h1
   ·rw [Wo] at h1
    subst h1
    split
    ·exact ⟨hx'.i.at _ _, hx'.f⟩
    ·exact hx'
 ·split
  ·rename_i hc
   have h0 : 0 < xs.length := by
    unfold cC at hc
    simp only [Wq] at hc
    exact Zcf hc.1
   have hl := h _ (Z0 (i := (xs.length : Int) - 1) (xs := xs) (by omega))
   exact trn ⟨hl.i.at _ _, hl.f⟩
  ·split
   ·exact h
   ·intro v hv
    rcases List.mem_append.1 hv with h1 | h1
    ·exact h v h1
    ·rw [Wo] at h1
     subst h1
     exact ⟨hx'.i, Zuc hx.f hx.i.m1⟩
theorem ZrF {K : Nat} {l : List UL} (h : ∀ u ∈ l, UK K u) : ∀ m, m ≤ l.length → ∀ v ∈ nrm l m, UK (4 * K + 4) v
 | 0, _ => fun v hv => by cases hv
 | m + 1, hm => ZtN (ZrF h m (by omega)) (h _ (Z0 (by omega)))
theorem Zww {K : Nat} {u v : UL} (h : UK K u) (hv : v ∈ atU u) : UK K v := by
 unfold atU at hv
 rcases List.mem_append.1 hv with h1 | h1
 ·split at h1
  ·cases h1
  ·rw [Wo] at h1
   subst h1
   exact ⟨⟨h.i.r1, h.i.r1, h.i.n1, h.i.n1, h.i.m1, h.i.m1⟩, h.f⟩
 ·split at h1
  ·cases h1
  ·rcases List.mem_cons.1 h1 with h2 | h2
   ·subst h2
    exact ⟨h.i.at _ _, h.f⟩
   ·split at h2
    ·cases h2
    ·rw [Wo] at h2
     subst h2
     exact ⟨⟨h.i.r2, h.i.r2, h.i.n2, h.i.n2, h.i.m2, h.i.m2⟩, h.f⟩
theorem Zrz {K : Nat} {us : List UL} (h : ∀ u ∈ us, UK K u) : ∀ m, m ≤ us.length → ∀ v ∈ atm us m, UK K v
 | 0, _, v, hv => by cases hv
 | m + 1, hm, v, hv => by
  rw [atm] at hv
  rcases List.mem_append.1 hv with h1 | h1
  ·exact Zrz h m (by omega) v h1
  ·exact Zww (h _ (Z0 (by omega))) h1
theorem ZtA {K : Nat} {us : List UL} (h : ∀ u ∈ us, UK K u) : ∀ v ∈ nrmR us, UK (4 * K + 4) v := by
 unfold nrmR
 split
 ·exact ZrF (Zrz (fun u hu => h u (ZeB hu)) _ (Wl _)) _ (Wl _)
 ·intro v hv
  cases hv
end
section
def eqN (us vs : List PU) : Nat → Bool
 | 0 => true
 | m + 1 => eqN us vs m && decide (gi us (m : Int) = gi vs (m : Int))
theorem Zlf {us vs : List PU} : ∀ m, m ≤ us.length → m ≤ vs.length → (eqN us vs m = true ↔ us.take m = vs.take m)
 | 0, _, _ => by simp [eqN]
 | m + 1, h1, h2 => by
  rw [eqN, Wq, Zlf m (by omega) (by omega), decide_eq_true_iff, Wn h1, Wn h2, Zk h1, Zk h2]
  constructor
  ·rintro ⟨h3, h4⟩
   rw [h3, h4]
  ·intro h3
   have := List.append_inj' h3 rfl
   exact ⟨this.1, by simpa using this.2⟩
theorem ZqA (v1 v2 : Value) (us vs : List PU) (w : World) (h1 : ArgS w v1 rP us) (h2 : ArgS w v2 rP vs) (hl : us.length ≤ 1048576) (hl2 : vs.length ≤ 1048576) :
  Calls prog 58 [v1, v2].toArray w (Ret (.bool (decide (us = vs))) w) := by
 refine Zg Tryz.func58 rfl Tryz.ntmps58 rfl ?_
 obtain ⟨p1, c1, rfl⟩ := h1.form
 obtain ⟨p2, c2, rfl⟩ := h2.form
 repeat (refine wkB ?_; intros)
 by_cases hll : us.length = vs.length
 ·simp only [Wc (show (us.length : Int) = (vs.length : Int) by omega), Bool.not_true]
  repeat (refine wkB ?_; intros)
  refine Zq (S := Nat) (fun m => m ≤ us.length ∧ eqN us vs m = true) (fun m => [(0, .slice p1 us.length c1), (1, .slice p2 vs.length c2), (11, .slice p1 us.length c1), (12, .int .i64 us.length), (13, .int .i64 (m : Nat))]) (fun _ => []) (fun m => us.length - m) 0 ⟨Wm _, rfl⟩ sbB slB (fun m hm => ?_)
  obtain ⟨hm, he⟩ := hm
  repeat (refine wkB ?_; intros)
  refine Zn rfl (fun h => ?_) (fun h => ?_)
  ·have hlt : m < us.length := by have := Wa h; omega
   have hne : us ≠ [] := fun h0 => by rw [h0] at hlt; simp at hlt
   have hne2 : vs ≠ [] := fun h0 => by rw [h0] at hll; simp at hll; rw [hll] at hlt; simp at hlt
   obtain ⟨b1, o1, c1', hv1, hc1, hr1⟩ := h1.blk (k := 35) hne []
   injection hv1 with e1 e2 e3
   subst e1
   subst e3
   obtain ⟨b2, o2, c2', hv2, hc2, hr2⟩ := h2.blk (k := 35) hne2 []
   injection hv2 with e1 e2 e3
   subst e1
   subst e3
   have hr1' : ∀ L, RowC w L b1 o1 PU rP us := fun L => ⟨fun w' hw' => hr1.out w' (hw'.sub (Wk _))⟩
   have hr2' : ∀ L, RowC w L b2 o2 PU rP vs := fun L => ⟨fun w' hw' => hr2.out w' (hw'.sub (Wk _))⟩
   repeat (refine wkB ?_; intros)
   refine jD 9 9 (h := ?_)
   (repeat (refine wkH ?_))
   rcases hd : decide (gi us (m : Int) = gi vs (m : Int)) with _ | _
   ·refine Zo ?_
    refine Zr ?_
    have hno : decide (us = vs) = false := We fun h0 => by
     subst h0
     exact Wb hd rfl
    repeat (refine wkB ?_; intros)
    rw [hno]
    exact Zf rfl rfl (fun w hw => Zi hw)
   ·refine Zo ?_
    refine Zr ?_
    repeat (first | (refine wkB ?_; intros) | (refine wnM ?_ ?_; (focus (exact ⟨by omega, by omega⟩)); intros))
    exact Zj (m + 1) ⟨hlt, by rw [eqN, he, hd]; rfl⟩ sbB slB (by omega)
  ·have hge : m = us.length := by have := Wb h; omega
   subst hge
   have hyes : decide (us = vs) = true := by
    have := (Zlf us.length (Wl _) (by omega)).1 he
    rw [List.take_length, hll, List.take_length] at this
    exact Wc this
   repeat (refine wkB ?_; intros)
   rw [hyes]
   exact Zf rfl rfl (fun w hw => Zi hw)
 ·have hno : decide (us = vs) = false := We fun h0 => hll (by rw [h0])
  simp only [We (show ¬ (us.length : Int) = (vs.length : Int) by omega), Bool.not_false]
  repeat (refine wkB ?_; intros)
  rw [hno]
  exact Zf rfl rfl (fun w hw => Zi hw)
theorem Zmk (v1 v2 : Value) (us vs : List PU) (w : World) (h1 : ArgS w v1 rP us) (h2 : ArgS w v2 rP vs) (hl : us.length ≤ 1048576) (hl2 : vs.length ≤ 1048576) :
  Calls prog 22 [v1, v2].toArray w (Ret (.bool (decide (us = vs))) w) := by
 have : ∀ L, SpecM prog w L 58 [v1, v2] (.bool (decide (us = vs))) True := fun L => ⟨fun _ w' hw' => ZqA v1 v2 us vs w' (h1.to hw'.ext) (h2.to hw'.ext) hl hl2⟩
 refine Zg Tryz.func22 rfl Tryz.ntmps22 rfl ?_
 repeat (refine wkB ?_; intros)
 exact Zf rfl rfl (fun w hw => Zi hw)
instance ZDx (w0 : World) (L : List Blk) (v1 v2 : Value) (us vs : List PU) [h1 : LstC w0 L v1 PU rP us] [h2 : LstC w0 L v2 PU rP vs] : SpecM prog w0 L 22 [v1, v2] (.bool (decide (us = vs))) (us.length ≤ 1048576 ∧ vs.length ≤ 1048576) := ⟨fun hp w hw => Zmk v1 v2 us vs w (h1.out w hw) (h2.out w hw) hp.1 hp.2⟩
end
section
open Fv (va red)
abbrev K0 : Nat := 6291460
abbrev K1 : Nat := 4 * K0 + 4
abbrev K2 : Nat := 4 * K1 + 4
theorem Zwi {pts : List SS} (hB : Bnd pts) (i : Nat) : LnOk K0 (stl (gi pts (i : Int)) (gi pts ((i + 1 : Nat) : Int))) := by
 obtain ⟨h1, h2, h3⟩ := hB (i : Int)
 obtain ⟨h4, h5, h6⟩ := hB ((i + 1 : Nat) : Int)
 have := MB.mk h1
 have := MB.mk h2
 have := MB.mk h3
 have := MB.mk h4
 have := MB.mk h5
 have := MB.mk h6
 exact ⟨MB.lt (q := (stl (gi pts (i : Int)) (gi pts ((i + 1 : Nat) : Int))).X0) rfl, MB.lt (q := (stl (gi pts (i : Int)) (gi pts ((i + 1 : Nat) : Int))).X1) rfl, MB.lt (q := (stl (gi pts (i : Int)) (gi pts ((i + 1 : Nat) : Int))).Y0) rfl, MB.lt (q := (stl (gi pts (i : Int)) (gi pts ((i + 1 : Nat) : Int))).Y1) rfl⟩
theorem ZgS : K0 ≤ K1 ∧ K1 ≤ KN ∧ K0 ≤ KN ∧ K2 ≤ KN ∧ PB ≤ K0 ∧ KN ≤ BQ := by decide
theorem Zxk {pts : List SS} (hB : Bnd pts) (i : Nat) : UK K0 (toU (sgU pts i)) :=
 ⟨⟨rfl, rfl, rfl, rfl, Wi (hB (i : Int)).1 ZgS.2.2.2.2.1, Wi (hB ((i + 1 : Nat) : Int)).1 ZgS.2.2.2.2.1⟩, Zwi hB i⟩
theorem Zw6 {pts : List SS} (hB : Bnd pts) : UK K0 (toU (one1 (gi pts 0))) := by
 have h0 : M 0 ≤ K0 := by decide
 have h1 := ZgS.2.2.2.2.1
 exact ⟨⟨rfl, rfl, rfl, rfl, Wi (hB 0).1 h1, Wi (hB 0).1 h1⟩, ⟨Wi (hB 0).2.1 h1, h0, Wi (hB 0).2.2 h1, h0⟩⟩
end
section
open Fv (va red)
abbrev absP (u : PU) : GU Rat ZF := absU (toU u)
end
section
open Fv (va red)
theorem Zhh {α β : Type} [Inhabited α] (f : α → β) (xs : List α) : mpN f xs xs.length = xs.map f := by
 rw [Zgw f xs _ (Wl _), List.take_length]
theorem Zlv (r : List PU) : (r.map toU).map absU = r.map absP := by
 rw [List.map_map]
 rfl
end
section
theorem Zq7 {us : List UL} (h : NF (us.map absU)) (hk : ∀ u ∈ us, UIn u) : nrmR us = us ∧ nrmE us = 0 ∧ ∀ i, i + 1 < us.length → aprt (gi us (i : Int)).In (gi us ((i + 1 : Nat) : Int)).In = true := by
 have hd : (us.map absU).Pairwise Dis := h.pw.imp fun h => h.bf.Dis
 have hv : UVal us := ⟨hk, fun u hu => h.ok _ (List.mem_map.2 ⟨u, hu, rfl⟩)⟩
 obtain ⟨h1, h2⟩ := Zn0 hv hd
 refine ⟨Zj5 (fun u hu => (Zma hk u hu).i) (fun u hu => (hk u hu).i) (NF.uniq h1 h h2), (ZoE hv).2 hd, fun i hi => ?_⟩
 exact Zgy.2 (ZwP h (i := i) (j := i + 1) (by omega) hi)
structure PFine (us : List PU) : Prop where
 nf : NF (us.map absP)
 k : ∀ u ∈ us, UIn (toU u)
 l : us.length ≤ 19
end
section
theorem Zt0 {pts : List SS} (hB : Bnd pts) : ∀ u ∈ frS pts, UIn (toU u) := fun u hu => by
 by_cases h1 : pts.length = 1
 ·have e : frS pts = [one1 (gi pts 0)] := by unfold frS; rw [if_pos h1]
  rw [e, Wo] at hu
  subst hu
  exact (Zw6 hB).uin ZgS.2.2.1
 ·have e : frS pts = mNorm (sgs pts (pts.length - 1)) := by unfold frS; rw [if_neg h1]
  have e3 : (frS pts).map toU = nrmR (sgW pts (pts.length - 1)) := by
   rw [e, ← Zeq toU, ZhU]
   rfl
  refine (ZtA (K := K0) (us := sgW pts (pts.length - 1)) (fun v hv => ?_) (toU u) (by rw [← e3]; exact List.mem_map.2 ⟨u, hu, rfl⟩)).uin ZgS.2.1
  obtain ⟨i, -, rfl⟩ := ZhO hv
  exact Zxk hB i
theorem Zo7 {l : List SS} {g : Rat} (hB : Bnd l) (hi : Inc l) : ∀ i, i ≤ l.length → ∀ u ∈ (thrN l g i).1, UIn (toU u)
 | 0, _, u, hu => by cases hu
 | i + 1, h, u, hu => by
  have ih := Zo7 (g := g) hB hi i (by omega)
  have hk := Zdz (g := g) hB hi i (by omega)
  simp only [thrN] at hu
  split at hu
  ·exact ih u hu
  ·rcases List.mem_append.1 hu with h1 | h1
   ·exact ih u h1
   ·have hr := hk.r
    have e : (thrN l g i).2 ++ [gi l (i : Int)] = (l.drop (i - (thrN l g i).2.length)).take ((thrN l g i).2.length + 1) := by
     have e1 := hk.run
     rw [Wn (by rw [List.length_drop]; omega), ← e1, List.getElem_drop, Zk (by omega)]
     congr 2
     simp only [show i - (thrN l g i).2.length + (thrN l g i).2.length = i by omega]
    rw [e] at h1
    exact Zt0 (ZeD hB hi (by omega)).1 u h1
theorem Zrd {l : List SS} {g : Rat} (hB : Bnd l) (hi : Inc l) (hn : l.length ≤ 19) : PFine (thrN l g l.length).1 := by
 have hk := Zdz (g := g) hB hi l.length (Wl _)
 have h1 := hk.n
 refine ⟨?_, Zo7 hB hi _ (Wl _), by omega⟩
 rw [← Zlv]
 exact hk.nf
theorem ZmQ {us : List PU} (h : PFine us) : mNorm us = us ∧ nrmE (us.map toU) = 0 := by
 have h1 := Zq7 (us := us.map toU) (by rw [Zlv]; exact h.nf) (fun u hu => by
  obtain ⟨x, hx, rfl⟩ := List.mem_map.1 hu
  exact h.k x hx)
 refine ⟨?_, h1.2.1⟩
 unfold mNorm
 rw [Zhh toU, h1.1, Zhh ofU, List.map_map]
 exact List.map_id'' (fun _ => rfl) us
end
section
set_option maxHeartbeats 8000000 in
theorem Zo5 (v : Value) (l : List Zc) (s : ZC) (w : World) (hv : ArgS w v Zh l) (hl : l.length ≤ 19) (hok : ∀ x ∈ l, TkOk x) (hinc : Inc (spL l)) (hs : -2147483648 ≤ s.MaxGap ∧ s.MaxGap ≤ 2147483648) :
  Calls prog 28 [v, .agg (Zm s)].toArray w (RetM (SlS rP 36 (thrT l s.MaxGap l.length).1) (fun o => vSl o) (fun o => mS 115 o) w) := by
 obtain ⟨p, cp, rfl⟩ := hv.form
 have hfine := Zrd (g := (s.MaxGap : Rat)) (ZcR hok) hinc (by rw [ZaZ]; exact hl)
 rw [ZaZ] at hfine
 have hsame := ZmQ hfine
 generalize hn : l.length = n at *
 have hgo : ∀ i : Nat, i < n → TkOk (gi l (i : Int)) := fun i hi => hok _ (Z0 (by omega))
 have hO := fun i (hi : i ≤ n) => Zdz (g := (s.MaxGap : Rat)) (ZcR hok) hinc i (by rw [ZaZ]; omega)
 refine Zg Tryz.func28 rfl Tryz.ntmps28 rfl ?_
 repeat (refine wkM ?_; intros)
 rename_i b3
 refine Zq (S := (i : Nat) × (th : List PU × List SS) × SlS rP 36 th.1 × SlS rS 12 th.2) (fun q => q.1 ≤ n ∧ q.2.1 = thrT l s.MaxGap q.1) (fun q => [(0, .slice p n cp), (3, .pointer (some ⟨b3, 0, none⟩)), (5, vSl q.2.2.1), (6, vSl q.2.2.2), (7, .int .i64 (q.1 : Nat))]) (fun q => mS 143 q.2.2.2 ++ (mS 115 q.2.2.1 ++ [⟨b3, Zm s, 32⟩])) (fun q => n - q.1) ⟨0, ([], []), SlS.no, SlS.no⟩ ⟨Wm _, rfl⟩ sbB suB (fun q hq => ?_)
 obtain ⟨i, ⟨out, run⟩, o, r⟩ := q
 obtain ⟨hq, hth⟩ := hq
 simp only at hq hth o r ⊢
 have hi := hO i hq
 have hnx : thrT l s.MaxGap (i + 1) = if thrC (spL l) (s.MaxGap : Rat) i then ((thrT l s.MaxGap i).1, (thrT l s.MaxGap i).2 ++ [gi (spL l) (i : Int)]) else ((thrT l s.MaxGap i).1 ++ frS ((thrT l s.MaxGap i).2 ++ [gi (spL l) (i : Int)]), []) := rfl
 rw [show thrN (spL l) (s.MaxGap : Rat) i = (out, run) from hth.symm] at hi
 rw [← hth] at hnx
 have hrn : run.length ≤ i := hi.r
 have hon : out.length + run.length ≤ i := hi.n
 repeat (refine wkM ?_; intros)
 refine Zn rfl (fun h => ?_) (fun h => ?_)
 ·have hlt : i < n := by have := Wa h; omega
  have hrun : run ++ [gi (spL l) (i : Int)] = ((spL l).drop (i - run.length)).take (run.length + 1) := by
   have e : run = ((spL l).drop (i - run.length)).take run.length := hi.run
   rw [Wn (by rw [List.length_drop, ZaZ]; omega), ← e]
   rw [List.getElem_drop, Zk (by rw [ZaZ]; omega)]
   congr 2
   simp only [show i - run.length + run.length = i by omega]
  obtain ⟨p1, p2, -⟩ := ZeD (a := i - run.length) (r := run.length + 1) (ZcR hok) hinc (by rw [ZaZ]; omega)
  rw [← hrun] at p1 p2
  have hCC := Zll (g := s.MaxGap) (i := i) (l := l) (by omega)
  have hsm : gi (spL l) (i : Int) = smT (gi l (i : Int)) := Zei (f := smT) (by omega)
  rw [hsm] at hnx p1 p2
  have hlen : (run ++ [smT (gi l (i : Int))]).length = run.length + 1 := by simp
  have hfew := ZhH p1 p2 (by omega)
  have hne : l ≠ [] := fun h0 => by rw [h0] at hn; simp at hn; omega
  obtain ⟨bw, ow, cw, hvw, hcw, hrow⟩ := hv.blk (k := 11) hne []
  injection hvw with e1 e2 e3
  subst e1
  subst e3
  have hrow' : ∀ L, RowC w L bw ow Zc Zh l := fun L => ⟨fun w' hw' => hrow.out w' (hw'.sub (Wk _))⟩
  have k1 := hgo i hlt
  have hx : -9223372036854775808 ≤ (gi l (i : Int)).Report.X ∧ (gi l (i : Int)).Report.X ≤ 9223372036854775807 := by have := k1.x; omega
  have hy : -9223372036854775808 ≤ (gi l (i : Int)).Report.Y ∧ (gi l (i : Int)).Report.Y ≤ 9223372036854775807 := by have := k1.y; omega
  repeat (refine wkM ?_; intros)
  rename_i b8
  (refine Zao (.v [0, 1, 2, 3, 4, 5, 6, 7, 8, 9, 10, 11, 12, 13] (.e1 14 (.e1 15 (.e1 16 (.fin))))) ([⟨b8, Zd (Zu (gi l (i : Int))).Report, 35⟩]) (h := ?_); refine wkX ?_)
  (repeat (first | refine wkH ?_ | (refine tC rfl rfl ?_ ?_; focus (first | exact hx | exact hy))))
  repeat (refine wkT ?_; intros)
  refine eU rfl rfl ?_ ?_ ?_ ?_
  ·rfl
  ·rfl
  ·exact ⟨by decide, by omega, by omega⟩
  intro r'
  repeat (refine wkT ?_; intros)
  have hr' : ∃ r2 : SlS rS 12 (run ++ [smT (gi l (i : Int))]), vSl r2 = vSl r' ∧ ∀ T, mS T r2 = mS T r' := r'.like rfl
  obtain ⟨r2, hr2, hm2⟩ := hr'
  rw [← hr2]
  simp only [← hm2]
  clear hr2 hm2
  repeat (refine wkM ?_; intros)
  refine ZaO (S := Bool) (fun q => q = !thrC (spL l) (s.MaxGap : Rat) i) (fun q => [(0, .slice (some ⟨bw, ow, none⟩) n cp), (3, .pointer (some ⟨b3, 0, none⟩)), (5, vSl o), (6, vSl r2), (7, .int .i64 (i : Nat)), (61, .bool q)]) (fun _ => mS 143 r2 ++ (mS 115 o ++ [⟨b3, Zm s, 32⟩])) ?_ (fun q hq2 => ?_)
  ·by_cases c1 : i + 1 < n
   ·rw [Wc (show i + 1 < l.length by omega), Bool.true_and] at hCC
    have k2 := hgo (i + 1) c1
    have g1 := MB.mk k1.t
    have g2 := MB.mk k2.t
    have h1 : M (gi l ((i + 1 : Nat) : Int)).T ≤ LQ ∧ M (gi l (i : Int)).T ≤ LQ := ⟨Wi k2.t (by decide), Wi k1.t (by decide)⟩
    have h2 : M ((gi l ((i + 1 : Nat) : Int)).T - (gi l (i : Int)).T) ≤ LQ ∧ M (s.MaxGap : Rat) ≤ LQ := ⟨MB.lt rfl, Wi (ZdW hs) (by decide)⟩
    have h3 : -9223372036854775808 ≤ s.MaxGap ∧ s.MaxGap ≤ 9223372036854775807 := by omega
    have hf : decide (0 < cq ((gi l ((i + 1 : Nat) : Int)).T - (gi l (i : Int)).T) (s.MaxGap : Rat)) = farT s.MaxGap (gi l (i : Int)) (gi l ((i + 1 : Nat) : Int)) := decide_eq_decide.2 ZiQ
    have hnn : (!thrC (spL l) (s.MaxGap : Rat) i) = farT s.MaxGap (gi l (i : Int)) (gi l ((i + 1 : Nat) : Int)) := by rw [hCC, Bool.not_not]
    refine jD 24 24 (h := ?_)
    (repeat (refine wkH ?_))
    simp only [We (show ¬ (i : Int) + 1 = (n : Int) by omega)]
    (repeat (first | refine wkH ?_ | (refine tC rfl rfl ?_ ?_; focus (first | exact h1 | exact h2 | exact h3))))
    refine Zo ?_
    refine Zr ?_
    repeat (refine wkM ?_; intros)
    exact ZL _ (hf.trans hnn.symm) sbB suB
   ·rw [We (show ¬ i + 1 < l.length by omega), Bool.false_and] at hCC
    have hnn : (!thrC (spL l) (s.MaxGap : Rat) i) = true := by rw [hCC]; rfl
    refine jD 24 24 (h := ?_)
    (repeat (refine wkH ?_))
    simp only [Wc (show (i : Int) + 1 = (n : Int) by omega)]
    (repeat (refine wkH ?_))
    refine Zo ?_
    refine Zr ?_
    repeat (refine wkM ?_; intros)
    exact ZL true hnn.symm sbB suB
  ·subst hq2
   generalize smT (gi l (i : Int)) = x at *
   cases hc : thrC (spL l) (s.MaxGap : Rat) i
   ·rw [hc, if_neg (by decide)] at hnx
    simp only [Bool.not_false]
    rcases r2.cases 143 with ⟨x0, x1, x2⟩ | ⟨bo, co, sp, hc1, x1, x2, xne⟩
    ·exact absurd (congrArg List.length x0) (by rw [hlen]; exact Nat.succ_ne_zero _)
    simp only [x1, x2, Wf, Wg]
    repeat (first | (refine wkM ?_; intros) | (refine wnM ?_ ?_; (focus (exact ⟨⟨rfl, by omega, by omega⟩, p1, p2⟩)); intros))
    rename_i fs
    refine sV rfl rfl ?_ ?_ ?_
    ·rfl
    ·exact ⟨by omega, by omega⟩
    intro o'
    repeat (refine wkO ?_; intros)
    exact Zj ⟨i + 1, (out ++ frS (run ++ [x]), []), o', SlS.no⟩ ⟨hlt, hnx.symm⟩ sbB suB (by show n - (i + 1) < n - i; omega)
   ·rw [hc, if_pos rfl] at hnx
    simp only [Bool.not_true]
    repeat (refine wkO ?_; intros)
    exact Zj ⟨i + 1, (out, run ++ [x]), o, r2⟩ ⟨hlt, hnx.symm⟩ sbB suB (by show n - (i + 1) < n - i; omega)
 ·have hge : i = n := by have := Wb h; omega
  subst hge
  have hth' : thrN (spL l) (s.MaxGap : Rat) i = (out, run) := hth.symm
  rw [hth'] at hfine hsame
  rw [← hth]
  simp only at hfine hsame
  have hk : out.length ≤ 19 ∧ ∀ u ∈ mpN toU out out.length, UIn u := ⟨hfine.l, fun u hu => by
   rw [Zhh toU] at hu
   obtain ⟨x, hx, rfl⟩ := List.mem_map.1 hu
   exact hfine.k x hx⟩
  repeat (first | (refine wkM ?_; intros) | (refine wnM ?_ ?_; (focus (exact hk)); intros))
  rename_i s5
  obtain ⟨s6, e1, e2⟩ := SlS.turn 115 hsame.1 s5
  refine Zf rfl rfl (fun w hw => ⟨s6, ?_, ?_⟩)
  ·show Ending.returned (vSl s5) = Ending.returned (vSl s6)
   rw [e1]
  ·show Own _ (mS 115 s6) w
   rw [e2]
   exact hw.sub suB
instance ZvA (w0 : World) (L : List Blk) (v : Value) (l : List Zc) (s : ZC) [h : LstC w0 L v Zc Zh l] : SpecR prog w0 L 28 [v, .agg (Zm s)] (SlS rP 36 (thrT l s.MaxGap l.length).1) (fun o => vSl o) (fun o => mS 115 o) (l.length ≤ 19 ∧ (∀ x ∈ l, TkOk x) ∧ Inc (spL l) ∧ (-2147483648 ≤ s.MaxGap ∧ s.MaxGap ≤ 2147483648)) := ⟨fun hp w hw =>
 Zo5 v l s w (h.out w hw) hp.1 hp.2.1 hp.2.2.1 hp.2.2.2⟩
end
section
theorem Zr3 (y x : Zc) : leTm y x ↔ (0 < cq x.T y.T ∨ (cq x.T y.T = 0 ∧ y.Report.Seq ≤ x.Report.Seq)) := by
 unfold leTm
 rw [ZiQ, ZfS]
 constructor
 ·rintro (h | ⟨h1, h2⟩)
  ·exact .inl h
  ·exact .inr ⟨h1.symm, h2⟩
 ·rintro (h | ⟨h1, h2⟩)
  ·exact .inl h
  ·exact .inr ⟨h1.symm, h2⟩
theorem Zuy (w : World) : (Instr.buildSlice 48 0 [].toArray).run prog w = .ok (.slice (some ⟨w.heap.size, 0, none⟩) 0 0) (w.alloc (.cells (row (Zh) [] []) 56)) := by kernel_rfl
instance (priority := high) ZGT : BsC prog 48 0 [] (row (Zh) [] []) 56 := ⟨Zuy⟩
set_option maxHeartbeats 8000000 in
theorem Zom (v : Value) (l : List Zc) (x : Zc) (w : World) (hv : ArgS w v Zh l) (hl : l.length ≤ 1048576) (hok : ∀ z ∈ l, TkOk z) (hx : TkOk x) :
  Calls prog 56 [v, vTm x].toArray w (RetM (SlS Zh 12 (putL l x)) (fun s => vSl s) (fun s => mS 56 s) w) := by
 obtain ⟨p, cp, rfl⟩ := hv.form
 have hcp : l.length ≤ cp := by
  rcases hv.out with ⟨h1, h2⟩ | ⟨a, c, h1, h2, -⟩
  ·rw [h2]; exact Wm _
  ·injection h1 with _ _ e; omega
 refine Zg Tryz.func56 rfl Tryz.ntmps56 rfl ?_
 repeat (refine wkM ?_; intros)
 rename_i b3
 refine Zu1 (S := Nat) (fun k => k ≤ l.length ∧ k = posT l x l.length) (fun k => [(0, .slice p l.length cp), (3, .pointer (some ⟨b3, 0, none⟩)), (5, .int .i64 (k : Nat))]) (fun _ => [⟨b3, Zh x, 56⟩]) ?_ (fun k hk => ?_)
 ·refine Zq (S := Nat) (fun k => k ≤ l.length ∧ posT l x k = posT l x l.length) (fun k => [(0, .slice p l.length cp), (3, .pointer (some ⟨b3, 0, none⟩)), (5, .int .i64 (k : Nat))]) (fun _ => [⟨b3, Zh x, 56⟩]) (fun k => k) l.length ⟨Wl _, rfl⟩ sbB slB (fun k hk => ?_)
  obtain ⟨hk, hpos⟩ := hk
  rcases k with _ | j
  ·repeat (refine wkM ?_; intros)
   simp only [We (show ¬ (0 : Int) < ((0 : Nat) : Int) by omega)]
   repeat (refine wkM ?_; intros)
   exact ZL 0 ⟨Wm _, hpos⟩ sbB slB
  ·have hlt : j < l.length := hk
   have hne : l ≠ [] := fun h0 => by rw [h0] at hlt; simp at hlt
   obtain ⟨bw, ow, cw, hvw, hcw, hrow⟩ := hv.blk (k := 11) hne []
   injection hvw with x1 x2 x3
   subst x1 x3
   have hrow' : ∀ L, RowC w L bw ow Zc Zh l := fun L => ⟨fun w' hw' => hrow.out w' (hw'.sub (Wk _))⟩
   have hj := hok (gi l (j : Int)) (Z0 (by omega))
   have hM : M x.T ≤ LQ ∧ M (gi l (j : Int)).T ≤ LQ := ⟨Wi hx.t (by decide), Wi hj.t (by decide)⟩
   have e1 : ((j + 1 : Nat) : Int) - 1 = (j : Int) := by omega
   have hle := Zr3 (gi l (j : Int)) x
   rw [posT] at hpos
   repeat (refine wkM ?_; intros)
   simp only [Wc (show (0 : Int) < ((j + 1 : Nat) : Int) by omega)]
   repeat (refine wkM ?_; intros)
   (refine Zao (.v [0, 1, 2, 3, 4, 5, 6, 7, 8] (.e1 9 (.fin))) ([⟨b3, Zh x, 56⟩]) (h := ?_); refine wkX ?_)
   (repeat (refine wkH ?_))
   simp only [e1]
   (repeat (first | refine wkH ?_ | (refine tC rfl rfl ?_ ?_; focus (exact hM))))
   repeat (refine wkT ?_; intros)
   repeat (refine wkM ?_; intros)
   refine jD 19 19 (h := ?_)
   (repeat (refine wkH ?_))
   by_cases c1 : 0 < cq x.T (gi l (j : Int)).T
   ·rw [if_pos (hle.2 (.inl c1))] at hpos
    simp only [Wc c1]
    (repeat (refine wkH ?_))
    refine Zo ?_
    refine Zr ?_
    repeat (refine wkM ?_; intros)
    exact ZL (j + 1) ⟨hk, hpos⟩ sbB slB
   ·simp only [We c1]
    (repeat (refine wkH ?_))
    by_cases c2 : cq x.T (gi l (j : Int)).T = 0
    ·simp only [Wc c2]
     (repeat (refine wkH ?_))
     try simp only [e1]
     (repeat (refine wkH ?_))
     simp only [show ow + ((j : Nat) : Int).toNat * 12 + 4 + 1 = ow + ((j : Nat) : Int).toNat * 12 + 5 from rfl]
     (repeat (refine wkH ?_))
     by_cases c3 : (gi l (j : Int)).Report.Seq ≤ x.Report.Seq
     ·rw [if_pos (hle.2 (.inr ⟨c2, c3⟩))] at hpos
      simp only [Wc c3]
      (repeat (refine wkH ?_))
      refine Zo ?_
      refine Zr ?_
      repeat (refine wkM ?_; intros)
      exact ZL (j + 1) ⟨hk, hpos⟩ sbB slB
     ·rw [if_neg (fun h => (hle.1 h).elim c1 (fun h => c3 h.2))] at hpos
      simp only [We c3]
      (repeat (refine wkH ?_))
      refine Zo ?_
      refine Zr ?_
      repeat (refine wkO ?_; intros)
      try simp only [e1]
      exact Zj j ⟨Nat.le_of_lt hlt, hpos⟩ sbB slB (Nat.lt_succ_self _)
    ·rw [if_neg (fun h => (hle.1 h).elim c1 (fun h => c2 h.1))] at hpos
     simp only [We c2]
     (repeat (refine wkH ?_))
     refine Zo ?_
     refine Zr ?_
     repeat (refine wkO ?_; intros)
     try simp only [e1]
     exact Zj j ⟨Nat.le_of_lt hlt, hpos⟩ sbB slB (Nat.lt_succ_self _)
 ·obtain ⟨hk, hpos⟩ := hk
  have hT := fun L => (hv.take k hk).lst L
  have hD := fun L => (hv.drop k hk).lst L
  have hend : ∀ s3 : FlS Zh 12 (([] ++ l.take k) ++ [x] ++ l.drop k), ∃ s4 : SlS Zh 12 (putL l x), vSl s4 = vF s3 ∧ mS 56 s4 = mF 56 s3 := fun s3 => by
   obtain ⟨s4, f1, f2⟩ := s3.sl (by simp)
   obtain ⟨s5, f3, f4⟩ := s4.like (show putL l x = ([] ++ l.take k) ++ [x] ++ l.drop k by unfold putL; rw [← hpos]; simp)
   exact ⟨s5, f3.trans f1, (f4 _).trans (f2 _)⟩
  refine Zf9 (S := SlS Zh 12 (putL l x)) (fun _ => True) (fun s => [(4, vSl s)]) (fun s => mS 56 s) ?_ (fun s _ => ?_)
  ·(refine Zao (.v [1, 2, 3, 5, 8, 9, 10] (.e2 0 (.e2 4 (.e1 6 (.e1 7 (.e1 11 (.e1 12 (.fin))))) 6 (.e1 4 (.e1 7 (.e1 11 (.e1 12 (.fin)))))) 6 (.e1 0 (.e1 4 (.e1 7 (.e1 11 (.e1 12 (.fin)))))))) ([⟨b3, Zh x, 56⟩]) (h := ?_); refine wkX ?_)
   (repeat (first | refine wkH ?_ | (refine tC rfl rfl ?_ ?_; focus (exact ⟨by omega, by omega⟩))))
   refine And.intro ?_ ?_
   ·repeat (refine wkT ?_; intros)
    rename_i b0
    refine And.intro ?_ ?_
    ·refine eVF (k := 11) (enc := Zh) (s := FlS.em b0) (hx := ⟨rfl⟩) rfl rfl ?_ ?_ ?_
     ·rfl
     ·exact ⟨by simp only [Wt, Wx]; omega, by simp only [Wt, Wx]; omega⟩
     intro s1
     repeat (refine wkT ?_; intros)
     refine eVF rfl rfl ?_ ?_ ?_
     ·rfl
     ·exact ⟨by simp only [Wp, Wt, Wx, Wu]; omega, by simp only [Wp, Wt, Wx, Wu]; omega⟩
     intro s2
     refine eVF rfl rfl ?_ ?_ ?_
     ·rfl
     ·exact ⟨by simp only [Wp, Wt, List.length_drop, Wx, Wu]; omega, by simp only [Wp, Wt, List.length_drop, Wx, Wu]; omega⟩
     intro s3
     repeat (refine wkT ?_; intros)
     obtain ⟨s4, f1, f2⟩ := hend s3
     exact ZL s4 trivial (by simp only [f1]; exact sbB) (by rw [f2]; exact suB)
    ·repeat (refine wkT ?_; intros)
     refine eVF (k := 11) (enc := Zh) (s := FlS.em b0) (hx := ⟨rfl⟩) rfl rfl ?_ ?_ ?_
     ·rfl
     ·exact ⟨by simp only [Wt, Wx]; omega, by simp only [Wt, Wx]; omega⟩
     intro s1
     refine eVF rfl rfl ?_ ?_ ?_
     ·rfl
     ·exact ⟨by simp only [Wp, Wt, Wx, Wu]; omega, by simp only [Wp, Wt, Wx, Wu]; omega⟩
     intro s2
     refine eVF rfl rfl ?_ ?_ ?_
     ·rfl
     ·exact ⟨by simp only [Wp, Wt, List.length_drop, Wx, Wu]; omega, by simp only [Wp, Wt, List.length_drop, Wx, Wu]; omega⟩
     intro s3
     repeat (refine wkT ?_; intros)
     obtain ⟨s4, f1, f2⟩ := hend s3
     exact ZL s4 trivial (by simp only [f1]; exact sbB) (by rw [f2]; exact suB)
   ·repeat (refine wkT ?_; intros)
    rename_i b0
    refine eVF (k := 11) (enc := Zh) (s := FlS.em b0) (hx := ⟨rfl⟩) rfl rfl ?_ ?_ ?_
    ·rfl
    ·exact ⟨by simp only [Wt, Wx]; omega, by simp only [Wt, Wx]; omega⟩
    intro s1
    refine eVF rfl rfl ?_ ?_ ?_
    ·rfl
    ·exact ⟨by simp only [Wp, Wt, Wx, Wu]; omega, by simp only [Wp, Wt, Wx, Wu]; omega⟩
    intro s2
    refine eVF rfl rfl ?_ ?_ ?_
    ·rfl
    ·exact ⟨by simp only [Wp, Wt, List.length_drop, Wx, Wu]; omega, by simp only [Wp, Wt, List.length_drop, Wx, Wu]; omega⟩
    intro s3
    repeat (refine wkT ?_; intros)
    obtain ⟨s4, f1, f2⟩ := hend s3
    exact ZL s4 trivial (by simp only [f1]; exact sbB) (by rw [f2]; exact suB)
  ·repeat (refine wkM ?_; intros)
   exact Zf rfl rfl (fun w hw => ⟨s, rfl, hw⟩)
end
end Go.Vt
