/- that objects are reconstructed from their reports (part 18 of 29.) Conditions: those that each statement names. -/
import Derived.Test.YtjicdlilgjdefaaGreatDoorKJ8
import Derived.Test.YtjicdlilgjdefaaGreatDoorKJ9
import Derived.Test.YtjicdlilgjdefaaGreatDoorKJ10
import Derived.Test.YtjicdlilgjdefaaGreatDoorKJ11
import Derived.Test.YtjicdlilgjdefaaGreatDoorKJ15
import Derived.Test.YtjicdlilgjdefaaGreatDoorKJ16
import Derived.Test.YtjicdlilgjdefaaGreatDoorKJ17
set_option linter.unusedSimpArgs false
set_option linter.unusedVariables false
set_option maxHeartbeats 2000000
set_option maxRecDepth 100000
set_option linter.unusedSectionVars false
namespace Go.Vt
open Go.RowKit Go.Proofs
open Go.Proofs.Tryz (prog)
section
section
variable {P : Program} {w0 : World} {n : Nat} {L : List Blk} {E : Env} {x y : Operand} {T : TypeId} {a b : Int}
instance ZHp [hx : IsC (evl E x) (.int .i64 a)] [hy : IsC (evl E y) (.int .i64 b)] : YlC P w0 n L E (.call ⟨.builtin .max, #[x, y], #[T, T]⟩) (.int .i64 (if b > a then b else a)) := ⟨fun d ty pos aft gd => ⟨fun c w hc _ => by
 have h1 : ∀ cs : Array Bool, (builtin .max #[T, T] ty cs #[.int .i64 a, .int .i64 b]).run P w = .ok (.value (.int .i64 (if b > a then b else a))) w := fun cs => by
  show Sem.run P (do pure (Next.value (← Builtin.max_ #[T, T] ty #[.int .i64 a, .int .i64 b])) : Sem Next) w = _
  rw [Sem.run_bind, run_max_int2]
  rfl
 have e1 := hc.ev (isE (h := hx))
 have e2 := hc.ev (isE (h := hy))
 have e : (execOp c.eval ⟨d, .call ⟨.builtin .max, #[x, y], #[T, T]⟩, ty, pos, aft, gd⟩).run P w = .ok (.value (.int .i64 (if b > a then b else a))) w := by
  simp only [execOp, resolve, Sem.run_bind, Sem.run_pure, Result.andThen, invoke, List.map_toArray, List.map_cons, List.map_nil, e1, e2]
  exact h1 _
 unfold calm
 rw [e]
 exact ⟨rfl, Ext.refl _⟩⟩⟩
end
def cCp (v : Int) (l : List Zc) (i k : Nat) : Bool := cpt v (gi l (i : Int)) (gi l (k : Int))
theorem Zlh (C : Nat → Nat → Bool) (i : Nat) : ∀ (r : List Nat) (k a m : Nat), (∀ b ∈ r, b ≤ m) → a ≤ m + 1 → innB C i k r a ≤ m + 1
 | [], _, _, _, _, h => h
 | b :: r, k, a, m, hr, h => by
  simp only [innB]
  have hb := hr b (.head _)
  refine Zlh C i r _ _ m (fun c hc => hr c (.tail _ hc)) ?_
  split <;> omega
theorem ZcQ (C : Nat → Nat → Bool) (n : Nat) : ∀ m, ∀ b ∈ bestL C n m, b ≤ m
 | 0, b, h => by cases h
 | m + 1, b, h => by
  rcases List.mem_cons.1 h with rfl | h
  ·exact Zlh C _ _ _ _ _ (ZcQ C n m) (by omega)
  ·have := ZcQ C n m b h
   omega
theorem ZdO {m : Nat} : ∀ {l : List Nat}, (∀ b ∈ l, b ≤ m) → mostL l ≤ m
 | [], _ => Wm _
 | b :: l, h => by
  have h1 := h b (.head _)
  have h2 := ZdO (l := l) fun c hc => h c (.tail _ hc)
  simp only [mostL]
  omega
def cI (r : List Nat) : List Int := r.map fun x : Nat => (x : Int)
def tabL (i : Nat) (r : List Nat) : List Int := List.replicate i 0 ++ cI r
theorem Zfd (r : List Nat) : (cI r).length = r.length := Ws _
theorem ZbW (i : Nat) (r : List Nat) : (tabL i r).length = i + r.length := by simp [tabL, Zfd]
theorem Zi7 (i : Nat) (r : List Nat) (x : Nat) : (tabL (i + 1) r).set i (x : Int) = tabL i (x :: r) := by
 unfold tabL
 rw [List.replicate_succ', List.append_assoc, List.set_append_right _ _ (by simp)]
 simp [cI]
theorem Zl3 (i : Nat) (r : List Nat) (a x : Nat) : (tabL i (a :: r)).set i (x : Int) = tabL i (x :: r) := by
 unfold tabL
 rw [List.set_append_right _ _ (by simp)]
 simp [cI]
theorem ZoT (i : Nat) (r : List Nat) (a : Nat) : gi (tabL i (a :: r)) (i : Int) = (a : Int) := by
 rw [Zk (by rw [ZbW]; simp)]
 simp [tabL, cI]
theorem Zlt (i : Nat) (r : List Nat) (a j : Nat) (h : j < r.length) : gi (tabL i (a :: r)) ((i + 1 + j : Nat) : Int) = ((r.getD j 0 : Nat) : Int) := by
 rw [Zk (by rw [ZbW]; simp; omega)]
 unfold tabL
 rw [List.getElem_append_right (by simp; omega)]
 simp only [cI, List.length_replicate, List.map_cons, show i + 1 + j - i = j + 1 by omega, List.getElem_cons_succ, List.getElem_map, List.getD_eq_getElem?_getD, List.getElem?_eq_getElem h, Option.getD_some]
set_option maxHeartbeats 8000000 in
theorem Zmi (v : Value) (l : List Zc) (s : ZC) (w : World) (hv : ArgS w v Zh l) (hl : l.length ≤ 4096) (hok : ∀ x ∈ l, TkOk x) (hs : -1048576 ≤ s.MaxSpeed ∧ s.MaxSpeed ≤ 1048576) :
  Calls prog 41 [v, .agg (Zm s)].toArray w (RetM (SlS (eI .i64) 1 (cI (chainL (cCp s.MaxSpeed l) l.length))) (fun o => vSl o) (fun o => mS 3 o) w) := by
 obtain ⟨p, cp, rfl⟩ := hv.form
 have hC : ∀ i k, cCp s.MaxSpeed l i k = cpt s.MaxSpeed (gi l (i : Int)) (gi l (k : Int)) := fun _ _ => rfl
 generalize hCe : cCp s.MaxSpeed l = C at *
 generalize hn : l.length = n at *
 have hgo : ∀ i : Nat, i < n → TkOk (gi l (i : Int)) := fun i hi => hok _ (Z0 (by omega))
 refine Zg Tryz.func41 rfl Tryz.ntmps41 rfl ?_
 repeat (refine wkM ?_; intros)
 refine sM rfl rfl ⟨by omega, by omega⟩ (fun b5 => ?_)
 repeat (refine wkM ?_; intros)
 rename_i b3
 refine Zq (S := Nat) (fun m => m ≤ n) (fun m => [(0, .slice p n cp), (3, .pointer (some ⟨b3, 0, none⟩)), (5, .slice (some ⟨b5, 0, none⟩) n n), (6, .int .i64 (mostL (bestL C n m))), (7, .int .i64 ((n : Int) - 1 - m))]) (fun m => [⟨b5, row (eI .i64) (tabL (n - m) (bestL C n m)) [], 3⟩, ⟨b3, Zm s, 32⟩]) (fun m => n - m) 0 (Wm _) ?_ ?_ (fun m hm => ?_)
 ·exact sbB
 ·have e : tabL (n - 0) (bestL C n 0) = List.replicate n 0 := by simp [tabL, cI, bestL]
  simp only [e]
  exact slB
 repeat (refine wkM ?_; intros)
 refine Zn rfl (fun h => ?_) (fun h => ?_)
 ·have hlt : m < n := by have := Wa h; omega
  obtain ⟨i, hi⟩ : ∃ i, n = m + i + 1 := ⟨n - m - 1, by omega⟩
  have e7 : (n : Int) - 1 - (m : Int) = (i : Int) := by omega
  have e8 : n - m = i + 1 := by omega
  have hbl := ZcQ C n m
  have hbn := Zce C n m
  have hnx : bestL C n (m + 1) = innB C i (i + 1) (bestL C n m) 1 :: bestL C n m := by
   rw [bestL, show n - (m + 1) = i by omega, show n - m = i + 1 by omega]
  have hmo := ZdO hbl
  generalize bestL C n m = r at *
  rw [e8]
  simp only [e7]
  have ht1 := ZbW (i + 1) r
  have hset : (tabL (i + 1) r).set ((i : Int)).toNat (1 : Int) = tabL i (1 :: r) := by
   rw [Int.toNat_natCast]
   exact Zi7 i r 1
  repeat (refine wkM ?_; intros)
  simp only [hset]
  refine Zq (S := Nat × Nat) (fun q => q.1 ≤ m ∧ innB C i (i + 1) r 1 = innB C i (i + 1 + q.1) (r.drop q.1) q.2 ∧ q.2 ≤ m + 1) (fun q => [(0, .slice p n cp), (3, .pointer (some ⟨b3, 0, none⟩)), (5, .slice (some ⟨b5, 0, none⟩) n n), (6, .int .i64 (mostL r)), (7, .int .i64 (i : Nat)), (8, .int .i64 ((i + 1 + q.1 : Nat)))]) (fun q => [⟨b5, row (eI .i64) (tabL i (q.2 :: r)) [], 3⟩, ⟨b3, Zm s, 32⟩]) (fun q => m - q.1) (0, 1) ⟨Wm _, rfl, by show 1 ≤ m + 1; omega⟩ sbB slB (fun q hq => ?_)
  obtain ⟨j, a⟩ := q
  obtain ⟨hj, hin, ha⟩ := hq
  simp only at hj hin ha ⊢
  have ht2 := ZbW i (a :: r)
  rw [Wu] at ht2
  have hai := ZoT i r a
  repeat (refine wkM ?_; intros)
  refine Zn rfl (fun h => ?_) (fun h => ?_)
  ·have hjm : j < m := by have := Wa h; omega
   have hget := Zlt i r a j (by omega)
   have hb := hbl (r.getD j 0) (by rw [List.getD_eq_getElem?_getD, List.getElem?_eq_getElem (by omega)]; exact List.getElem_mem _)
   have hdr : r.drop j = r.getD j 0 :: r.drop (j + 1) := by
    rw [List.drop_eq_getElem_cons (by omega), List.getD_eq_getElem?_getD, List.getElem?_eq_getElem (by omega)]
    rfl
   rw [hdr] at hin
   simp only [innB] at hin
   have hne : l ≠ [] := fun h0 => by rw [h0] at hn; simp at hn; omega
   obtain ⟨bw, ow, cw, hvw, hcw, hrow⟩ := hv.blk (k := 11) hne []
   injection hvw with e1 e2 e3
   subst e1
   subst e3
   have hrow' : ∀ L, RowC w L bw ow Zc Zh l := fun L => ⟨fun w' hw' => hrow.out w' (hw'.sub (Wk _))⟩
   have k1 := hgo i (by omega)
   have k2 := hgo (i + 1 + j) (by omega)
   have hCk := hC i (i + 1 + j)
   generalize r.getD j 0 = bb at *
   repeat (refine wkM ?_; intros)
   by_cases hge : a ≤ bb
   ·refine jD 21 21 (h := ?_)
    (repeat (refine wkH ?_))
    simp only [hget, hai, Wc (show (a : Int) ≤ (bb : Int) by omega)]
    (repeat (first | refine wkH ?_ | (refine tC rfl rfl ?_ ?_; focus (exact ⟨k1, k2, hs⟩))))
    refine Zo ?_
    refine Zr ?_
    simp only [← hCk]
    cases hc : C i (i + 1 + j)
    ·rw [hc, if_neg (by decide)] at hin
     repeat (refine wkO ?_; intros)
     exact Zj (j + 1, a) ⟨hjm, by rw [hin]; rfl, ha⟩ sbB slB (by show m - (j + 1) < m - j; omega)
    ·rw [hc, if_pos rfl, Nat.max_eq_right (by omega)] at hin
     have hs2 : (tabL i (a :: r)).set ((i : Int)).toNat ((bb : Int) + 1) = tabL i ((bb + 1) :: r) := by
      rw [Int.toNat_natCast]
      exact Zl3 i r a (bb + 1)
     repeat (refine wkM ?_; intros)
     simp only [hget]
     repeat (refine wkM ?_; intros)
     simp only [hs2]
     repeat (refine wkO ?_; intros)
     exact Zj (j + 1, bb + 1) ⟨hjm, by rw [hin]; rfl, by show bb + 1 ≤ m + 1; omega⟩ sbB slB (by show m - (j + 1) < m - j; omega)
   ·refine jD 21 21 (h := ?_)
    (repeat (refine wkH ?_))
    simp only [hget, hai, We (show ¬ (a : Int) ≤ (bb : Int) by omega)]
    (repeat (refine wkH ?_))
    refine Zo ?_
    refine Zr ?_
    have hin' : innB C i (i + 1) r 1 = innB C i (i + 1 + j + 1) (r.drop (j + 1)) a := by
     rw [hin]
     split
     ·rw [Nat.max_eq_left (by omega)]
     ·rfl
    repeat (refine wkO ?_; intros)
    exact Zj (j + 1, a) ⟨hjm, by rw [hin']; rfl, ha⟩ sbB slB (by show m - (j + 1) < m - j; omega)
  ·have hge : j = m := by have := Wb h; omega
   subst hge
   rw [← hbn, List.drop_length, hbn] at hin
   simp only [innB] at hin
   rw [hin] at hnx
   have hmx : (if (a : Int) > (mostL r : Int) then (a : Int) else (mostL r : Int)) = ((mostL (bestL C n (j + 1)) : Nat) : Int) := by
    rw [hnx, mostL]
    split <;> omega
   have e9 : n - (j + 1) = i := by omega
   repeat (refine wkM ?_; intros)
   simp only [hai, hmx]
   exact Zj (j + 1) hlt sbB (by simp only [e9, hnx]; exact Wj _) (by omega)
 ·have hge : m = n := by have := Wb h; omega
  subst hge
  have hbn := Zce C m m
  have hat : ∀ i : Nat, i < m → gi (tabL 0 (bestL C m m)) (i : Int) = ((bestA C m i : Nat) : Int) := fun i hi => by
   rw [Zk (by rw [ZbW]; omega)]
   simp only [tabL, List.replicate_zero, Wg, cI, List.getElem_map, bestA, List.getD_eq_getElem?_getD, List.getElem?_eq_getElem (show i < (bestL C m m).length by omega), Option.getD_some]
  have hmo := ZdO (ZcQ C m m)
  have htl := ZbW 0 (bestL C m m)
  rw [Nat.sub_self]
  repeat (refine wkM ?_; intros)
  have hO := fun i (hi : i ≤ m) => Zey C m i hi
  have hmA : mostL (bestL C m m) = mostA C m := rfl
  have hB : ∀ i, bestA C m i ≤ m := fun i => by
   have : bestA C m i ≤ mostA C m := Zgu _ _
   omega
  generalize tabL 0 (bestL C m m) = tb at *
  refine Zq (S := (i : Nat) × SlS (eI .i64) 1 (cI (outN C m i).1)) (fun q => q.1 ≤ m) (fun q => [(0, .slice p m cp), (3, .pointer (some ⟨b3, 0, none⟩)), (5, .slice (some ⟨b5, 0, none⟩) m m), (6, .int .i64 ((outN C m q.1).2 : Nat)), (9, vSl q.2), (68, .int .i64 m), (69, .int .i64 (q.1 : Nat))]) (fun q => mS 3 q.2 ++ [⟨b5, row (eI .i64) tb [], 3⟩, ⟨b3, Zm s, 32⟩]) (fun q => m - q.1) ⟨0, SlS.no⟩ (Wm _) sbB suB (fun q hq => ?_)
  obtain ⟨i, o⟩ := q
  simp only at hq ⊢
  have hOi := hO i hq
  have hnx : outN C m (i + 1) = outS C m (outN C m i) i := rfl
  unfold outS at hnx
  have hlen := hOi.len
  repeat (refine wkM ?_; intros)
  refine Zn rfl (fun h => ?_) (fun h => ?_)
  ·have hlt : i < m := by have := Wa h; omega
   have hai := hat i hlt
   have hol := Zfd (outN C m i).1
   repeat (refine wkM ?_; intros)
   refine ZaO (S := Bool) (fun q => q = decide (bestA C m i = (outN C m i).2 ∧ 0 < (outN C m i).2 ∧ ((outN C m i).1 = [] ∨ C ((outN C m i).1.getLastD 0) i = true))) (fun q => [(0, .slice p m cp), (3, .pointer (some ⟨b3, 0, none⟩)), (5, .slice (some ⟨b5, 0, none⟩) m m), (6, .int .i64 ((outN C m i).2 : Nat)), (9, vSl o), (10, .int .i64 (i : Nat)), (68, .int .i64 m), (69, .int .i64 (i : Nat)), (103, .bool q)]) (fun _ => mS 3 o ++ [⟨b5, row (eI .i64) tb [], 3⟩, ⟨b3, Zm s, 32⟩]) ?_ (fun q hq => ?_)
   ·have hne : l ≠ [] := fun h0 => by rw [h0] at hn; simp at hn; omega
    obtain ⟨bw, ow, cw, hvw, hcw, hrow⟩ := hv.blk (k := 11) hne []
    injection hvw with e1 e2 e3
    subst e1
    subst e3
    have hrow' : ∀ L, RowC w L bw ow Zc Zh l := fun L => ⟨fun w' hw' => hrow.out w' (hw'.sub (Wk _))⟩
    have k2 := hgo i hlt
    rcases o.cases 3 with ⟨x0, x1, x2⟩ | ⟨bo, co, sp, hc1, x1, x2, xne⟩
    ·have hout : (outN C m i).1 = [] := by
      have := congrArg List.length x0
      rw [hol] at this
      exact List.length_eq_zero_iff.1 this
     simp only [x1, x2, Wf, Wg]
     by_cases c1 : bestA C m i = (outN C m i).2
     ·by_cases c2 : 0 < (outN C m i).2
      ·have hd : decide (bestA C m i = (outN C m i).2 ∧ 0 < (outN C m i).2 ∧ ((outN C m i).1 = [] ∨ C ((outN C m i).1.getLastD 0) i = true)) = true := Wc ⟨c1, c2, .inl hout⟩
       refine jD 32 32 (h := ?_)
       (repeat (refine wkH ?_))
       simp only [hai, Wc (show ((bestA C m i : Nat) : Int) = ((outN C m i).2 : Int) by omega)]
       (repeat (refine wkH ?_))
       simp only [Wc (show (0 : Int) < ((outN C m i).2 : Int) by omega)]
       (repeat (refine wkH ?_))
       refine Zo ?_
       refine Zr ?_
       repeat (refine wkM ?_; intros)
       exact ZL true hd.symm sbB suB
      ·have hd : decide (bestA C m i = (outN C m i).2 ∧ 0 < (outN C m i).2 ∧ ((outN C m i).1 = [] ∨ C ((outN C m i).1.getLastD 0) i = true)) = false := We fun h => c2 h.2.1
       refine jD 32 32 (h := ?_)
       (repeat (refine wkH ?_))
       simp only [hai, Wc (show ((bestA C m i : Nat) : Int) = ((outN C m i).2 : Int) by omega)]
       (repeat (refine wkH ?_))
       simp only [We (show ¬ (0 : Int) < ((outN C m i).2 : Int) by omega)]
       (repeat (refine wkH ?_))
       refine Zo ?_
       refine Zr ?_
       repeat (refine wkM ?_; intros)
       exact ZL false hd.symm sbB suB
     ·have hd : decide (bestA C m i = (outN C m i).2 ∧ 0 < (outN C m i).2 ∧ ((outN C m i).1 = [] ∨ C ((outN C m i).1.getLastD 0) i = true)) = false := We fun h => c1 h.1
      refine jD 32 32 (h := ?_)
      (repeat (refine wkH ?_))
      simp only [hai, We (show ¬ ((bestA C m i : Nat) : Int) = ((outN C m i).2 : Int) by omega)]
      (repeat (refine wkH ?_))
      refine Zo ?_
      refine Zr ?_
      repeat (refine wkM ?_; intros)
      exact ZL false hd.symm sbB suB
    ·have hone : (outN C m i).1 ≠ [] := fun h0 => by rw [h0] at xne; exact xne rfl
     have hpos : 0 < (outN C m i).1.length := List.length_pos_iff.2 hone
     have hlm : (outN C m i).1.getLastD 0 < m := by
      have h1 : (outN C m i).1.getLastD 0 ∈ (outN C m i).1 := by
       rw [ZbV hone, List.getD_eq_getElem?_getD, List.getElem?_eq_getElem (by omega)]
       exact List.getElem_mem _
      have := hOi.lt _ h1
      omega
     have hla : gi (cI (outN C m i).1) (((cI (outN C m i).1).length : Int) - 1) = (((outN C m i).1.getLastD 0 : Nat) : Int) := by
      rw [hol, show (((outN C m i).1.length : Int) - 1) = (((outN C m i).1.length - 1 : Nat) : Int) by omega, Zk (by rw [hol]; omega), ZbV hone]
      simp only [cI, List.getElem_map, List.getD_eq_getElem?_getD, List.getElem?_eq_getElem (show (outN C m i).1.length - 1 < (outN C m i).1.length by omega), Option.getD_some]
     have k1 := hgo _ hlm
     have hCk := hC ((outN C m i).1.getLastD 0) i
     simp only [x1, x2, Wf, Wg]
     by_cases c1 : bestA C m i = (outN C m i).2
     ·by_cases c2 : 0 < (outN C m i).2
      ·have hd : decide (bestA C m i = (outN C m i).2 ∧ 0 < (outN C m i).2 ∧ ((outN C m i).1 = [] ∨ C ((outN C m i).1.getLastD 0) i = true)) = C ((outN C m i).1.getLastD 0) i := by
        simp only [c1, c2, hone, true_and, false_or, Bool.decide_eq_true]
       refine jD 32 32 (h := ?_)
       (repeat (refine wkH ?_))
       simp only [hai, Wc (show ((bestA C m i : Nat) : Int) = ((outN C m i).2 : Int) by omega)]
       (repeat (refine wkH ?_))
       simp only [Wc (show (0 : Int) < ((outN C m i).2 : Int) by omega)]
       (repeat (refine wkH ?_))
       simp only [We (show ¬ ((cI (outN C m i).1).length : Int) = 0 by omega)]
       (repeat (refine wkH ?_))
       simp only [hla]
       (repeat (first | refine wkH ?_ | (refine tC rfl rfl ?_ ?_; focus (exact ⟨k1, k2, hs⟩))))
       refine Zo ?_
       refine Zr ?_
       simp only [← hCk]
       repeat (refine wkM ?_; intros)
       exact ZL (C ((outN C m i).1.getLastD 0) i) hd.symm sbB suB
      ·have hd : decide (bestA C m i = (outN C m i).2 ∧ 0 < (outN C m i).2 ∧ ((outN C m i).1 = [] ∨ C ((outN C m i).1.getLastD 0) i = true)) = false := We fun h => c2 h.2.1
       refine jD 32 32 (h := ?_)
       (repeat (refine wkH ?_))
       simp only [hai, Wc (show ((bestA C m i : Nat) : Int) = ((outN C m i).2 : Int) by omega)]
       (repeat (refine wkH ?_))
       simp only [We (show ¬ (0 : Int) < ((outN C m i).2 : Int) by omega)]
       (repeat (refine wkH ?_))
       refine Zo ?_
       refine Zr ?_
       repeat (refine wkM ?_; intros)
       exact ZL false hd.symm sbB suB
     ·have hd : decide (bestA C m i = (outN C m i).2 ∧ 0 < (outN C m i).2 ∧ ((outN C m i).1 = [] ∨ C ((outN C m i).1.getLastD 0) i = true)) = false := We fun h => c1 h.1
      refine jD 32 32 (h := ?_)
      (repeat (refine wkH ?_))
      simp only [hai, We (show ¬ ((bestA C m i : Nat) : Int) = ((outN C m i).2 : Int) by omega)]
      (repeat (refine wkH ?_))
      refine Zo ?_
      refine Zr ?_
      repeat (refine wkM ?_; intros)
      exact ZL false hd.symm sbB suB
   ·by_cases hP : bestA C m i = (outN C m i).2 ∧ 0 < (outN C m i).2 ∧ ((outN C m i).1 = [] ∨ C ((outN C m i).1.getLastD 0) i = true)
    ·rw [Wc hP] at hq
     subst hq
     rw [if_pos hP] at hnx
     repeat (refine wkM ?_; intros)
     refine sU rfl rfl ?_ ?_ ?_ ?_
     ·rfl
     ·rfl
     ·exact ⟨by decide, by omega, by omega⟩
     intro s'
     repeat (refine wkO ?_; intros)
     have e1 : cI (outN C m (i + 1)).1 = cI (outN C m i).1 ++ [(i : Int)] := by rw [hnx]; simp [cI]
     have e4 : (((outN C m (i + 1)).2 : Nat) : Int) = ((outN C m i).2 : Int) - 1 := by rw [hnx]; simp only; omega
     obtain ⟨s3, e2, e3⟩ := SlS.turn 3 e1.symm s'
     exact Zj ⟨i + 1, s3⟩ hlt (by simp only [e2, e4]; exact sbB) (by simp only [e3]; exact suB) (by show m - (i + 1) < m - i; omega)
    ·rw [We hP] at hq
     subst hq
     rw [if_neg hP] at hnx
     repeat (refine wkO ?_; intros)
     have e1 : cI (outN C m (i + 1)).1 = cI (outN C m i).1 := by rw [hnx]
     have e4 : (((outN C m (i + 1)).2 : Nat) : Int) = ((outN C m i).2 : Int) := by rw [hnx]
     obtain ⟨s3, e2, e3⟩ := SlS.turn 3 e1.symm o
     exact Zj ⟨i + 1, s3⟩ hlt (by simp only [e2, e4]; exact sbB) (by simp only [e3]; exact suB) (by show m - (i + 1) < m - i; omega)
  ·have hge : i = m := by have := Wb h; omega
   subst hge
   repeat (refine wkM ?_; intros)
   exact Zf rfl rfl (fun w hw => ⟨o, rfl, hw.sub suB⟩)
end
section
def icb (x : Zaq) : Bool := if x.Mag = ByteArray.empty then !x.Neg else !decide (x.Mag[0]? = some 0)
theorem Zq3 {l : List UInt8} (h : l[0]? ≠ some 0) : Top l.reverse := by
 intro b hb
 rw [List.getLast?_reverse] at hb
 intro h0
 subst h0
 refine h ?_
 cases l with
 | nil => cases hb
 | cons x r => simpa using hb
theorem bget (s : ByteArray) (i : Nat) : s[i]? = s.data.toList[i]? := by
 by_cases h : i < s.size
 ·have h' : i < s.data.toList.length := h
  rw [getElem?_pos s i h, getElem?_pos s.data.toList i h']
  rfl
 ·have h' : ¬ i < s.data.toList.length := h
  rw [getElem?_neg s i h, getElem?_neg s.data.toList i h']
theorem Zem {x : Zaq} : icb x = true ↔ ∃ a : Int, x = I a := by
 obtain ⟨n, s⟩ := x
 unfold icb
 simp only
 constructor
 ·intro h
  have hc : Can s := by
   split at h
   ·rename_i h0
    subst h0
    exact Zl1 0
   ·rename_i h0
    simp only [Bool.not_eq_true', decide_eq_false_iff_not] at h
    exact Zq3 (by rw [← bget]; exact h)
  have hm := Zre hc
  refine ⟨if n = true then -(vmag s : Int) else (vmag s : Int), ?_⟩
  unfold I
  cases n
  ·simp only [Bool.false_eq_true, if_false, Int.natAbs_natCast, hm]
   rw [We (by omega)]
  ·simp only [if_true, Int.natAbs_neg, Int.natAbs_natCast, hm]
   congr 1
   have hne : vmag s ≠ 0 := fun h0 => by
    rw [h0] at hm
    split at h
    ·cases h
    ·rename_i h1
     exact h1 (hm.symm.trans ZgD)
   simp
   omega
 ·rintro ⟨a, h⟩
  unfold I at h
  injection h with h1 h2
  subst h1
  subst h2
  split
  ·rename_i h0
   have := ZaR.1 h0
   simp
   omega
  ·rename_i h0
   simp only [Bool.not_eq_true', decide_eq_false_iff_not]
   intro h1
   have hc := Zl1 a.natAbs
   rw [bget] at h1
   cases hl : (mag a.natAbs).data.toList with
   | nil => rw [hl] at h1; cases h1
   | cons y r =>
    rw [hl] at h1
    simp only [List.getElem?_cons_zero, Option.some.injEq] at h1
    unfold Can Top at hc
    rw [hl] at hc
    exact hc y (by simp) h1
theorem Zrq (a : Int) : icb (I a) = true := Zem.2 ⟨a, rfl⟩
instance Zx0 (x : Zaq) : SpecC prog 170 [.agg (ZR x)] (.int .i64 (if icb x = true then 0 else 5)) True := ⟨fun _ w => by
 refine Zg Tryz.func170 rfl Tryz.ntmps170 rfl ?_
 repeat (refine wkB ?_; intros)
 by_cases h : x.Mag = ByteArray.empty
 ·have e : icb x = !x.Neg := by unfold icb; rw [if_pos h]
  have hd := Wc (show x.Mag = ⟨#[]⟩ from h)
  rw [e]
  simp only [hd]
  repeat (refine wkB ?_; intros)
  rcases hN : x.Neg with _ | _
  ·repeat (refine wkB ?_; intros)
   simp only [hd, Bool.not_true]
   repeat (refine wkB ?_; intros)
   exact Zf rfl rfl (fun w hw => Zi hw)
  ·repeat (refine wkB ?_; intros)
   exact Zf rfl rfl (fun w hw => Zi hw)
 ·have e : icb x = !decide (x.Mag[0]? = some 0) := by unfold icb; rw [if_neg h]
  have hd := We (show ¬ x.Mag = ⟨#[]⟩ from h)
  rw [e]
  simp only [hd]
  repeat (refine wkB ?_; intros)
  simp only [hd, Bool.not_false]
  repeat (refine wkB ?_; intros)
  obtain ⟨u, hu⟩ : ∃ u, x.Mag[0]? = some u := by
   rw [bget]
   cases hl : x.Mag.data.toList with
   | nil =>
    refine absurd ?_ h
    have h2 : x.Mag.data = #[] := by rw [← Array.toArray_toList (xs := x.Mag.data), hl]
    cases hx : x.Mag with
    | mk d =>
     rw [hx] at h2
     simp only at h2
     subst h2
     rfl
   | cons y r => exact ⟨y, rfl⟩
  refine jq (ZdI rfl rfl (by omega) (show x.Mag[(0 : Int).toNat]? = some u from hu)) rfl rfl ?_
  repeat (refine wkB ?_; intros)
  have hd : decide (((u.toNat : Nat) : Int) = 0) = decide (x.Mag[0]? = some 0) := by
   rw [hu, decide_eq_decide]
   simp only [Option.some.injEq]
   constructor
   ·intro h0
    exact UInt8.toNat_inj.1 (by simpa using h0)
   ·intro h0
    subst h0
    rfl
  rw [hd]
  rcases hq : decide (x.Mag[0]? = some 0) with _ | _
  ·repeat (refine wkB ?_; intros)
   exact Zf rfl rfl (fun w hw => Zi hw)
  ·repeat (refine wkB ?_; intros)
   exact Zf rfl rfl (fun w hw => Zi hw)⟩
def rcb (x : Zac) : Bool := icb x.Num && (icb x.Den && (decide (x.Den = I 0) || (!decide (Lib.compareInt (ival x.Den) 1 ≤ 0) && decide ((Int.gcd (ival x.Num) (ival x.Den) : Int) = 1))))
where ival (x : Zaq) : Int := if x.Neg = true then -(vmag x.Mag : Int) else vmag x.Mag
theorem Zer (a : Int) : rcb.ival (I a) = a := by
 unfold rcb.ival I
 simp only [Zc3, decide_eq_true_eq]
 split <;> omega
theorem Zst {x : Zac} : rcb x = true ↔ ∃ q : Rat, x = Q q := by
 obtain ⟨n, d⟩ := x
 unfold rcb
 simp only [Wq, Bool.or_eq_true, Bool.not_eq_true', decide_eq_true_eq, decide_eq_false_iff_not]
 constructor
 ·rintro ⟨h1, h2, h3⟩
  obtain ⟨a, rfl⟩ := Zem.1 h1
  obtain ⟨b, rfl⟩ := Zem.1 h2
  rw [Zer, Zer, Zb5] at h3
  rcases h3 with rfl | ⟨h3, h4⟩
  ·exact ⟨(a : Rat), (Zrp a)⟩
  ·have hb : 1 < b := by
    unfold Lib.compareInt at h3
    split at h3
    ·omega
    ·split at h3 <;> omega
   have hc : Nat.Coprime a.natAbs b.natAbs := by
    have : Int.gcd a b = 1 := by omega
    exact this
   refine ⟨⟨a, b.natAbs, by omega, hc⟩, ?_⟩
   unfold Q dn
   simp only
   rw [if_neg (by omega)]
   congr 2
   omega
 ·rintro ⟨q, h⟩
  unfold Q at h
  injection h with h1 h2
  subst h1
  subst h2
  refine ⟨Zrq _, Zrq _, ?_⟩
  rw [Zer, Zer, Zb5]
  have hp := q.den_pos
  by_cases hd : q.den = 1
  ·exact .inl (Zhf.2 hd)
  ·have e : dn q = q.den := by unfold dn; rw [if_neg hd]
   refine .inr ⟨?_, ?_⟩
   ·rw [e]
    unfold Lib.compareInt
    rw [if_neg (by omega), if_pos (by omega)]
    omega
   ·rw [e]
    have hc := q.reduced
    have h0 : Int.gcd q.num (q.den : Int) = 1 := hc
    omega
theorem ZxU (q : Rat) : rcb (Q q) = true := Zst.2 ⟨q, rfl⟩
theorem ZtU {n d : Zaq} : rcb ⟨n, d⟩ = (icb n && (icb d && (decide (d = I 0) || (!decide (Lib.compareInt (rcb.ival d) 1 ≤ 0) && decide ((Int.gcd (rcb.ival n) (rcb.ival d) : Int) = 1))))) := rfl
instance ZmN (x : Zac) : SpecC prog 112 [.agg (Zx x)] (.int .i64 (if rcb x = true then 0 else 5)) (x.Num.Mag.size ≤ LIM ∧ x.Den.Mag.size ≤ LIM) := ⟨fun hp w => by
 obtain ⟨p1, p2⟩ := hp
 refine Zg Tryz.func112 rfl Tryz.ntmps112 rfl ?_
 repeat (refine wkB ?_; intros)
 rcases hn : icb x.Num with _ | _
 ·rw [show rcb x = false by unfold rcb; rw [hn]; rfl]
  repeat (refine wkB ?_; intros)
  exact Zf rfl rfl (fun w hw => Zi hw)
 repeat (refine wkB ?_; intros)
 rcases hd : icb x.Den with _ | _
 ·rw [show rcb x = false by unfold rcb; rw [hn, hd]; rfl]
  repeat (refine wkB ?_; intros)
  exact Zf rfl rfl (fun w hw => Zi hw)
 obtain ⟨a, ha⟩ := Zem.1 hn
 obtain ⟨b, hb⟩ := Zem.1 hd
 obtain ⟨n, d⟩ := x
 simp only at ha hb p1 p2 hn hd ⊢
 subst ha
 subst hb
 rw [ZtU, hn, hd, Zer, Zer, Bool.true_and, Bool.true_and]
 have hz : decide (I b = I 0) = decide (b = 0) := by rw [decide_eq_decide]; exact Zb5
 rw [hz]
 repeat (refine wkB ?_; intros)
 by_cases hb : b = 0
 ·simp only [Wc hb]
  repeat (refine wkB ?_; intros)
  exact Zf rfl rfl (fun w hw => Zi hw)
 ·simp only [We hb]
  repeat (refine wkB ?_; intros)
  refine jD 14 14 (h := ?_)
  (repeat (refine wkH ?_))
  rcases hc : decide (Lib.compareInt b 1 ≤ 0) with _ | _
  ·(repeat (first | refine wkH ?_ | (refine tC rfl rfl ?_ ?_; focus (first | exact trivial | exact ⟨p1, p2⟩))))
   refine Zo ?_
   refine Zr ?_
   repeat (refine wkB ?_; intros)
   rcases hg : decide (((Int.gcd a b : Nat) : Int) = 1) with _ | _
   ·repeat (refine wkB ?_; intros)
    exact Zf rfl rfl (fun w hw => Zi hw)
   ·repeat (refine wkB ?_; intros)
    exact Zf rfl rfl (fun w hw => Zi hw)
  ·(repeat (refine wkH ?_))
   refine Zo ?_
   refine Zr ?_
   repeat (refine wkB ?_; intros)
   exact Zf rfl rfl (fun w hw => Zi hw)⟩
instance (priority := high) Zz5 (q : Rat) : SpecC prog 112 [vQ q] (.int .i64 0) (M q ≤ LQ) := ⟨fun hp w => by
 have h := (ZmN (Q q)).out ⟨?_, ?_⟩ w
 ·rw [ZxU] at h
  exact h
 ·have := Wi (Zbf q) hp
  exact Wi this (by decide)
 ·show (mag (dn q).natAbs).size ≤ LIM
  have h1 := Wi (Za7 q) hp
  unfold dn
  split
  ·decide
  ·exact Wi h1 (by decide)⟩
end
section
abbrev SS := ZM
class SumC (f g : Nat) (h : outParam Nat) : Prop where out : f + g = h
instance : SumC 4 4 8 := ⟨rfl⟩
instance : SumC 4 0 4 := ⟨rfl⟩
instance ZAN {P : Program} {w0 : World} {n : Nat} {L : List Blk} {E : Env} {v : Value} {x : Operand} {T T0 : TypeId} {α : Type} [Inhabited α] {enc : α → Array Value} {k b f g s : Nat} {xs : List α} {sp : List Value} {i : Int} [IsC (evl E x) (.pointer (some ⟨b, 0 + i.toNat * k + f + g, none⟩))] [hs : SumC f g s] [h : AtC w0 L b (row enc xs sp) T0] [EncC enc k] [hv : LdC P T (enc (gi xs i)) s v] : YsC P w0 n L E (.load T x) v (i.toNat < xs.length) := ⟨fun hi _ _ _ _ _ => ZdX isE h.out (by
 have h1 := Zhp (P := P) (T := T) (v := v) (enc := enc) (k := k) (sp := sp) (f := s) hi (by rw [← Zc8 hi]; exact hv.out)
 rw [Nat.add_assoc, hs.out, Nat.zero_add]
 exact h1)⟩
def sgU (pts : List SS) (i : Nat) : PU := ⟨⟨⟨(gi pts (i : Int)).T, 0, false⟩, ⟨(gi pts ((i + 1 : Nat) : Int)).T, 0, false⟩, decide ((1 : Int) < ((i + 1 : Nat) : Int)), false⟩, stl (gi pts (i : Int)) (gi pts ((i + 1 : Nat) : Int))⟩
def sgs (pts : List SS) : Nat → List PU
 | 0 => []
 | m + 1 => sgs pts m ++ [sgU pts m]
theorem Zdv (pts : List SS) : ∀ m, (sgs pts m).length = m
 | 0 => rfl
 | m + 1 => by rw [sgs, Wp, Zdv pts m]; rfl
theorem Zhl (pts : List SS) {u : PU} : ∀ m, u ∈ sgs pts m → ∃ i, i < m ∧ u = sgU pts i
 | 0, h => by cases h
 | m + 1, h => by
  rw [sgs] at h
  rcases List.mem_append.1 h with h1 | h1
  ·obtain ⟨i, h3, h4⟩ := Zhl pts m h1
   exact ⟨i, by omega, h4⟩
  ·rw [Wo] at h1
   exact ⟨m, by omega, h1⟩
def one1 (p : SS) : PU := ⟨⟨⟨p.T, 0, false⟩, ⟨p.T, 0, false⟩, false, false⟩, ⟨p.P.X, 0, p.P.Y, 0⟩⟩
def frS (pts : List SS) : List PU := if pts.length = 1 then [one1 (gi pts 0)] else mNorm (sgs pts (pts.length - 1))
def frE (pts : List SS) : Int := if pts.length = 1 then 0 else nrmE (mpN toU (sgs pts (pts.length - 1)) (sgs pts (pts.length - 1)).length)
theorem Zlj {α β : Type} [Inhabited α] {f : α → β} {xs : List α} {y : β} : ∀ m, m ≤ xs.length → y ∈ mpN f xs m → ∃ x ∈ xs, y = f x
 | 0, _, h => by cases h
 | m + 1, hm, h => by
  rw [mpN] at h
  rcases List.mem_append.1 h with h1 | h1
  ·exact Zlj m (by omega) h1
  ·rw [Wo] at h1
   exact ⟨_, Z0 (by omega), h1⟩
theorem ZuD {pts : List SS} (hB : Bnd pts) (i : Nat) : UIn (toU (sgU pts i)) := by
 obtain ⟨h1, h2, h3⟩ := hB (i : Int)
 obtain ⟨h4, h5, h6⟩ := hB ((i + 1 : Nat) : Int)
 have := MB.mk h1
 have := MB.mk h2
 have := MB.mk h3
 have := MB.mk h4
 have := MB.mk h5
 have := MB.mk h6
 exact ⟨⟨rfl, rfl, rfl, rfl, Wi h1 (by decide), Wi h4 (by decide)⟩, ⟨MB.lt (q := (stl (gi pts (i : Int)) (gi pts ((i + 1 : Nat) : Int))).X0) rfl, MB.lt (q := (stl (gi pts (i : Int)) (gi pts ((i + 1 : Nat) : Int))).X1) rfl, MB.lt (q := (stl (gi pts (i : Int)) (gi pts ((i + 1 : Nat) : Int))).Y0) rfl, MB.lt (q := (stl (gi pts (i : Int)) (gi pts ((i + 1 : Nat) : Int))).Y1) rfl⟩⟩
theorem ZnM {pts : List SS} (hB : Bnd pts) (m : Nat) : ∀ u ∈ mpN toU (sgs pts m) (sgs pts m).length, UIn u := fun u hu => by
 obtain ⟨x, hx, rfl⟩ := Zlj _ (Wl _) hu
 obtain ⟨i, -, rfl⟩ := Zhl pts m hx
 exact ZuD hB i
set_option maxHeartbeats 1000000 in
theorem ZmY (b n c : Nat) (pts : List SS) (sp : List Value) (T : TypeId) (hn : pts.length = n) (h1 : 1 ≤ n) (h19 : n ≤ 19) (hB : Bnd pts) (hinc : ∀ i : Nat, i + 1 < n → (gi pts (i : Int)).T < (gi pts ((i + 1 : Nat) : Int)).T) (w : World) (hw : ∃ fz, w.heap[b]? = some (.cells (row rS pts sp) T fz)) :
  Calls prog 62 [.slice (some ⟨b, 0, none⟩) n c].toArray w (RetM (SlS rP 36 (frS pts)) (fun s => .tuple #[vSl s, .int .i64 (frE pts)]) (fun s => mS 115 s) w) := by
 have := FoC.mk hw
 have hBd : ∀ i : Int, M (gi pts i).T ≤ LQ ∧ M (gi pts i).P.X ≤ LQ ∧ M (gi pts i).P.Y ≤ LQ := fun i => by
  obtain ⟨h1, h2, h3⟩ := hB i
  exact ⟨Wi h1 (by decide), Wi h2 (by decide), Wi h3 (by decide)⟩
 refine Zg Tryz.func62 rfl Tryz.ntmps62 rfl ?_
 repeat (refine wkB ?_; intros)
 simp only [We (show ¬ (256 : Int) < (n : Int) by omega)]
 repeat (refine wkB ?_; intros)
 refine Zq (S := Nat) (fun m => m ≤ n) (fun m => [(0, .slice (some ⟨b, 0, none⟩) n c), (3, .int .i64 0), (20, .slice (some ⟨b, 0, none⟩) n c), (21, .int .i64 n), (22, .int .i64 (m : Nat))]) (fun _ => []) (fun m => n - m) 0 (Wm _) sbB slB (fun m hm => ?_)
 repeat (refine wkB ?_; intros)
 refine Zn rfl (fun h => ?_) (fun h => ?_)
 ·have hlt : m < n := by have := Wa h; omega
  repeat (first | (refine wkB ?_; intros) | (refine wnM ?_ ?_; (focus (first | exact (hBd _).1 | exact (hBd _).2.1 | exact (hBd _).2.2 | exact ⟨by omega, by omega⟩)); intros))
  exact Zj (m + 1) hlt sbB slB (by omega)
 ·have hge : m = n := by have := Wb h; omega
  subst hge
  repeat (refine wkB ?_; intros)
  refine Zq (S := Nat) (fun k => k ≤ m) (fun k => [(0, .slice (some ⟨b, 0, none⟩) m c), (3, .int .i64 0), (45, .slice (some ⟨b, 0, none⟩) m c), (46, .int .i64 m), (47, .int .i64 (k : Nat))]) (fun _ => []) (fun k => m - k) 0 (Wm _) sbB slB (fun k hk => ?_)
  repeat (refine wkB ?_; intros)
  refine Zn rfl (fun h => ?_) (fun h => ?_)
  ·have hlt : k < m := by have := Wa h; omega
   repeat (refine wkB ?_; intros)
   rcases k with _ | k
   ·(refine jD 17 17 (h := ?_); (repeat (refine wkH ?_)); refine Zo ?_; (repeat (refine Z8 ?_; intro _)); refine Zr ?_)
    repeat (first | (refine wkB ?_; intros) | (refine wnM ?_ ?_; (focus (exact ⟨by omega, by omega⟩)); intros))
    exact Zj 1 hlt sbB slB (by omega)
   ·have e1 : ((k + 1 : Nat) : Int) - 1 = (k : Int) := by omega
    refine jD 17 17 (h := ?_)
    (repeat (refine wkH ?_))
    simp only [Wc (show (0 : Int) < ((k + 1 : Nat) : Int) by omega), e1]
    (repeat (refine wkH ?_))
    simp only [e1]
    (repeat (first | refine wkH ?_ | (refine tC rfl rfl ?_ ?_; focus (exact ⟨(hBd _).1, (hBd _).1⟩))))
    refine Zo ?_
    refine Zr ?_
    have hcl : ¬ cq (gi pts ((k + 1 : Nat) : Int)).T (gi pts (k : Int)).T ≤ 0 := by
     rw [Zm0]
     have := hinc k hlt
     grind
    simp only [We hcl]
    repeat (first | (refine wkB ?_; intros) | (refine wnM ?_ ?_; (focus (exact ⟨by omega, by omega⟩)); intros))
    exact Zj (k + 2) hlt sbB slB (by omega)
  ·have hge : k = m := by have := Wb h; omega
   subst hge
   repeat (refine wkB ?_; intros)
   by_cases ho : k = 1
   ·simp only [Wc (show (k : Int) = 1 by omega)]
    repeat (refine wkB ?_; intros)
    rename_i b7
    subst ho
    (refine Zbb [0, 1, 2, 3, 4, 5, 6, 7, 8, 9, 10, 11, 12, 13, 14] [15, 16, 17] (_) (h := ?_); refine wkI ?_)
    (repeat (refine wkH ?_))
    refine Zo ?_
    repeat (refine wkT ?_; intros)
    repeat (refine wkB ?_; intros)
    rename_i b8
    have e1 : frS pts = [one1 (gi pts 0)] := by unfold frS; rw [if_pos hn]
    have e2 : frE pts = 0 := by unfold frE; rw [if_pos hn]
    obtain ⟨s', hv', hm'⟩ := SlS.put (enc := rP) (k := 36) (b := b8) (sp := []) (c := 1) (ys := frS pts) 115 (by rw [e1]; rfl) ⟨Wl _, rfl⟩ Nat.one_pos
    refine Zz (v1 := vSl s') (v2 := .int .i64 (frE pts)) rfl (Zl (by rw [hv']; rfl)) (Zl (by rw [e2]; rfl)) (fun w hw => ⟨s', rfl, ?_⟩)
    dsimp only
    rw [hm', e1]
    exact hw.sub suB
   ·simp only [We (show ¬ (k : Int) = 1 by omega)]
    repeat (refine wkB ?_; intros)
    refine Zq (S := (m : Nat) × SlS rP 36 (sgs pts m)) (fun s => s.1 ≤ k - 1) (fun s => [(0, .slice (some ⟨b, 0, none⟩) k c), (8, vSl s.2), (9, .int .i64 ((s.1 + 1 : Nat)))]) (fun s => mS 115 s.2) (fun s => k - 1 - s.1) ⟨0, SlS.no⟩ (Wm _) sbB slB (fun s hm => ?_)
    obtain ⟨m, s⟩ := s
    simp only at hm ⊢
    have hsl := Zdv pts m
    repeat (refine wkB ?_; intros)
    refine Zn rfl (fun h => ?_) (fun h => ?_)
    ·have hlt : m + 1 < k := by have := Wa h; omega
     have e1 : ((m + 1 : Nat) : Int) - 1 = (m : Int) := by omega
     have hp : ∀ i : Int, M (gi pts i).T ≤ 34359738368 ∧ M (gi pts i).P.X ≤ 34359738368 ∧ M (gi pts i).P.Y ≤ 34359738368 := fun i => ⟨Wi (hB i).1 (by decide), Wi (hB i).2.1 (by decide), Wi (hB i).2.2 (by decide)⟩
     repeat (refine wkB ?_; intros)
     (refine Zep [0, 1, 2, 3, 4, 5, 6, 7, 8] [9, 10] [11, 12] ([]) (h := ?_); refine wkI ?_)
     (repeat (refine wkH ?_))
     simp only [e1]
     repeat (refine wkT ?_; intros)
     repeat (first | (refine wkB ?_; intros) | (refine wnM ?_ ?_; (focus (first | exact ⟨(hp _).1, (hp _).2.1, (hp _).1, (hp _).2.1⟩ | exact ⟨(hp _).1, (hp _).2.2, (hp _).1, (hp _).2.2⟩)); intros))
     refine jD 9 10 (h := ?_)
     (repeat (refine wkH ?_))
     refine Zo ?_
     (repeat (refine Z8 ?_; intro _))
     refine Zr ?_
     repeat (refine wkB ?_; intros)
     refine sU rfl rfl ?_ ?_ ?_ ?_
     ·rfl
     ·rfl
     ·exact ⟨by decide, by omega, by omega⟩
     intro s'
     repeat (first | (refine wkB ?_; intros) | (refine wnM ?_ ?_; (focus (exact ⟨by omega, by omega⟩)); intros))
     exact Zj ⟨m + 1, s'⟩ (by show m + 1 ≤ k - 1; omega) sbB suB (by show k - 1 - (m + 1) < k - 1 - m; omega)
    ·have hge : m = k - 1 := by have := Wb h; omega
     subst hge
     repeat (first | (refine wkB ?_; intros) | (refine wnM ?_ ?_; (focus (first | exact trivial | exact ⟨by omega, ZnM hB _⟩)); intros))
     rename_i s2
     have e1 : frS pts = mNorm (sgs pts (k - 1)) := by unfold frS; rw [if_neg (by omega), hn]
     have e2 : frE pts = nrmE (mpN toU (sgs pts (k - 1)) (sgs pts (k - 1)).length) := by unfold frE; rw [if_neg (by omega), hn]
     obtain ⟨s', hv', hm'⟩ := SlS.turn 115 e1.symm s2
     exact Zz (v1 := vSl s') (v2 := .int .i64 (frE pts)) rfl (Zl (by rw [hv']; rfl)) (Zl (by rw [e2]; rfl)) (fun w hw => ⟨s', rfl, by dsimp only; rw [hm']; exact hw.sub suB⟩)
end
section
theorem ZwP {R : List UL} (h : NF (R.map absU)) {i j : Nat} (hij : i < j) (hj : j < R.length) : (absU (gi R (i : Int))).bfr (absU (gi R (j : Int))) := by
 have h1 := List.pairwise_iff_getElem.1 h.pw i j (by rw [Ws]; omega) (by rw [Ws]; omega) hij
 rw [List.getElem_map, List.getElem_map, ← Zk (by omega), ← Zk hj] at h1
 exact h1.bf
theorem ZlF {a b : SS} (h : a.T < b.T) (t : Rat) : pos (stl a b) t = ⟨a.P.X + (b.P.X - a.P.X) * ((t - a.T) / (b.T - a.T)), a.P.Y + (b.P.Y - a.P.Y) * ((t - a.T) / (b.T - a.T))⟩ := by
 have hne : ¬ b.T - a.T = 0 := by grind
 rw [Zs1 a b t h]
 unfold btw
 rw [if_neg hne]
theorem ZwY {a b : SS} (h : a.T < b.T) : pos (stl a b) a.T = a.P := by
 rw [ZlF h]
 have : (a.T - a.T) / (b.T - a.T) = 0 := by rw [show a.T - a.T = 0 by grind, Rat.div_def, Rat.zero_mul]
 rw [this]
 cases a with
 | mk T P => cases P; simp only [Zad.mk.injEq]; constructor <;> grind
theorem Zx2 {a b : SS} (h : a.T < b.T) : pos (stl a b) b.T = b.P := by
 rw [ZlF h]
 have : (b.T - a.T) / (b.T - a.T) = 1 := by rw [Rat.div_def]; exact Rat.mul_inv_cancel _ (by grind)
 rw [this]
 cases b with
 | mk T P => cases P; simp only [Zad.mk.injEq]; constructor <;> grind
def Inc (pts : List SS) : Prop := ∀ i : Nat, i + 1 < pts.length → (gi pts (i : Int)).T < (gi pts ((i + 1 : Nat) : Int)).T
theorem Inc.lt {pts : List SS} (h : Inc pts) : ∀ {j i : Nat}, i < j → j < pts.length → (gi pts (i : Int)).T < (gi pts (j : Int)).T
 | 0, i, hij, _ => by omega
 | j + 1, i, hij, hj => by
  have h1 := h j hj
  rcases (by omega : i < j ∨ i = j) with h2 | h2
  ·have := h.lt h2 (by omega)
   grind
  ·subst h2; exact h1
theorem Zn1 (pts : List SS) : ∀ m (i : Nat), i < m → gi (sgs pts m) (i : Int) = sgU pts i
 | 0, i, h => by omega
 | m + 1, i, h => by
  have hl := Zdv pts m
  rw [Zk (by rw [Zdv]; exact h)]
  simp only [sgs]
  rcases (by omega : i < m ∨ i = m) with h1 | h1
  ·rw [List.getElem_append_left (by omega), ← Zk (by omega)]
   exact Zn1 pts m i h1
  ·subst h1
   rw [List.getElem_append_right (by omega)]
   simp [hl]
def sgW (pts : List SS) (m : Nat) : List UL := mpN toU (sgs pts m) (sgs pts m).length
theorem ZhA (pts : List SS) (m : Nat) : sgW pts m = (sgs pts m).map toU := Zeq _ _
theorem Zdo (pts : List SS) (m : Nat) : (sgW pts m).length = m := by rw [ZhA, Ws, Zdv]
theorem Zhn {pts : List SS} {m i : Nat} (h : i < m) : gi (sgW pts m) (i : Int) = toU (sgU pts i) := by
 rw [Zk (by rw [Zdo]; exact h)]
 simp only [ZhA, List.getElem_map]
 rw [← Zk (by rw [Zdv]; exact h), Zn1 pts m i h]
theorem ZhO {pts : List SS} {m : Nat} {u : UL} (h : u ∈ sgW pts m) : ∃ i, i < m ∧ u = toU (sgU pts i) := by
 rw [ZhA] at h
 obtain ⟨x, hx, rfl⟩ := List.mem_map.1 h
 obtain ⟨i, h1, rfl⟩ := Zhl pts m hx
 exact ⟨i, h1, rfl⟩
theorem ZhT {pts : List SS} (hB : Bnd pts) (hi : Inc pts) {m : Nat} (hm : m + 1 ≤ pts.length) : UVal (sgW pts m) := by
 refine ⟨ZnM hB m, fun u hu => ?_⟩
 obtain ⟨i, h1, rfl⟩ := ZhO hu
 exact .inl (hi i (by omega))
theorem Zum {pts : List SS} (hB : Bnd pts) (hi : Inc pts) {m : Nat} (hm : m + 1 ≤ pts.length) : ((sgW pts m).map absU).Pairwise GU.bfr := by
 have hv := ZhT hB hi hm
 refine ZeZ (fun u hu => ?_) (fun i h => ?_)
 ·obtain ⟨x, hx, rfl⟩ := List.mem_map.1 hu
  exact hv.v x hx
 ·rw [Ws, Zdo] at h
  rw [List.getElem_map, List.getElem_map, ← Zk (by rw [Zdo]; omega), ← Zk (by rw [Zdo]; exact h), Zhn (by omega), Zhn h]
  refine .inr ⟨rfl, .inr ?_⟩
  show decide ((1 : Int) < ((i + 1 + 1 : Nat) : Int)) = true
  exact Wc (by omega)
theorem Zsv {pts : List SS} (hi : Inc pts) {m i : Nat} (hm : m + 1 ≤ pts.length) (h : i < m) {t : Rat} (h1 : (gi pts (i : Int)).T ≤ t) (h2 : t ≤ (gi pts ((i + 1 : Nat) : Int)).T) : Has ((sgW pts m).map absU) t (pos (stl (gi pts (i : Int)) (gi pts ((i + 1 : Nat) : Int))) t) := by
 have hmem : ∀ j, j < m → absU (toU (sgU pts j)) ∈ (sgW pts m).map absU := fun j hj => by
  rw [← Zhn hj]
  exact List.mem_map.2 ⟨_, Z0 (by rw [Zdo]; omega), rfl⟩
 by_cases hlt : (gi pts (i : Int)).T < t ∨ i = 0
 ·refine ⟨_, hmem i h, ⟨?_, ?_⟩, rfl⟩
  ·rcases hlt with h3 | h3
   ·exact .inl h3
   ·subst h3
    rcases Classical.em ((gi pts ((0 : Nat) : Int)).T < t) with h4 | h4
    ·exact .inl h4
    ·refine .inr ⟨?_, rfl⟩
     show (gi pts ((0 : Nat) : Int)).T = t
     grind
  ·rcases Classical.em (t < (gi pts ((i + 1 : Nat) : Int)).T) with h4 | h4
   ·exact .inl h4
   ·refine .inr ⟨?_, rfl⟩
    show t = (gi pts ((i + 1 : Nat) : Int)).T
    grind
 ·have ht : t = (gi pts (i : Int)).T := by grind
  have hi0 : i ≠ 0 := fun h0 => hlt (.inr h0)
  obtain ⟨k, rfl⟩ : ∃ k, i = k + 1 := ⟨i - 1, by omega⟩
  have h3 := hi k (by omega)
  have h4 := hi (k + 1) (by omega)
  refine ⟨_, hmem k (by omega), ⟨.inl ?_, .inr ⟨ht, rfl⟩⟩, ?_⟩
  ·show (gi pts (k : Int)).T < t
   rw [ht]; exact h3
  ·show pos (stl (gi pts (k : Int)) (gi pts ((k + 1 : Nat) : Int))) t = _
   rw [ht, Zx2 h3, ZwY h4]
theorem ZsZ (us : List UL) : mpN toU (mpN ofU us us.length) (mpN ofU us us.length).length = us := by
 rw [Zeq, Zeq, List.map_map]
 have : ∀ u ∈ us, (toU ∘ ofU) u = id u := fun u _ => rfl
 rw [List.map_congr_left this, List.map_id]
theorem ZhU (us : List PU) : mpN toU (mNorm us) (mNorm us).length = nrmR (mpN toU us us.length) := ZsZ _
theorem ZlC {pts : List SS} (hB : Bnd pts) (hi : Inc pts) (h2 : 2 ≤ pts.length) : frE pts = 0 ∧ NF ((mpN toU (frS pts) (frS pts).length).map absU) ∧ (∀ u ∈ mpN toU (frS pts) (frS pts).length, UOk u) ∧ ∀ t v, Has ((mpN toU (frS pts) (frS pts).length).map absU) t v ↔ Has ((sgW pts (pts.length - 1)).map absU) t v := by
 have hv := ZhT hB hi (m := pts.length - 1) (by omega)
 have hp := Zum hB hi (m := pts.length - 1) (by omega)
 have hd : ((sgW pts (pts.length - 1)).map absU).Pairwise Dis := hp.imp fun h => h.Dis
 have e1 : frS pts = mNorm (sgs pts (pts.length - 1)) := by unfold frS; rw [if_neg (by omega)]
 have e2 : frE pts = nrmE (sgW pts (pts.length - 1)) := by unfold frE; rw [if_neg (by omega)]; rfl
 have e3 : mpN toU (frS pts) (frS pts).length = nrmR (sgW pts (pts.length - 1)) := by rw [e1, ZhU]; rfl
 obtain ⟨n1, n2⟩ := Zn0 hv hd
 rw [e3]
 exact ⟨by rw [e2]; exact (ZoE hv).2 hd, n1, Zma hv.i, n2⟩
end
end Go.Vt
namespace Go.Vt
open Fv (va red)
section
variable {T F V : Type} [LE T] [LT T] [Std.LawfulOrderLT T] [Std.IsLinearOrder T] [Dns T] [Fv F T V] [DecidableEq T]
def Upw (xs : List (GU T F)) : Prop := ∀ u ∈ xs, u.a ≤ u.b
theorem Upw.snoc {xs : List (GU T F)} {u : GU T F} (h : Upw xs) (hu : u.a ≤ u.b) : Upw (xs ++ [u]) := fun w hw => by
 rcases List.mem_append.1 hw with h1 | h1
 ·exact h w h1
 ·rw [Wo] at h1
  exact h1 ▸ hu
theorem Upw.init {xs : List (GU T F)} {u : GU T F} (h : Upw (xs ++ [u])) : Upw xs ∧ u.a ≤ u.b := ⟨fun w hw => h w (List.mem_append_left _ hw), h u (List.mem_append_right _ (.head _))⟩
theorem ZfX {pv nx : Option (GU T F)} {xs xs' : List (GU T F)} {x : GU T F} (h : Stp pv nx xs x xs') (hx : x.a ≤ x.b) (hu : Upw xs) : Upw xs' ∧ xs'.length ≤ xs.length + 1 := by
 cases h with
 | ext h1 h2 h3 h4 h5 =>
  obtain ⟨h6, h7⟩ := hu.init
  exact ⟨h6.snoc (by simp only; grind), by simp⟩
 | appO h1 h2 h3 h4 => exact ⟨hu.snoc hx, by simp⟩
 | appN h1 h2 h3 => exact ⟨hu.snoc hx, by simp⟩
 | clo h1 h2 h3 h4 =>
  obtain ⟨h6, h7⟩ := hu.init
  exact ⟨h6.snoc h7, by simp⟩
 | lft h1 h2 h3 => exact ⟨hu, by simp⟩
 | rdc h1 h2 h3 => exact ⟨hu.snoc hx, by simp⟩
theorem Zsn {pv : Option (GU T F)} {xs xs' : List (GU T F)} {x n : GU T F} (h : Stp pv (some n) xs x xs') (hi : x.a = x.b) (hn : n.a = x.a) (hf : n.f = x.f) (hu : Upw xs) : Upw xs' ∧ xs'.length ≤ xs.length := by
 cases h with
 | ext h1 => exact absurd hi h1
 | appO h1 => exact absurd hi h1
 | appN h1 => exact absurd hi h1
 | clo h1 h2 h3 h4 =>
  obtain ⟨h6, h7⟩ := hu.init
  exact ⟨h6.snoc h7, by simp⟩
 | lft h1 h2 h3 => exact ⟨hu, by simp⟩
 | rdc h1 h2 h3 => exact absurd ⟨n, rfl, hn, by rw [hf]⟩ h3
theorem Zlo {pv nx : Option (GU T F)} {xs xs' : List (GU T F)} {x : GU T F} (h : Stp pv nx xs x xs') (hx : x.a < x.b) (hu : Upw xs) : Upw xs' ∧ xs'.length ≤ xs.length + 1 ∧ ∃ ys w, xs' = ys ++ [w] ∧ w.b = x.b ∧ w.f = x.f ∧ w.a ≠ w.b := by
 refine ⟨(ZfX h (by grind) hu).1, (ZfX h (by grind) hu).2, ?_⟩
 cases h with
 | ext h1 h2 h3 h4 h5 =>
  obtain ⟨h6, h7⟩ := hu.init
  exact ⟨_, _, rfl, rfl, h5, by simp only; grind⟩
 | appO h1 h2 h3 h4 => exact ⟨_, _, rfl, rfl, rfl, h1⟩
 | appN h1 h2 h3 => exact ⟨_, _, rfl, rfl, rfl, h1⟩
 | clo h1 => grind
 | lft h1 => grind
 | rdc h1 => grind
theorem Zs3 {pv nx : Option (GU T F)} {ys xs' : List (GU T F)} {x w : GU T F} (h : Stp pv nx (ys ++ [w]) x xs') (hi : x.a = x.b) (hb : w.b = x.a) (hf : w.f = x.f) (hl : w.a ≠ w.b) (hu : Upw (ys ++ [w])) : Upw xs' ∧ xs'.length ≤ (ys ++ [w]).length := by
 refine ⟨(ZfX h (by grind) hu).1, ?_⟩
 generalize hz : ys ++ [w] = zs at *
 cases h with
 | ext h1 => exact absurd hi h1
 | appO h1 => exact absurd hi h1
 | appN h1 => exact absurd hi h1
 | clo h1 h2 h3 h4 => simp
 | lft h1 h2 h3 => exact Wl _
 | rdc h1 h2 h3 => exact absurd (by rw [hf]) (h2 ys w hz.symm hb hl)
theorem Zoc : ∀ (us : List (GU T F)), (∀ u ∈ us, u.ok) → ∀ (pv : Option (GU T F)) (xs out : List (GU T F)), Upw xs → Mk pv xs (partsL us) out → out.length ≤ xs.length + us.length
 | [], _, pv, xs, out, _, h => by
  simp only [partsL, List.flatMap_nil] at h
  cases h with
  | nil => exact Wl _
 | u :: us, hok, pv, xs, out, hu, h => by
  have hk := hok u (.head _)
  have hks : ∀ u ∈ us, u.ok := fun w hw => hok w (.tail _ hw)
  rw [Zec] at h
  have go : ∀ (pv : Option (GU T F)) (zs : List (GU T F)), Upw zs → zs.length ≤ xs.length + 1 → Mk pv zs (partsL us) out → out.length ≤ xs.length + (u :: us).length := fun pv zs hz hl hm => by
   have := Zoc us hks pv zs out hz hm
   rw [Wu]
   omega
  unfold GU.parts at h
  by_cases he : u.a = u.b
  ·have ho : u.oa = false := by unfold GU.ok at hk; grind
   simp only [ho, he, if_true, Bool.false_eq_true, if_false, Wh, Wf, Wg] at h
   cases h with
   | cons hs hm =>
    have h1 := ZfX hs (by simp only; grind) hu
    exact go _ _ h1.1 h1.2 hm
  ·have hlt : u.a < u.b := by unfold GU.ok at hk; grind
   have mid : ∀ (pv : Option (GU T F)) (zs : List (GU T F)), Upw zs → zs.length ≤ xs.length → Mk pv zs ((⟨u.a, u.b, true, true, u.f⟩ :: if u.ob = true then [] else [⟨u.b, u.b, false, false, u.f⟩]) ++ partsL us) out → out.length ≤ xs.length + (u :: us).length := fun pv zs hz hl hm => by
    rcases hb : u.ob with _ | _
    ·simp only [hb, Bool.false_eq_true, if_false, Wf, Wg] at hm
     cases hm with
     | cons hs hm =>
      obtain ⟨h1, h2, ys, w, hw, h3, h4, h5⟩ := Zlo hs hlt hz
      subst hw
      cases hm with
      | cons hs hm =>
       have h6 := Zs3 hs rfl h3 h4 h5 h1
       exact go _ _ h6.1 (by omega) hm
    ·simp only [hb, if_true, Wf, Wg] at hm
     cases hm with
     | cons hs hm =>
      obtain ⟨h1, h2, _⟩ := Zlo hs hlt hz
      exact go _ _ h1 (by omega) hm
   rcases ho : u.oa with _ | _
   ·simp only [ho, he, Bool.false_eq_true, if_false, Wf, Wg] at h
    cases h with
    | cons hs hm =>
     simp only [List.head?_cons] at hs
     have h1 := Zsn hs rfl rfl rfl hu
     exact mid _ _ h1.1 h1.2 (by simpa using hm)
   ·simp only [ho, he, if_true, if_false, Wg] at h
    exact mid _ _ hu (Wl _) h
end
theorem ZpD {us : List UL} (h : UVal us) : (nrmR us).length ≤ us.length := by
 have hs := h.sor
 have hok : ∀ u ∈ (Go.Vt.sor us).map absU, u.ok := fun u hu => by
  obtain ⟨w, hw, rfl⟩ := List.mem_map.1 hu
  exact hs.v w hw
 have hall := ZfC hs.i (Go.Vt.sor us).length (Wl _)
 have hmk := ZjT hall _ 0 (Nat.zero_add _)
 have hparts : (atm (Go.Vt.sor us) (Go.Vt.sor us).length).map absU = partsL ((Go.Vt.sor us).map absU) := by
  have := Zhg (fun u hu => (hs.i u hu).i) (Go.Vt.sor us).length (Wl _)
  rw [List.take_length] at this
  exact this
 rw [List.drop_zero, hparts] at hmk
 have hl := Zoc _ hok _ _ _ (fun u hu => by cases hu) hmk
 have hp := (Ze5 us).length_eq
 simp only [nrm, List.map_nil, Wx, Nat.zero_add, Ws] at hl
 unfold nrmR
 split
 ·unfold allU
  omega
 ·exact Wm _
end Go.Vt
namespace Go.Vt
open Go.RowKit Go.Proofs
open Go.Proofs.Tryz (prog)
section
theorem Zn2 {pts : List ZM} (h : ∀ x ∈ pts, M x.T ≤ PB ∧ M x.P.X ≤ PB ∧ M x.P.Y ≤ PB) : Bnd pts := fun i => by
 by_cases hi : i.toNat < pts.length
 ·rw [Zc8 hi]
  exact h _ (List.getElem_mem hi)
 ·have : gi pts i = default := by unfold gi; simp only [List.getD_eq_getElem?_getD, List.getElem?_eq_none (by omega : pts.length ≤ i.toNat)]; rfl
  rw [this]
  exact ⟨by decide +kernel, by decide +kernel, by decide +kernel⟩
end
section
open Fv (va red)
section
variable {T F V : Type} [LE T] [LT T] [Std.LawfulOrderLT T] [Std.IsLinearOrder T] [Dns T] [Fv F T V]
theorem NF.gap {xs ys : List (GU T F)} (hx : NF xs) (hy : NF ys) (h : ∀ u ∈ xs, ∀ w ∈ ys, u.b < w.a) : NF (xs ++ ys) := by
 refine ⟨fun u hu => ?_, fun u hu => ?_, List.pairwise_append.2 ⟨hx.pw, hy.pw, fun u hu w hw => ?_⟩⟩
 ·rcases List.mem_append.1 hu with h1 | h1
  ·exact hx.ok u h1
  ·exact hy.ok u h1
 ·rcases List.mem_append.1 hu with h1 | h1
  ·exact hx.rd u h1
  ·exact hy.rd u h1
 ·have h1 := h u hu w hw
  refine ⟨.inl h1, fun e => ?_, fun e => ?_, fun e => ?_⟩ <;> exfalso <;> grind
end
theorem Zno {l : List (GU Rat ZF)} {a b : Rat} (ho : ∀ u ∈ l, u.ok) (h : ∀ t v, Has l t v → a ≤ t ∧ t ≤ b) : ∀ u ∈ l, a ≤ u.a ∧ u.b ≤ b := fun u hu => by
 have hm : ∀ t, u.mem t → a ≤ t ∧ t ≤ b := fun t ht => h t _ ⟨u, hu, ht, rfl⟩
 rcases ho u hu with h1 | ⟨h1, h2, h3⟩
 ·refine ⟨?_, ?_⟩
  ·rcases Std.le_total (a := a) (b := u.a) with h2 | h2
   ·exact h2
   ·rcases Classical.em (u.a = a) with h3 | h3
    ·grind
    ·obtain ⟨t, t1, t2, t3⟩ := dens2 (a := u.a) (b := u.b) (c := a) h1 (by grind)
     have := hm t ⟨.inl t1, .inl t2⟩
     grind
  ·rcases Std.le_total (a := u.b) (b := b) with h2 | h2
   ·exact h2
   ·rcases Classical.em (u.b = b) with h3 | h3
    ·grind
    ·have hb : b < u.b := by grind
     rcases Std.le_total (a := u.a) (b := b) with h4 | h4
     ·obtain ⟨t, t1, t2⟩ := Dns.out b u.b hb
      have := hm t ⟨.inl (by grind), .inl t2⟩
      grind
     ·obtain ⟨t, t1, t2⟩ := Dns.out u.a u.b h1
      have := hm t ⟨.inl t1, .inl t2⟩
      grind
 ·have := hm u.a ⟨.inr ⟨rfl, h2⟩, .inr ⟨h1, h3⟩⟩
  grind
theorem ZgV {pts : List SS} (h : Inc pts) : ∀ {i j : Nat}, i ≤ j → j < pts.length → (gi pts (i : Int)).T ≤ (gi pts (j : Int)).T
 | i, 0, h1, _ => by
  have : i = 0 := by omega
  subst this
  exact Rat.le_refl
 | i, j + 1, h1, h2 => by
  rcases Nat.lt_or_ge i (j + 1) with h3 | h3
  ·have := ZgV h (i := i) (j := j) (by omega) (by omega)
   have := h j h2
   grind
  ·have : i = j + 1 := by omega
   subst this
   exact Rat.le_refl
theorem ZrX (l : List PU) : mpN toU l l.length = l.map toU := Zeq _ _
abbrev aU (l : List PU) : List (GU Rat ZF) := (l.map toU).map absU
theorem Zp9 {pts : List SS} (hB : Bnd pts) (hi : Inc pts) (hn : 0 < pts.length) : NF (aU (frS pts)) ∧ (∀ u ∈ frS pts, UOk (toU u)) ∧ ∀ u ∈ frS pts, (gi pts ((0 : Nat) : Int)).T ≤ u.In.From.P ∧ u.In.To.P ≤ (gi pts ((pts.length - 1 : Nat) : Int)).T := by
 rcases (by omega : pts.length = 1 ∨ 2 ≤ pts.length) with h1 | h1
 ·have e : frS pts = [one1 (gi pts 0)] := by unfold frS; rw [if_pos h1]
  have hb := hB 0
  rw [e, h1]
  generalize gi pts 0 = p at *
  have hz : M 0 ≤ BQ := by decide
  refine ⟨NF.one (.inr ⟨rfl, rfl, rfl⟩) (fun _ => ?_), fun u hu => ?_, fun u hu => ?_⟩
  ·show (⟨p.P.X, 0, p.P.Y, 0⟩ : ZF) = lred ⟨p.P.X, 0, p.P.Y, 0⟩ p.T
   simp [lred, lin, Rat.mul_zero, Rat.add_zero]
  ·rw [Wo] at hu
   subst hu
   exact ⟨⟨rfl, rfl, rfl, rfl, Wi hb.1 (by decide), Wi hb.1 (by decide)⟩, ⟨Wi hb.2.1 (by decide), hz, Wi hb.2.2 (by decide), hz⟩⟩
  ·rw [Wo] at hu
   subst hu
   exact ⟨Rat.le_refl, Rat.le_refl⟩
 ·obtain ⟨-, k1, k2, k3⟩ := ZlC hB hi h1
  rw [ZrX] at k1 k2 k3
  refine ⟨k1, fun u hu => k2 _ (List.mem_map.2 ⟨u, hu, rfl⟩), fun u hu => ?_⟩
  refine Zno (l := aU (frS pts)) (a := (gi pts ((0 : Nat) : Int)).T) (b := (gi pts ((pts.length - 1 : Nat) : Int)).T) k1.ok (fun t v hh => ?_) (absU (toU u)) (List.mem_map.2 ⟨toU u, List.mem_map.2 ⟨u, hu, rfl⟩, rfl⟩)
  obtain ⟨g, hg, hm, -⟩ := (k3 t v).1 hh
  obtain ⟨w, hw, rfl⟩ := List.mem_map.1 hg
  obtain ⟨i, hi1, rfl⟩ := ZhO hw
  have q1 := ZgV hi (i := 0) (j := i) (by omega) (by omega)
  have q2 := ZgV hi (i := i + 1) (j := pts.length - 1) (by omega) (by omega)
  have m1 : (gi pts (i : Int)).T ≤ t := by
   rcases hm.1 with h | h
   ·exact Rat.le_of_lt h
   ·have e : (gi pts (i : Int)).T = t := h.1
    rw [e]
    exact Rat.le_refl
  have m2 : t ≤ (gi pts ((i + 1 : Nat) : Int)).T := by
   rcases hm.2 with h | h
   ·exact Rat.le_of_lt h
   ·have e : t = (gi pts ((i + 1 : Nat) : Int)).T := h.1
    rw [e]
    exact Rat.le_refl
  exact ⟨Rat.le_trans q1 m1, Rat.le_trans m2 q2⟩
def thrC (l : List SS) (g : Rat) (i : Nat) : Bool := decide (i + 1 < l.length) && !decide (g < (gi l ((i + 1 : Nat) : Int)).T - (gi l (i : Int)).T)
def thrN (l : List SS) (g : Rat) : Nat → List PU × List SS
 | 0 => ([], [])
 | i + 1 => if thrC l g i then ((thrN l g i).1, (thrN l g i).2 ++ [gi l (i : Int)]) else ((thrN l g i).1 ++ frS ((thrN l g i).2 ++ [gi l (i : Int)]), [])
theorem ZhH {pts : List SS} (hB : Bnd pts) (hi : Inc pts) (hn : 0 < pts.length) : (frS pts).length ≤ pts.length := by
 unfold frS
 split
 ·rename_i h; rw [h]; simp
 ·have := ZpD (ZhT hB hi (m := pts.length - 1) (by omega))
  rw [Zdo] at this
  have e : (mNorm (sgs pts (pts.length - 1))).length = (nrmR (sgW pts (pts.length - 1))).length := by
   have := congrArg List.length (ZhU (sgs pts (pts.length - 1)))
   rw [Zew] at this
   exact this
  omega
structure ThrOk (l : List SS) (i : Nat) (s : List PU × List SS) : Prop where
 r : s.2.length ≤ i
 run : s.2 = (l.drop (i - s.2.length)).take s.2.length
 nf : NF (aU s.1)
 k : ∀ u ∈ s.1, UOk (toU u)
 hi : ∀ u ∈ s.1, ∀ j, i - s.2.length ≤ j → j < l.length → u.In.To.P < (gi l (j : Int)).T
 n : s.1.length + s.2.length ≤ i
theorem ZeD {l : List SS} {a r : Nat} (hB : Bnd l) (hi : Inc l) (h : a + r ≤ l.length) : Bnd ((l.drop a).take r) ∧ Inc ((l.drop a).take r) ∧ ∀ k, k < r → gi ((l.drop a).take r) (k : Int) = gi l ((a + k : Nat) : Int) := by
 have hl : ((l.drop a).take r).length = r := by rw [Wt, List.length_drop]; omega
 have hg : ∀ k, k < r → gi ((l.drop a).take r) (k : Int) = gi l ((a + k : Nat) : Int) := fun k hk => by
  rw [Zk (by omega), Zk (by omega), List.getElem_take, List.getElem_drop]
 refine ⟨Zn2 fun s hs => ?_, fun i h1 => ?_, hg⟩
 ·have hm := List.mem_of_mem_drop (List.mem_of_mem_take hs)
  obtain ⟨k, hk, rfl⟩ := List.getElem_of_mem hm
  have := hB (k : Int)
  rwa [Zk hk] at this
 ·rw [hl] at h1
  rw [hg i (by omega), hg (i + 1) h1]
  exact hi (a + i) (by omega)
theorem Zdz {l : List SS} {g : Rat} (hB : Bnd l) (hi : Inc l) : ∀ i, i ≤ l.length → ThrOk l i (thrN l g i)
 | 0, _ => ⟨Wl _, rfl, NF.nil, (fun u hu => by cases hu), (fun u hu => by cases hu), Wl _⟩
 | i + 1, h => by
  have ih := Zdz (g := g) hB hi i (by omega)
  simp only [thrN]
  generalize thrN l g i = s at ih
  obtain ⟨out, run⟩ := s
  obtain ⟨i1, i2, i3, i4, i5, i6⟩ := ih
  simp only at i1 i2 i3 i4 i5 i6 ⊢
  have er : run ++ [gi l (i : Int)] = (l.drop (i - run.length)).take (run.length + 1) := by
   rw [Wn (by rw [List.length_drop]; omega), ← i2, List.getElem_drop, Zk (by omega)]
   congr 2
   simp only [show i - run.length + run.length = i by omega]
  split
  ·refine ⟨by simp only [Wp, List.length_singleton]; omega, ?_, i3, i4, fun u hu j h1 h2 => ?_, by simp only [Wp, List.length_singleton]; omega⟩
   ·simp only [Wp, List.length_singleton, show i + 1 - (run.length + 1) = i - run.length by omega]
    exact er
   ·simp only [Wp, List.length_singleton] at h1
    exact i5 u hu j (by omega) h2
  ·obtain ⟨p1, p2, p3⟩ := ZeD (a := i - run.length) (r := run.length + 1) hB hi (by omega)
   have hl : ((l.drop (i - run.length)).take (run.length + 1)).length = run.length + 1 := by rw [Wt, List.length_drop]; omega
   rw [er]
   obtain ⟨q1, q2, q3⟩ := Zp9 p1 p2 (by omega)
   have q4 := ZhH p1 p2 (by omega)
   rw [hl] at q3 q4
   rw [p3 0 (by omega), p3 (run.length + 1 - 1) (by omega), show i - run.length + (run.length + 1 - 1) = i by omega, Nat.add_zero] at q3
   refine ⟨Wm _, by simp, ?_, fun u hu => ?_, fun u hu j h1 h2 => ?_, ?_⟩
   ·have e : aU (out ++ frS ((l.drop (i - run.length)).take (run.length + 1))) = aU out ++ aU (frS ((l.drop (i - run.length)).take (run.length + 1))) := by simp [aU]
    rw [e]
    refine i3.gap q1 fun u hu w hw => ?_
    obtain ⟨u1, hu1, rfl⟩ := List.mem_map.1 hu
    obtain ⟨u2, hu2, rfl⟩ := List.mem_map.1 hu1
    obtain ⟨w1, hw1, rfl⟩ := List.mem_map.1 hw
    obtain ⟨w2, hw2, rfl⟩ := List.mem_map.1 hw1
    have h1 := i5 u2 hu2 (i - run.length) (Wl _) (by omega)
    have h2 := (q3 w2 hw2).1
    show u2.In.To.P < w2.In.From.P
    grind
   ·rcases List.mem_append.1 hu with h3 | h3
    ·exact i4 u h3
    ·exact q2 u h3
   ·simp only [Wx, Nat.sub_zero] at h1
    rcases List.mem_append.1 hu with h3 | h3
    ·exact i5 u h3 j (by omega) h2
    ·have h4 := (q3 u h3).2
     have h5 := ZgV hi (i := i + 1) (j := j) h1 h2
     have h6 := hi i (by omega)
     grind
   ·simp only [Wp, Wx]
    omega
end
end Go.Vt
