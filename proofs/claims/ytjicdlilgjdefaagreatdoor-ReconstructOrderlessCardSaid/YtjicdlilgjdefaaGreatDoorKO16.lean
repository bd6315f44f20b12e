/- that the order in which batches arrive does not matter (part 16 of 27.) Conditions: those that each statement names. -/
import Derived.Test.YtjicdlilgjdefaaGreatDoorKO1
import Derived.Test.YtjicdlilgjdefaaGreatDoorKO10
import Derived.Test.YtjicdlilgjdefaaGreatDoorKO13
import Derived.Test.YtjicdlilgjdefaaGreatDoorKO14
import Derived.Test.YtjicdlilgjdefaaGreatDoorKO15
/- The reports that count. Conditions: those that each statement names. -/
set_option linter.unusedSimpArgs false
set_option linter.unusedVariables false
set_option maxHeartbeats 2000000
set_option maxRecDepth 100000
namespace Go.Vt
open Go.RowKit Go.Proofs
instance ZHE : BsC Tryz.prog 37 0 [] (row Zc [] []) 35 := ⟨fun w => by kernel_rfl⟩
theorem ZiP (v : Value) (us : List Zb) (w : World) (hv : ArgS w v Zc us) (hn : us = [] → v = .slice none 0 0) (hl : us.length ≤ 1048576) :
  Calls Tryz.prog 210 [v].toArray w (RetM (SlS Zc 8 us) (fun s => vSl s) (fun s => mS 35 s) w) := by
 by_cases h0 : us = []
 ·obtain rfl := hn h0
  subst h0
  refine Zg Tryz.func210 rfl Tryz.ntmps210 rfl ?_
  repeat (refine wkM ?_; try intro _)
  exact Zf rfl rfl (fun w hw => ⟨SlS.no, rfl, hw⟩)
 ·obtain ⟨bw, ow, cw, rfl, hcw, hrow⟩ := hv.blk (k := 7) h0 []
  have hrow' : ∀ L, RowC w L bw ow Zb Zc us := fun L => ⟨fun w' hw' => hrow.out w' (hw'.sub (List.nil_sublist _))⟩
  refine Zg Tryz.func210 rfl Tryz.ntmps210 rfl ?_
  repeat (refine wkM ?_; try intro _)
  refine sG rfl rfl ?_ h0 ?_ ?_ ?_ ?_ ?_
  ·rfl
  ·rfl
  ·rfl
  ·decide
  ·exact ⟨by omega, by omega⟩
  intro s'
  repeat (refine wkM ?_; try intro _)
  exact Zf rfl rfl (fun w hw => ⟨s', rfl, hw.sub suB⟩)
instance Zwz (w0 : World) (L : List Blk) (v : Value) (us : List Zb) [h : LstN w0 L v Zb Zc us] : SpecR Tryz.prog w0 L 210 [v] (SlS Zc 8 us) (fun s => vSl s) (fun s => mS 35 s) (us.length ≤ 1048576) := ⟨fun hl w hw => ZiP v us w (h.out w hw) h.nil hl⟩
def Apart (xs : List Zb) : Prop := ∀ i : Nat, i + 1 < xs.length → gi xs ((i + 1 : Nat) : Int) ≠ gi xs (i : Int)
theorem ZgZ (v : Value) (us : List Zb) (w : World) (hv : ArgS w v Zc us) (ha : Apart us) (hl : us.length ≤ 1048576) :
  Calls Tryz.prog 211 [v].toArray w (Ret v w) := by
 obtain ⟨p, cp, rfl⟩ := hv.form
 refine Zg Tryz.func211 rfl Tryz.ntmps211 rfl ?_
 repeat (refine wkM ?_; try intro _)
 by_cases h2 : us.length < 2
 ·simp only [decide_eq_true (show (us.length : Int) < 2 by omega)]
  repeat (refine wkM ?_; try intro _)
  exact Zf rfl rfl (fun w hw => Zh hw)
 ·simp only [decide_eq_false (show ¬ (us.length : Int) < 2 by omega)]
  repeat (refine wkM ?_; try intro _)
  refine Zq (S := Nat) (fun m => m + 1 ≤ us.length) (fun m => [(0, .slice p us.length cp), (3, .int .i64 ((m + 1 : Nat)))]) (fun _ => []) (fun m => us.length - m) 0 (by omega) sbB slB (fun m hm => ?_)
  repeat (refine wkM ?_; try intro _)
  refine Zl rfl (fun h => ?_) (fun h => ?_)
  ·have hlt : m + 1 < us.length := by have := of_decide_eq_true h; omega
   have hne : us ≠ [] := fun h0 => by rw [h0] at hlt; simp at hlt
   obtain ⟨bw, ow, cw, hvw, hcw, hrow⟩ := hv.blk (k := 7) hne []
   injection hvw with e1 e2 e3
   subst e1
   subst e3
   have hrow' : ∀ L, RowC w L bw ow Zb Zc us := fun L => ⟨fun w' hw' => hrow.out w' (hw'.sub (List.nil_sublist _))⟩
   have hap := ha m hlt
   have e1 : ((m + 1 : Nat) : Int) - 1 = (m : Int) := by omega
   repeat (refine wkM ?_; try intro _)
   refine jD 10 10 (h := ?_)
   (repeat (refine wkH ?_))
   simp only [e1]
   (repeat (refine wkH ?_))
   refine Zr ?_
   refine Zt ?_
   simp only [decide_eq_false hap]
   repeat (refine wkO ?_; try intro _)
   exact Zj (m + 1) (by omega) sbB slB (by omega)
  ·repeat (refine wkM ?_; try intro _)
   exact Zf rfl rfl (fun w hw => Zh hw)
instance Zs2 (w0 : World) (L : List Blk) (v : Value) (us : List Zb) [h : LstC w0 L v Zb Zc us] : SpecM Tryz.prog w0 L 211 [v] v (Apart us ∧ us.length ≤ 1048576) := ⟨fun hp w hw => ZgZ v us w (h.out w hw) hp.1 hp.2⟩
theorem Ze4 {xs : List Zb} (h : xs.Nodup) : Apart (sorted xs) := fun i hi e => by
 have hn : (sorted xs).Nodup := (ZaW xs).nodup_iff.2 h
 rw [Zi hi, Zi (by omega)] at e
 have := (List.getElem_inj hn).1 e
 omega
instance ZG0 (w0 : World) (L : List Blk) (v : Value) (us : List Zb) [h : LstN w0 L v Zb Zc us] : SpecR Tryz.prog w0 L 162 [v] (SlS Zc 8 (sorted us)) (fun s => vSl s) (fun s => mS 35 s) (us.length ≤ 12 ∧ us.Nodup) := ⟨fun hp w hw => by
 have := LstN.mk (w0 := w) (L := []) (fun w' hw' => (h.out w hw).to hw'.ext) h.nil
 have hsl := Zbn us
 have hp12 := hp.1
 refine Zg Tryz.func162 rfl Tryz.ntmps162 rfl ?_
 repeat (first | (refine wkM ?_; try intro _) | (refine sC rfl rfl ?_ ?_; focus (exact Nat.le_trans hp.1 (by decide))) | (refine sN rfl rfl ?_ ?_; (focus (exact Nat.le_trans hp.1 (by decide))); intro _; (try simp only [List.cons_append, List.nil_append, List.append_nil])))
 rename_i s
 refine sZ rfl rfl ⟨hp.1, fun _ _ => trivial⟩ ?_
 intro s'
 obtain ⟨s', e⟩ := s'
 simp only
 have e0 : sorted us = srtRp us (us.length - 1) := rfl
 rw [← e]
 repeat (first | (refine wkM ?_; try intro _) | (refine sC rfl rfl ?_ ?_; focus (exact ⟨by rw [← e0]; exact Ze4 hp.2, by rw [← e0]; omega⟩)) | (refine sN rfl rfl ?_ ?_; (focus (exact ⟨by rw [← e0]; exact Ze4 hp.2, by rw [← e0]; omega⟩)); intro _; (try simp only [List.cons_append, List.nil_append, List.append_nil])))
 exact Zf rfl rfl (fun w hw => ⟨s', rfl, hw.sub suB⟩)⟩
end Go.Vt
/- The reports of an object that count. Conditions: those that each statement names. -/
namespace Go.Vt
open Go.RowKit Go.Proofs
theorem Zdv {κ α : Type} [DecidableEq κ] {x : κ} {v : α} : ∀ {l : List (κ × α)} {p : κ × α}, p ∈ mput l x v → p ∈ l ∨ p = (x, v)
 | [], p, h => by
  simp only [mput, List.mem_singleton] at h
  exact .inr h
 | q :: l, p, h => by
  simp only [mput] at h
  split at h
  ·rcases List.mem_cons.1 h with h | h
   ·exact .inr h
   ·exact .inl (.tail _ h)
  ·rcases List.mem_cons.1 h with h | h
   ·exact .inl (by rw [h]; exact .head _)
   ·rcases Zdv h with h | h
    ·exact .inl (.tail _ h)
    ·exact .inr h
theorem ZeS {κ α : Type} [DecidableEq κ] {x : κ} {v : α} : ∀ (l : List (κ × α)), (mput l x v).map (·.1) = l.map (·.1) ∨ (x ∉ l.map (·.1) ∧ (mput l x v).map (·.1) = l.map (·.1) ++ [x])
 | [] => .inr ⟨by simp, rfl⟩
 | q :: l => by
  simp only [mput]
  split
  ·rename_i h
   exact .inl (by simp [h])
  ·rename_i h
   rcases ZeS (x := x) (v := v) l with h1 | ⟨h1, h2⟩
   ·exact .inl (by simp only [List.map_cons, h1])
   ·exact .inr ⟨by simp only [List.map_cons, List.mem_cons, not_or]; exact ⟨h, h1⟩, by simp only [List.map_cons, h2, List.cons_append]⟩
structure WinOk (n : Nat) (m : List (ZA × Zb)) : Prop where
 nd : (m.map (·.1)).Nodup
 id : ∀ p ∈ m, idR p.2 = p.1
 len : m.length ≤ n
theorem Zlh {n : Nat} {m : List (ZA × Zb)} (h : WinOk n m) (r : Zb) : WinOk (n + 1) (mput m (idR r) r) := by
 refine ⟨?_, fun p hp => ?_, ?_⟩
 ·rcases ZeS (x := idR r) (v := r) m with h1 | ⟨h1, h2⟩
  ·rw [h1]; exact h.nd
  ·rw [h2]
   exact List.nodup_append.2 ⟨h.nd, by simp, fun a ha b hb => by rw [List.mem_singleton] at hb; rintro rfl; exact h1 (hb ▸ ha)⟩
 ·rcases Zdv hp with h1 | rfl
  ·exact h.id p h1
  ·rfl
 ·have := Zew m (idR r) r
  have := h.len
  omega
theorem Zfz (rs : List Zb) : WinOk rs.length (winR rs) := by
 have key : ∀ (rs : List Zb) (n : Nat) (m : List (ZA × Zb)), WinOk n m → WinOk (n + rs.length) (rs.foldl winS m) := by
  intro rs
  induction rs with
  | nil => intro n m h; exact h
  | cons r rs ih =>
   intro n m h
   rw [List.foldl_cons, List.length_cons, show n + (rs.length + 1) = n + 1 + rs.length by omega]
   refine ih _ _ ?_
   have hw : WinOk (n + 1) m := ⟨h.nd, h.id, Nat.le_succ_of_le h.len⟩
   unfold winS
   split
   ·exact Zlh h r
   ·split
    ·exact Zlh h r
    ·exact hw
 have := key rs 0 [] ⟨List.nodup_nil, (fun p h => by cases h), Nat.le_refl _⟩
 rwa [Nat.zero_add] at this
def cntL (q : List (ZA × Zb)) : List Zb := (q.map (·.2)).filter fun r => !r.Cancel
theorem Zoj (q : List (ZA × Zb)) (p : ZA × Zb) : cntL (q ++ [p]) = if p.2.Cancel then cntL q else cntL q ++ [p.2] := by
 unfold cntL
 rw [List.map_append, List.filter_append]
 cases h : p.2.Cancel <;> simp [h]
theorem Zi6 (q : List (ZA × Zb)) : (cntL q).length ≤ q.length := by
 have := List.length_filter_le (fun r : Zb => !r.Cancel) (q.map (·.2))
 rw [List.length_map] at this
 exact this
theorem Zm2 {q q' : List (ZA × Zb)} (h : q.Perm q') : (cntL q).Perm (cntL q') := (h.map _).filter _
theorem Zez {n : Nat} {q : List (ZA × Zb)} (h : WinOk n q) : (cntL q).Nodup := by
 refine List.Pairwise.filter _ ?_
 have e : (q.map (·.2)).map idR = q.map (·.1) := by
  rw [List.map_map]
  exact List.map_congr_left fun p hp => h.id p hp
 have := h.nd
 rw [← e] at this
 exact List.Pairwise.of_map idR (fun a b hab he => hab (congrArg idR he)) this
def cntR (rs : List Zb) : List Zb := sorted (cntL (winR rs))
set_option maxHeartbeats 4000000 in
theorem Zio (v : Value) (rs : List Zb) (w : World) (hv : ArgS w v Zc rs) (hl : rs.length ≤ 12) :
  Calls Tryz.prog 103 [v].toArray w (RetM (SlS Zc 8 (cntR rs)) (fun s => vSl s) (fun s => mS 35 s) w) := by
 have := ArgC.mk hv
 have hW := Zfz rs
 have hwl := hW.len
 refine Zg Tryz.func103 rfl Tryz.ntmps103 rfl ?_
 repeat (first | (refine wkM ?_; try intro _) | (refine sC rfl rfl ?_ ?_; focus (exact Nat.le_trans hl (by decide))) | (refine sN rfl rfl ?_ ?_; (focus (exact Nat.le_trans hl (by decide))); intro _; (try simp only [List.cons_append, List.nil_append, List.append_nil])))
 rename_i b r
 have hcr : cntR rs = sorted (cntL (winR rs)) := rfl
 generalize winR rs = W at *
 refine Zq (S := (s : List Nat) × SlS Zc 8 (cntL (seenL W s))) (fun q => SeenOk W.length q.1) (fun q => [(3, vSl q.2), (8, .pointer (some ⟨r, 0, none⟩))]) (fun q => mS 35 q.2 ++ [⟨r, .obj (itO b W.length q.1), 130⟩, ⟨b, .obj (mWn W), 130⟩]) (fun q => W.length - q.1.length) ⟨[], SlS.no⟩ ⟨List.nodup_nil, fun i hi => by cases hi⟩ sbB slB (fun q hs => ?_)
 obtain ⟨s, o⟩ := q
 simp only at hs ⊢
 have hlen := ZaJ hs.nd hs.lt
 have hcl := Zi6 (seenL W s)
 rw [ZdU W hs.lt] at hcl
 refine cX ?_
 refine cX ?_
 refine sNx rfl rfl rfl (fun hall => ?h0) (fun i hi hni => ?h1)
 case h0 =>
  have hp : (cntL (seenL W s)).Perm (cntL W) := Zm2 (Zb6 hs.nd hs.lt hall)
  repeat (first | (refine wkM ?_; try intro _) | (refine sC rfl rfl ?_ ?_; focus (exact ⟨by omega, hp.nodup_iff.2 (Zez hW)⟩)) | (refine sN rfl rfl ?_ ?_; (focus (exact ⟨by omega, hp.nodup_iff.2 (Zez hW)⟩)); intro _; (try simp only [List.cons_append, List.nil_append, List.append_nil])))
  rename_i s2
  obtain ⟨s3, e1, e2⟩ := s2.like (hcr.trans (ZcH hp).symm)
  refine Zf rfl rfl (fun w hw => ⟨s3, ?_, ?_⟩)
  ·show Ending.returned (vSl s2) = Ending.returned (vSl s3)
   rw [e1]
  ·show Own _ (mS 35 s3) w
   rw [e2]
   exact hw.sub suB
 case h1 =>
  have hs' := hs.snoc hi hni
  have hlen' := ZaJ hs'.nd hs'.lt
  rw [List.length_append, List.length_singleton] at hlen'
  have hnx : cntL (seenL W (s ++ [i])) = if (gi W (i : Int)).2.Cancel then cntL (seenL W s) else cntL (seenL W s) ++ [(gi W (i : Int)).2] := by
   rw [ZbK _ _ _ hi, Zoj, Zi hi]
  repeat (refine wkM ?_; try intro _)
  cases hc : (gi W (i : Int)).2.Cancel
  ·simp only [hc, Bool.not_false]
   rw [if_neg (by rw [hc]; decide)] at hnx
   repeat (refine wkM ?_; try intro _)
   refine sU rfl rfl ?_ ?_ ?_ ?_
   ·rfl
   ·rfl
   ·exact ⟨by decide, by omega, by omega⟩
   intro s'
   repeat (refine wkM ?_; try intro _)
   obtain ⟨s3, e1, e2⟩ := SlS.turn 35 hnx.symm s'
   exact Zj ⟨s ++ [i], s3⟩ hs' (by simp only [e1]; exact sbB) (by simp only [e2]; exact suB) (by simp only [List.length_append, List.length_singleton]; omega)
  ·simp only [hc, Bool.not_true]
   rw [if_pos hc] at hnx
   repeat (refine wkM ?_; try intro _)
   obtain ⟨s3, e1, e2⟩ := SlS.turn 35 hnx.symm o
   exact Zj ⟨s ++ [i], s3⟩ hs' (by simp only [e1]; exact sbB) (by simp only [e2]; exact suB) (by simp only [List.length_append, List.length_singleton]; omega)
instance ZuF (w0 : World) (L : List Blk) (v : Value) (rs : List Zb) [h : LstC w0 L v Zb Zc rs] : SpecR Tryz.prog w0 L 103 [v] (SlS Zc 8 (cntR rs)) (fun s => vSl s) (fun s => mS 35 s) (rs.length ≤ 12) := ⟨fun hl w hw => Zio v rs w (h.out w hw) hl⟩
abbrev vOf (b : Nat) : Value := .func (.func 104) #[] [.pointer (some ⟨b, 0, none⟩)].toArray
end Go.Vt
/- No exchanges: no devices. Conditions: those that each statement names. -/
namespace Go.Vt
open Go.RowKit Go.Proofs
instance keyI64 : KeyC Tryz.prog 3 (Value.int .i64) := Zqo (by kernel_rfl)
instance ZHI : MapT Tryz.prog 383 (Value.int .i64) Value.bool := ⟨trivial⟩
instance ZHa : UndC Tryz.prog 383 (.map 3 4) := ⟨by kernel_rfl⟩
instance ZE5 (m : Option Nat) : LdC Tryz.prog 383 #[.map m] 0 (.map m) := ⟨Zy (by kernel_rfl) (by kernel_rfl)⟩
instance ZzC : CallC Tryz.prog 305 := ⟨by kernel_rfl⟩
instance Zyp : CallC Tryz.prog 306 := ⟨by kernel_rfl⟩
instance ZBs : CallC Tryz.prog 333 := ⟨by kernel_rfl⟩
instance Zz7 : CallC Tryz.prog 334 := ⟨by kernel_rfl⟩
instance ZzJ : CallC Tryz.prog 355 := ⟨by kernel_rfl⟩
end Go.Vt
/- Without exchanges, the clock of the server: the time of a report. Conditions: those that each statement names. -/
namespace Go.Vt
open Go.RowKit Go.Proofs
abbrev vKsI (bm : Nat) : Value := .func (.func 307) #[] [.pointer (some ⟨bm, 0, none⟩)].toArray
instance ZDa (w0 : World) (L : List Blk) (b : Nat) : SpecR Tryz.prog w0 L 265 [.map (some b)] Nat (fun bm => vKsI bm) (fun bm => [⟨bm, #[Value.map (some b)], 383⟩]) True := ⟨fun _ w _ => by
 refine Zg Tryz.func265 rfl Tryz.ntmps265 rfl ?_
 repeat (refine wkM ?_; try intro _)
 rename_i bm
 exact Zf rfl rfl (fun w hw => ⟨bm, rfl, hw⟩)⟩
end Go.Vt
/- Reports with their times: their order, and their sorting. Conditions: those that each statement names. -/
namespace Go.Vt
open Go.RowKit Go.Proofs
abbrev vTm (x : Ze) : Value := .agg (ZJ (ZF x))
def TmOk (x : Ze) : Prop := M x.T ≤ 8589934592
def cmpTm (a b : Ze) : Int := orL [cq a.T b.T, Lib.compareInt a.Report.Seq b.Report.Seq]
instance Zzw (a b : Ze) : SpecC Tryz.prog 157 [vTm a, vTm b] (.int .i64 (cmpTm a b)) (TmOk a ∧ TmOk b) := ⟨fun hp w => by
 obtain ⟨h1, h2⟩ := hp
 unfold TmOk at h1 h2
 refine Zg Tryz.func157 rfl Tryz.ntmps157 rfl ?_
 repeat (refine wkB ?_; try intro _)
 rename_i b2 b3
 (refine Zf8 [([0, 1, 2, 3, 4, 5, 6, 7, 8, 9, 10, 11], [12, 13, 14])] ([⟨b3, Zo b, 56⟩, ⟨b2, Zo a, 56⟩]) (h := ?_); refine wkP ?_)
 (repeat (first | refine wkH ?_ | (refine tC rfl rfl ?_ ?_; focus (first | exact trivial | exact ⟨Nat.le_trans h1 (by decide), Nat.le_trans h2 (by decide)⟩))))
 repeat (first | (refine wkT ?_; try intro _) | (refine tC rfl rfl ?_ ?_; focus (exact ⟨rfl, by decide⟩)) | (refine uC rfl rfl ?_ ?_; focus (exact ⟨rfl, by decide⟩)) | (refine eN rfl rfl ?_ ?_; (focus (exact ⟨rfl, by decide⟩)); intro _; (try simp only [List.cons_append, List.nil_append, List.append_nil])))
 repeat (refine wkB ?_; try intro _)
 exact Zf rfl rfl (fun w hw => Zh hw)⟩
def swpTm (xs : List Ze) (j : Nat) : List Ze := (xs.set (j + 1) (gi xs (j : Int))).set j (gi xs ((j + 1 : Nat) : Int))
def dwnTm (xs : List Ze) : Nat → List Ze
 | 0 => xs
 | j + 1 => if cmpTm (gi xs ((j + 1 : Nat) : Int)) (gi xs (j : Int)) < 0 then dwnTm (swpTm xs j) j else xs
def srtTm (xs : List Ze) : Nat → List Ze
 | 0 => xs
 | i + 1 => dwnTm (srtTm xs i) (i + 1)
theorem Ze8 (xs : List Ze) (j : Nat) : (swpTm xs j).length = xs.length := by simp [swpTm]
theorem Zie {xs : List Ze} {j : Nat} (h : j + 1 < xs.length) {u : Ze} (hu : u ∈ swpTm xs j) : u ∈ xs := by
 unfold swpTm at hu
 rcases List.mem_or_eq_of_mem_set hu with h1 | h1
 ·rcases List.mem_or_eq_of_mem_set h1 with h2 | h2
  ·exact h2
  ·rw [h2, Zi (by omega)]
   exact List.getElem_mem _
 ·rw [h1, Zi h]
  exact List.getElem_mem _
theorem ZhW : ∀ (j : Nat) (xs : List Ze), (dwnTm xs j).length = xs.length
 | 0, _ => rfl
 | j + 1, xs => by
  rw [dwnTm]
  split
  ·rw [ZhW j, Ze8]
  ·rfl
theorem Zh7 : ∀ (j : Nat) (xs : List Ze), j < xs.length → ∀ u ∈ dwnTm xs j, u ∈ xs
 | 0, _, _, _, h => h
 | j + 1, xs, hj, u, h => by
  rw [dwnTm] at h
  split at h
  ·exact Zie hj (Zh7 j _ (by rw [Ze8]; omega) u h)
  ·exact h
theorem Zcm (xs : List Ze) : ∀ i, (srtTm xs i).length = xs.length
 | 0 => rfl
 | i + 1 => by rw [srtTm, ZhW, Zcm xs i]
theorem ZeY (xs : List Ze) : ∀ i, i < xs.length → ∀ u ∈ srtTm xs i, u ∈ xs
 | 0, _, _, h => h
 | i + 1, hi, u, h => by
  rw [srtTm] at h
  exact ZeY xs i (by omega) u (Zh7 _ _ (by rw [Zcm]; exact hi) u h)
theorem Zl3 (w0 w : World) (L1 : List Blk) (b c n : Nat) (xs : List Ze) (sp : List Value) (T : TypeId) (hn : xs.length = n) (hl : n ≤ 1048576) (hok : ∀ u ∈ xs, TmOk u) (hw : Own w0 (⟨b, row Zo xs sp, T⟩ :: L1) w) :
  Calls Tryz.prog 260 [.slice (some ⟨b, 0, none⟩) n c, .int .i64 0, .int .i64 n, vFn 157].toArray w (RetX w0 Unit (fun _ => .tuple #[]) (fun _ => ⟨b, row Zo (srtTm xs (n - 1)) sp, T⟩ :: L1)) := by
 refine Z1 Tryz.func260 rfl Tryz.ntmps260 rfl hw ?_
 repeat (refine wkB ?_; try intro _)
 refine Zq (S := Nat) (fun m => m ≤ n - 1) (fun m => [(0, .slice (some ⟨b, 0, none⟩) n c), (1, .int .i64 0), (2, .int .i64 n), (3, vFn 157), (8, .int .i64 ((m + 1 : Nat)))]) (fun m => ⟨b, row Zo (srtTm xs m) sp, T⟩ :: L1) (fun m => n - 1 - m) 0 (Nat.zero_le _) sbB slB (fun m hm => ?_)
 have hsl := Zcm xs m
 repeat (refine wkB ?_; try intro _)
 refine Zl rfl (fun h => ?_) (fun h => ?_)
 ·have hlt : m + 1 < n := by have := of_decide_eq_true h; omega
  have hmem := ZeY xs m (by omega)
  repeat (refine wkB ?_; try intro _)
  refine Zq (S := Nat × List Ze) (fun s => dwnTm s.2 s.1 = srtTm xs (m + 1) ∧ s.2.length = n ∧ s.1 ≤ m + 1 ∧ ∀ u ∈ s.2, TmOk u) (fun s => [(0, .slice (some ⟨b, 0, none⟩) n c), (1, .int .i64 0), (2, .int .i64 n), (3, vFn 157), (8, .int .i64 ((m + 1 : Nat))), (9, .int .i64 ((s.1 : Nat)))]) (fun s => ⟨b, row Zo s.2 sp, T⟩ :: L1) (fun s => s.1) (m + 1, srtTm xs m)
   ⟨rfl, by show (srtTm xs m).length = n; omega, Nat.le_refl _, fun u hu => hok u (hmem u hu)⟩ sbB slB (fun s hs => ?_)
  obtain ⟨j, ys⟩ := s
  obtain ⟨g1, g2, g3, g4⟩ := hs
  simp only at g1 g2 g3 g4 ⊢
  repeat (refine wkB ?_; try intro _)
  rcases j with _ | j
  ·(refine jD 17 17 (h := ?_); (repeat (refine wkH ?_)); refine Zr ?_; (repeat (refine Z6 ?_; intro _)); refine Zt ?_)
   repeat (refine wkB ?_; try intro _)
   exact Zj (m + 1) (by omega) sbB (by rw [← g1]; exact List.Sublist.refl _) (by omega)
  ·have hj1 : ((j : Int)).toNat < ys.length := by omega
   have hj2 : (((j + 1 : Nat) : Int)).toNat < ys.length := by omega
   have e1 : ((j + 1 : Nat) : Int) - 1 = (j : Int) := by omega
   have o1 := g4 _ (by rw [Zi (show j < ys.length by omega)]; exact List.getElem_mem _ : gi ys (j : Int) ∈ ys)
   have o2 := g4 _ (by rw [Zi (show j + 1 < ys.length by omega)]; exact List.getElem_mem _ : gi ys ((j + 1 : Nat) : Int) ∈ ys)
   rw [dwnTm] at g1
   refine jD 17 17 (h := ?_)
   (repeat (refine wkH ?_))
   simp only [decide_eq_true (show (0 : Int) < ((j + 1 : Nat) : Int) by omega), e1]
   (repeat (refine wkH ?_))
   simp only [e1]
   (repeat (first | refine wkH ?_ | (refine tC rfl rfl ?_ ?_; focus (exact ⟨o2, o1⟩))))
   refine Zr ?_
   refine Zt ?_
   repeat (refine wkB ?_; try intro _)
   by_cases hc : cmpTm (gi ys ((j + 1 : Nat) : Int)) (gi ys (j : Int)) < 0
   ·rw [if_pos hc] at g1
    simp only [decide_eq_true hc]
    repeat (refine wkB ?_; try intro _)
    (refine ZfF [(true, [0, 1, 2, 3, 4, 5, 6, 7, 8]), (false, [9]), (true, [10, 11, 12]), (false, [13]), (true, [14])] [15, 16, 17] (h := ?_); refine wkS ?_)
    (repeat (refine wkH ?_))
    simp only [e1]
    refine Zr ?_
    refine eR rfl ?_ ?_
    ·omega
    refine uS rfl rfl ?_ ?_
    ·omega
    refine eR rfl ?_ ?_
    ·rw [List.length_set]; omega
    refine Zbf ?_
    simp only [Int.toNat_natCast]
    repeat (first | (refine wkB ?_; try intro _) | (refine sC rfl rfl ?_ ?_; focus (exact ⟨by omega, by omega⟩)) | (refine sN rfl rfl ?_ ?_; (focus (exact ⟨by omega, by omega⟩)); intro _; (try simp only [List.cons_append, List.nil_append, List.append_nil])))
    simp only [e1]
    exact Zj (j, swpTm ys j) ⟨g1, by rw [Ze8]; exact g2, by omega, fun u hu => g4 u (Zie (by omega) hu)⟩ sbB slB (by show j < j + 1; omega)
   ·rw [if_neg hc] at g1
    simp only [decide_eq_false hc]
    repeat (first | (refine wkB ?_; try intro _) | (refine sC rfl rfl ?_ ?_; focus (exact ⟨by omega, by omega⟩)) | (refine sN rfl rfl ?_ ?_; (focus (exact ⟨by omega, by omega⟩)); intro _; (try simp only [List.cons_append, List.nil_append, List.append_nil])))
    exact Zj (m + 1) (by omega) sbB (by rw [← g1]; exact List.Sublist.refl _) (by omega)
 ·have hge : m = n - 1 := by have := of_decide_eq_false h; omega
  subst hge
  repeat (refine wkB ?_; try intro _)
  exact Zam rfl (fun w hw => ⟨(), rfl, hw⟩)
abbrev SrtSTm (xs : List Ze) (s : SlS Zo 12 xs) : Type := { s' : SlS Zo 12 (srtTm xs (xs.length - 1)) // vSl s' = vSl s }
theorem Zkv (w0 w : World) (L L1 : List Blk) (xs : List Ze) (s : SlS Zo 12 xs) (T : TypeId) [hd : OwnS T s L L1] (hl : xs.length ≤ 1048576) (hok : ∀ u ∈ xs, TmOk u) (hw : Own w0 L w) :
  Calls Tryz.prog 260 [vSl s, .int .i64 0, .int .i64 xs.length, vFn 157].toArray w (RetX w0 (SrtSTm xs s) (fun _ => .tuple #[]) (fun s' => mS T s'.1 ++ L1)) := by
 have hw1 := hw.perm hd.out
 rcases s.cases T with ⟨rfl, hv, hm⟩ | ⟨b, c, sp, h1, hv, hm, hne⟩
 ·suffices h : Calls Tryz.prog 260 [.slice none 0 0, .int .i64 0, .int .i64 (([] : List Ze).length : Nat), vFn 157].toArray w (RetX w0 (SrtSTm [] s) (fun _ => .tuple #[]) (fun s' => mS T s'.1 ++ L1)) by
   rw [← hv] at h
   exact h
  refine Z1 Tryz.func260 rfl Tryz.ntmps260 rfl hw1 ?_
  repeat (refine wkB ?_; try intro _)
  refine Zq (S := Unit) (fun _ => True) (fun _ => [(2, .int .i64 (([] : List Ze).length : Nat)), (8, .int .i64 1)]) (fun _ => mS T s ++ L1) (fun _ => 0) () trivial sbB slB (fun _ _ => ?_)
  repeat (refine wkB ?_; try intro _)
  simp only [decide_eq_false (show ¬ (1 : Int) < ((([] : List Ze).length : Nat) : Int) by simp)]
  repeat (refine wkB ?_; try intro _)
  exact Zam rfl (fun w hw => ⟨⟨s, rfl⟩, rfl, hw⟩)
 ·suffices h : Calls Tryz.prog 260 [.slice (some ⟨b, 0, none⟩) xs.length c, .int .i64 0, .int .i64 xs.length, vFn 157].toArray w (RetX w0 (SrtSTm xs s) (fun _ => .tuple #[]) (fun s' => mS T s'.1 ++ L1)) by
   rw [← hv] at h
   exact h
  rw [hm] at hw1
  have hsl := Zcm xs (xs.length - 1)
  refine (Zl3 w0 w L1 b c xs.length xs sp T rfl hl hok hw1).mono fun e w' ⟨_, he, hw'⟩ => ?_
  exact ⟨⟨SlS.at_ b c sp (by rw [hsl]; exact h1) (fun h0 => hne (List.length_eq_zero_iff.1 (by rw [h0, List.length_nil] at hsl; exact hsl.symm))), by rw [hv]; show Value.slice _ (srtTm xs (xs.length - 1)).length c = _; rw [hsl]⟩, he, hw'⟩
instance ZCI (w0 : World) (L L1 : List Blk) (xs : List Ze) (s : SlS Zo 12 xs) (T : TypeId) [hd : OwnS T s L L1] : SpecX Tryz.prog w0 L 260 [vSl s, .int .i64 0, .int .i64 xs.length, vFn 157] (SrtSTm xs s) (fun _ => .tuple #[]) (fun s' => mS T s'.1 ++ L1) (xs.length ≤ 1048576 ∧ ∀ u ∈ xs, TmOk u) := ⟨fun hp w hw => Zkv w0 w L L1 xs s T hp.1 hp.2 hw⟩
theorem Zih (w0 w : World) (L L1 : List Blk) (xs : List Ze) (s : SlS Zo 12 xs) (T : TypeId) [hd : OwnS T s L L1] (hl : xs.length ≤ 19) (hok : ∀ u ∈ xs, TmOk u) (hw : Own w0 L w) :
  Calls Tryz.prog 208 [vSl s, .int .i64 xs.length, vFn 157].toArray w (RetX w0 (SrtSTm xs s) (fun _ => .tuple #[]) (fun s' => mS T s'.1 ++ L1)) := by
 refine Z1 Tryz.func208 rfl Tryz.ntmps208 rfl hw ?_
 repeat (refine wkB ?_; try intro _)
 refine Zq (S := Unit) (fun _ => True) (fun _ => [(0, vSl s), (1, .int .i64 xs.length), (2, vFn 157), (6, .int .i64 20), (7, .int .i64 0), (8, .int .i64 20)]) (fun _ => L) (fun _ => 0) () trivial sbB slB (fun _ _ => ?_)
 repeat (refine wkB ?_; try intro _)
 simp only [decide_eq_false (show ¬ (20 : Int) ≤ (xs.length : Int) by omega)]
 repeat (refine wkB ?_; try intro _)
 refine sZ rfl rfl ?_ ?_
 ·exact ⟨by omega, hok⟩
 intro s'
 repeat (refine wkB ?_; try intro _)
 refine Zq (S := Unit) (fun _ => True) (fun _ => [(1, .int .i64 xs.length), (6, .int .i64 20)]) (fun _ => mS T s'.1 ++ L1) (fun _ => 0) () trivial sbB slB (fun _ _ => ?_)
 repeat (refine wkB ?_; try intro _)
 simp only [decide_eq_false (show ¬ (20 : Int) < (xs.length : Int) by omega)]
 repeat (refine wkB ?_; try intro _)
 exact Zam rfl (fun w hw => ⟨s', rfl, hw⟩)
instance ZuC (w0 : World) (L L1 : List Blk) (xs : List Ze) (s : SlS Zo 12 xs) (T : TypeId) [hd : OwnS T s L L1] : SpecX Tryz.prog w0 L 208 [vSl s, .int .i64 xs.length, vFn 157] (SrtSTm xs s) (fun _ => .tuple #[]) (fun s' => mS T s'.1 ++ L1) (xs.length ≤ 19 ∧ ∀ u ∈ xs, TmOk u) := ⟨fun hp w hw => Zih w0 w L L1 xs s T hp.1 hp.2 hw⟩
theorem ZfT (w0 w : World) (L L1 : List Blk) (xs : List Ze) (s : SlS Zo 12 xs) (T : TypeId) [hd : OwnS T s L L1] (hl : xs.length ≤ 19) (hok : ∀ u ∈ xs, TmOk u) (hw : Own w0 L w) :
  Calls Tryz.prog 156 [vSl s, vFn 157].toArray w (RetX w0 (SrtSTm xs s) (fun _ => .tuple #[]) (fun s' => mS T s'.1 ++ L1)) := by
 refine Z1 Tryz.func156 rfl Tryz.ntmps156 rfl hw ?_
 repeat (refine wkB ?_; try intro _)
 refine sZ rfl rfl ?_ ?_
 ·exact ⟨hl, hok⟩
 intro s'
 repeat (refine wkB ?_; try intro _)
 exact Zam rfl (fun w hw => ⟨s', rfl, hw⟩)
instance ZqR (w0 : World) (L L1 : List Blk) (xs : List Ze) (s : SlS Zo 12 xs) (T : TypeId) [hd : OwnS T s L L1] : SpecX Tryz.prog w0 L 156 [vSl s, vFn 157] (SrtSTm xs s) (fun _ => .tuple #[]) (fun s' => mS T s'.1 ++ L1) (xs.length ≤ 19 ∧ ∀ u ∈ xs, TmOk u) := ⟨fun hp w hw => ZfT w0 w L L1 xs s T hp.1 hp.2 hw⟩
end Go.Vt
/- Whether two reports are compatible; far apart. Conditions: those that each statement names. -/
namespace Go.Vt
open Go.RowKit Go.Proofs
structure TkOk (z : Ze) : Prop where
 t : M z.T ≤ 8
 x : -1048576 ≤ z.Report.X ∧ z.Report.X ≤ 1048576
 y : -1048576 ≤ z.Report.Y ∧ z.Report.Y ≤ 1048576
theorem Zfn {n : Int} (h : -2147483648 ≤ n ∧ n ≤ 2147483648) : M (n : Rat) ≤ 4 := by
 rw [ZqW]
 have := ZdI (n := n) (k := 4) (by omega)
 omega
def ptT (x : Ze) : Zak := ⟨(x.Report.X : Rat), (x.Report.Y : Rat)⟩
theorem Zhy {x : Ze} (h : TkOk x) : M (ptT x).X ≤ 4 ∧ M (ptT x).Y ≤ 4 := ⟨Zfn (by have := h.x; omega), Zfn (by have := h.y; omega)⟩
instance ZBx (x : Ze) : SpecC Tryz.prog 92 [vTm x] (vP (ptT x)) (TkOk x) := ⟨fun hp w => by
 have h1 : (-9223372036854775808 ≤ x.Report.X ∧ x.Report.X ≤ 9223372036854775807) ∧ (-9223372036854775808 ≤ x.Report.Y ∧ x.Report.Y ≤ 9223372036854775807) := by
  have := hp.x
  have := hp.y
  omega
 refine Zg Tryz.func92 rfl Tryz.ntmps92 rfl ?_
 repeat (first | (refine wkM ?_; try intro _) | (refine sC rfl rfl ?_ ?_; focus (exact h1)) | (refine sN rfl rfl ?_ ?_; (focus (exact h1)); intro _; (try simp only [List.cons_append, List.nil_append, List.append_nil])))
 exact ZV rfl rfl (fun w hw => Zh hw)⟩
theorem ZeO (a b : Rat) : 0 < (a - b).num.sign ↔ 0 < a - b := by
 rw [ZjI, ZqQ]
 constructor <;> intro h <;> grind
def cpt (v : Int) (a b : Ze) : Bool := decide (0 < b.T - a.T) && decide (d2 (ptT a) (ptT b) ≤ ((v : Rat) * (b.T - a.T)) * ((v : Rat) * (b.T - a.T)))
instance ZxC (a b : Ze) (s : ZN) : SpecC Tryz.prog 91 [vTm a, vTm b, .agg (Zn s)] (.bool (cpt s.MaxSpeed a b)) (TkOk a ∧ TkOk b ∧ (-1048576 ≤ s.MaxSpeed ∧ s.MaxSpeed ≤ 1048576)) := ⟨fun hp w => by
 obtain ⟨ha, hb, hv⟩ := hp
 have h1 : M b.T ≤ LQ ∧ M a.T ≤ LQ := ⟨Nat.le_trans hb.t (by decide), Nat.le_trans ha.t (by decide)⟩
 have g1 := MB.mk ha.t
 have g2 := MB.mk hb.t
 have g3 := MB.mk (Zfn (n := s.MaxSpeed) (by omega))
 have g4 := MB.mk (Zhy ha).1
 have g5 := MB.mk (Zhy ha).2
 have g6 := MB.mk (Zhy hb).1
 have g7 := MB.mk (Zhy hb).2
 have h2 : M (s.MaxSpeed : Rat) ≤ LQ ∧ M (b.T - a.T) ≤ LQ := ⟨MB.lt rfl, MB.lt rfl⟩
 have h3 : M ((s.MaxSpeed : Rat) * (b.T - a.T)) ≤ LQ ∧ M ((s.MaxSpeed : Rat) * (b.T - a.T)) ≤ LQ := ⟨MB.lt rfl, MB.lt rfl⟩
 have h4 : M (d2 (ptT a) (ptT b)) ≤ LQ ∧ M (((s.MaxSpeed : Rat) * (b.T - a.T)) * ((s.MaxSpeed : Rat) * (b.T - a.T))) ≤ LQ := ⟨MB.lt rfl, MB.lt rfl⟩
 have h5 : M (ptT a).X ≤ 8589934592 ∧ M (ptT a).Y ≤ 8589934592 ∧ M (ptT b).X ≤ 8589934592 ∧ M (ptT b).Y ≤ 8589934592 := ⟨MB.lt rfl, MB.lt rfl, MB.lt rfl, MB.lt rfl⟩
 have h6 : -9223372036854775808 ≤ s.MaxSpeed ∧ s.MaxSpeed ≤ 9223372036854775807 := by omega
 refine Zg Tryz.func91 rfl Tryz.ntmps91 rfl ?_
 repeat (first | (refine wkM ?_; try intro _) | (refine sC rfl rfl ?_ ?_; focus (exact h1)) | (refine sN rfl rfl ?_ ?_; (focus (exact h1)); intro _; (try simp only [List.cons_append, List.nil_append, List.append_nil])))
 (refine ZhA [0, 1, 2, 3, 4] [5] [6] (_) (h := ?_); refine wkI ?_)
 (repeat (first | refine wkH ?_ | (refine tC rfl rfl ?_ ?_; focus (first | exact h6 | exact h2))))
 repeat (refine wkT ?_; try intro _)
 repeat (refine wkM ?_; try intro _)
 unfold cpt
 by_cases h0 : 0 < b.T - a.T
 ·refine jD 16 16 (h := ?_)
  (repeat (refine wkH ?_))
  simp only [decide_eq_true ((ZeO b.T a.T).2 h0)]
  (repeat (first | refine wkH ?_ | (refine tC rfl rfl ?_ ?_; focus (first | exact ha | exact hb | exact h5 | exact h3 | exact h4))))
  refine Zr ?_
  refine Zt ?_
  repeat (refine wkM ?_; try intro _)
  rw [decide_eq_true h0, Bool.true_and, show decide (d2 (ptT a) (ptT b) ≤ ((s.MaxSpeed : Rat) * (b.T - a.T)) * ((s.MaxSpeed : Rat) * (b.T - a.T))) = decide (cq (d2 (ptT a) (ptT b)) (((s.MaxSpeed : Rat) * (b.T - a.T)) * ((s.MaxSpeed : Rat) * (b.T - a.T))) ≤ 0) from decide_eq_decide.2 ZqU.symm]
  exact Zf rfl rfl (fun w hw => Zh hw)
 ·refine jD 16 16 (h := ?_)
  (repeat (refine wkH ?_))
  simp only [decide_eq_false (fun h => h0 ((ZeO b.T a.T).1 h))]
  (repeat (refine wkH ?_))
  refine Zr ?_
  refine Zt ?_
  repeat (refine wkM ?_; try intro _)
  rw [decide_eq_false h0, Bool.false_and]
  exact Zf rfl rfl (fun w hw => Zh hw)⟩
def farT (g : Int) (a b : Ze) : Bool := decide ((g : Rat) < b.T - a.T)
instance ZGJ (a b : Ze) (s : ZN) : SpecC Tryz.prog 65 [vTm a, vTm b, .agg (Zn s)] (.bool (farT s.MaxGap a b)) (TkOk a ∧ TkOk b ∧ (-2147483648 ≤ s.MaxGap ∧ s.MaxGap ≤ 2147483648)) := ⟨fun hp w => by
 obtain ⟨ha, hb, hv⟩ := hp
 have h1 : M b.T ≤ LQ ∧ M a.T ≤ LQ := ⟨Nat.le_trans hb.t (by decide), Nat.le_trans ha.t (by decide)⟩
 have g1 := MB.mk ha.t
 have g2 := MB.mk hb.t
 have h2 : M (b.T - a.T) ≤ LQ ∧ M (s.MaxGap : Rat) ≤ LQ := ⟨MB.lt rfl, Nat.le_trans (Zfn hv) (by decide)⟩
 have h3 : -9223372036854775808 ≤ s.MaxGap ∧ s.MaxGap ≤ 9223372036854775807 := by omega
 unfold farT
 rw [show decide ((s.MaxGap : Rat) < b.T - a.T) = decide (0 < cq (b.T - a.T) (s.MaxGap : Rat)) from decide_eq_decide.2 ZqQ.symm]
 refine Zg Tryz.func65 rfl Tryz.ntmps65 rfl ?_
 repeat (refine wkM ?_; try intro _)
 (refine jD 11 11 (h := ?_); (repeat (first | refine wkH ?_ | (refine tC rfl rfl ?_ ?_; focus (first | exact h1 | exact h2 | exact h3)))); refine Zr ?_; (repeat (refine Z6 ?_; intro _)); refine Zt ?_)
 repeat (refine wkM ?_; try intro _)
 exact Zf rfl rfl (fun w hw => Zh hw)⟩
end Go.Vt
/- Longest chains, plainly: the table from the end, and the first one among the longest. Conditions: those that each statement names. -/
namespace Go.Vt
section
variable (C : Nat → Nat → Bool) (n : Nat)
def innB (i : Nat) : Nat → List Nat → Nat → Nat
 | _, [], a => a
 | k, b :: r, a => innB i (k + 1) r (if C i k then max a (b + 1) else a)
def bestL : Nat → List Nat
 | 0 => []
 | m + 1 => innB C (n - (m + 1)) (n - m) (bestL m) 1 :: bestL m
theorem Zc0 : ∀ m, (bestL C n m).length = m
 | 0 => rfl
 | m + 1 => congrArg Nat.succ (Zc0 m)
def mostL : List Nat → Nat
 | [] => 0
 | b :: r => max (mostL r) b
def bestA (i : Nat) : Nat := (bestL C n n).getD i 0
theorem Zry (i : Nat) : ∀ (r : List Nat) (k a : Nat), a ≤ innB C i k r a
 | [], _, _ => Nat.le_refl _
 | b :: r, k, a => by
  have := Zry i r (k + 1) (if C i k then max a (b + 1) else a)
  simp only [innB]
  split at this <;> simp_all <;> omega
theorem ZkA (i : Nat) : ∀ (r : List Nat) (k a : Nat), innB C i k r a = a ∨ ∃ j, j < r.length ∧ C i (k + j) = true ∧ innB C i k r a = r.getD j 0 + 1
 | [], _, _ => .inl rfl
 | b :: r, k, a => by
  simp only [innB]
  rcases ZkA i r (k + 1) (if C i k then max a (b + 1) else a) with h | ⟨j, h1, h2, h3⟩
  ·rw [h]
   by_cases hc : C i k = true
   ·rw [if_pos hc]
    rcases Nat.le_total (b + 1) a with h4 | h4
    ·exact .inl (by omega)
    ·exact .inr ⟨0, by simp, by simpa using hc, by simp; omega⟩
   ·rw [if_neg hc]
    exact .inl rfl
  ·exact .inr ⟨j + 1, by simpa using h1, by rw [show k + (j + 1) = k + 1 + j by omega]; exact h2, by simpa using h3⟩
theorem ZhX : ∀ (m j : Nat), j < m → m ≤ n → (bestL C n m).getD j 0 = bestA C n (n - m + j) := by
 have key : ∀ (d m : Nat), m + d ≤ n → ∀ j, (bestL C n (m + d)).getD (d + j) 0 = (bestL C n m).getD j 0 := by
  intro d
  induction d with
  | zero => intro m _ j; simp
  | succ d ih =>
   intro m hm j
   rw [show m + (d + 1) = (m + d) + 1 by omega, show d + 1 + j = (d + j) + 1 by omega]
   simp only [bestL, List.getD_cons_succ]
   exact ih m (by omega) j
 intro m j hj hm
 have := key (n - m) m (by omega) j
 rw [show m + (n - m) = n by omega] at this
 exact this.symm
theorem Zph {i : Nat} (h : i < n) : bestA C n i = innB C i (i + 1) (bestL C n (n - i - 1)) 1 := by
 have := ZhX C n (n - i) 0 (by omega) (by omega)
 rw [show n - (n - i) + 0 = i by omega] at this
 rw [← this, show n - i = (n - i - 1) + 1 by omega]
 simp only [bestL, List.getD_cons_zero]
 rw [show n - (n - i - 1 + 1) = i by omega, show n - (n - i - 1) = i + 1 by omega]
 rfl
theorem Zqg {i : Nat} (h : i < n) : bestA C n i = 1 ∨ ∃ k, i < k ∧ k < n ∧ C i k = true ∧ bestA C n i = bestA C n k + 1 := by
 rw [Zph C n h]
 rcases ZkA C i (bestL C n (n - i - 1)) (i + 1) 1 with h1 | ⟨j, h1, h2, h3⟩
 ·exact .inl h1
 ·rw [Zc0] at h1
  rw [ZhX C n (n - i - 1) j (by omega) (by omega), show n - (n - i - 1) + j = i + 1 + j by omega] at h3
  exact .inr ⟨i + 1 + j, by omega, by omega, h2, h3⟩
theorem Zi9 : ∀ (l : List Nat) (j : Nat), l.getD j 0 ≤ mostL l
 | [], _ => by simp [mostL]
 | b :: l, 0 => by simp [mostL]; omega
 | b :: l, j + 1 => by
  have := Zi9 l j
  simp only [mostL, List.getD_cons_succ]
  omega
theorem Zjv : ∀ (l : List Nat), mostL l = 0 ∨ ∃ j, j < l.length ∧ l.getD j 0 = mostL l
 | [] => .inl rfl
 | b :: l => by
  simp only [mostL]
  rcases Nat.le_total (mostL l) b with h | h
  ·exact .inr ⟨0, by simp, by simp; omega⟩
  ·rcases Zjv l with h1 | ⟨j, h1, h2⟩
   ·exact .inl (by omega)
   ·exact .inr ⟨j + 1, by simpa using h1, by rw [List.getD_cons_succ, h2, Nat.max_eq_left h]⟩
def mostA : Nat := mostL (bestL C n n)
def outS (s : List Nat × Nat) (i : Nat) : List Nat × Nat :=
 if bestA C n i = s.2 ∧ 0 < s.2 ∧ (s.1 = [] ∨ C (s.1.getLastD 0) i = true) then (s.1 ++ [i], s.2 - 1) else s
def outN : Nat → List Nat × Nat
 | 0 => ([], mostA C n)
 | i + 1 => outS C n (outN i) i
def chainL : List Nat := (outN C n n).1
structure OutOk (i : Nat) (s : List Nat × Nat) : Prop where
 len : s.1.length + s.2 = mostA C n
 lt : ∀ k ∈ s.1, k < i
 ok : ∀ j, j + 1 < s.1.length → C (s.1.getD j 0) (s.1.getD (j + 1) 0) = true
 go : 0 < s.2 → ∃ j, i ≤ j ∧ j < n ∧ bestA C n j = s.2 ∧ (s.1 = [] ∨ C (s.1.getLastD 0) j = true)
theorem Zdp {l : List Nat} {x j : Nat} (h : j < l.length) : (l ++ [x]).getD j 0 = l.getD j 0 := by
 simp [List.getD_eq_getElem?_getD, List.getElem?_append_left h]
theorem Zjg (l : List Nat) (x : Nat) : (l ++ [x]).getD l.length 0 = x := by
 simp [List.getD_eq_getElem?_getD]
theorem Zc6 {l : List Nat} (h : l ≠ []) : l.getLastD 0 = l.getD (l.length - 1) 0 := by
 cases l with
 | nil => exact (h rfl).elim
 | cons a l => rw [List.getLastD_cons, List.getD_eq_getElem?_getD, ← List.getLast?_eq_getElem?]; simp [List.getLast?_cons]
theorem ZfP : ∀ i, i ≤ n → OutOk C n i (outN C n i)
 | 0, _ => by
  refine ⟨by simp [outN], by simp [outN], by simp [outN], fun h => ?_⟩
  rcases Zjv (bestL C n n) with h1 | ⟨j, h1, h2⟩
  ·have : mostA C n = 0 := h1
   simp only [outN] at h
   omega
  ·rw [Zc0] at h1
   exact ⟨j, by omega, h1, h2, .inl rfl⟩
 | i + 1, hi => by
  have ih := ZfP i (by omega)
  simp only [outN]
  generalize outN C n i = s at ih
  obtain ⟨i1, i2, i3, i4⟩ := ih
  unfold outS
  split
  ·rename_i hc
   obtain ⟨h1, h2, h3⟩ := hc
   refine ⟨by simp; omega, fun k hk => ?_, fun j hj => ?_, fun h => ?_⟩
   ·rcases List.mem_append.1 hk with hk | hk
    ·have := i2 k hk; omega
    ·have : k = i := by simpa using hk
     omega
   ·simp only [List.length_append, List.length_cons, List.length_nil] at hj
    rcases Nat.lt_or_ge (j + 1) s.1.length with h4 | h4
    ·rw [Zdp h4, Zdp (by omega)]
     exact i3 j h4
    ·have e : j + 1 = s.1.length := by omega
     rw [e, Zjg, Zdp (by omega)]
     have hne : s.1 ≠ [] := fun h0 => by rw [h0] at e; simp at e
     rcases h3 with h3 | h3
     ·exact (hne h3).elim
     ·rw [Zc6 hne, show s.1.length - 1 = j by omega] at h3
      exact h3
   ·simp only at h
    rcases Zqg C n (show i < n by omega) with h4 | ⟨k, k1, k2, k3, k4⟩
    ·omega
    ·exact ⟨k, by omega, k2, by simp only; omega, .inr (by simpa using k3)⟩
  ·rename_i hc
   refine ⟨i1, fun k hk => by have := i2 k hk; omega, i3, fun h => ?_⟩
   obtain ⟨j, j1, j2, j3, j4⟩ := i4 h
   refine ⟨j, ?_, j2, j3, j4⟩
   rcases Nat.lt_or_ge i j with h5 | h5
   ·exact h5
   ·have e : j = i := by omega
    subst e
    exact (hc ⟨j3, h, j4⟩).elim
theorem ZnG : ∀ k ∈ chainL C n, k < n := (ZfP C n n (Nat.le_refl _)).lt
theorem ZnC {j : Nat} (h : j + 1 < (chainL C n).length) : C ((chainL C n).getD j 0) ((chainL C n).getD (j + 1) 0) = true := (ZfP C n n (Nat.le_refl _)).ok j h
end
end Go.Vt
/- The longest chain, walked. Conditions: those that each statement names. -/
namespace Go.Vt
open Go.RowKit Go.Proofs
section
variable {P : Program} {w0 : World} {n : Nat} {L : List Blk} {E : Env} {x y : Operand} {T : TypeId} {a b : Int}
instance ZGZ [hx : IsC (evl E x) (.int .i64 a)] [hy : IsC (evl E y) (.int .i64 b)] : YlC P w0 n L E (.call ⟨.builtin .max, #[x, y], #[T, T]⟩) (.int .i64 (if b > a then b else a)) := ⟨fun d ty pos aft gd => ⟨fun c w hc _ => by
 have h1 : ∀ cs : Array Bool, (builtin .max #[T, T] ty cs #[.int .i64 a, .int .i64 b]).run P w = .ok (.value (.int .i64 (if b > a then b else a))) w := fun cs => by
  show Sem.run P (do pure (Next.value (← Builtin.max_ #[T, T] ty #[.int .i64 a, .int .i64 b])) : Sem Next) w = _
  rw [Sem.run_bind, run_max_int2]
  rfl
 have e1 := hc.ev (isE (h := hx))
 have e2 := hc.ev (isE (h := hy))
 have e : (execOp c.eval ⟨d, .call ⟨.builtin .max, #[x, y], #[T, T]⟩, ty, pos, aft, gd⟩).run P w = .ok (.value (.int .i64 (if b > a then b else a))) w := by
  simp only [execOp, resolve, Sem.run_bind, Sem.run_pure, Result.andThen, invoke, List.map_toArray, List.map_cons, List.map_nil, e1, e2]
  exact h1 _
 unfold calm
 rw [e]
 exact ⟨rfl, Ext.refl _⟩⟩⟩
end
def cCp (v : Int) (l : List Ze) (i k : Nat) : Bool := cpt v (gi l (i : Int)) (gi l (k : Int))
theorem Zls (C : Nat → Nat → Bool) (i : Nat) : ∀ (r : List Nat) (k a m : Nat), (∀ b ∈ r, b ≤ m) → a ≤ m + 1 → innB C i k r a ≤ m + 1
 | [], _, _, _, _, h => h
 | b :: r, k, a, m, hr, h => by
  simp only [innB]
  have hb := hr b (.head _)
  refine Zls C i r _ _ m (fun c hc => hr c (.tail _ hc)) ?_
  split <;> omega
theorem Zex (C : Nat → Nat → Bool) (n : Nat) : ∀ m, ∀ b ∈ bestL C n m, b ≤ m
 | 0, b, h => by cases h
 | m + 1, b, h => by
  rcases List.mem_cons.1 h with rfl | h
  ·exact Zls C _ _ _ _ _ (Zex C n m) (by omega)
  ·have := Zex C n m b h
   omega
theorem Zgj {m : Nat} : ∀ {l : List Nat}, (∀ b ∈ l, b ≤ m) → mostL l ≤ m
 | [], _ => Nat.zero_le _
 | b :: l, h => by
  have h1 := h b (.head _)
  have h2 := Zgj (l := l) fun c hc => h c (.tail _ hc)
  simp only [mostL]
  omega
def cI (r : List Nat) : List Int := r.map fun x : Nat => (x : Int)
def tabL (i : Nat) (r : List Nat) : List Int := List.replicate i 0 ++ cI r
theorem ZjG (r : List Nat) : (cI r).length = r.length := List.length_map _
theorem Zde (i : Nat) (r : List Nat) : (tabL i r).length = i + r.length := by simp [tabL, ZjG]
theorem ZpS (i : Nat) (r : List Nat) (x : Nat) : (tabL (i + 1) r).set i (x : Int) = tabL i (x :: r) := by
 unfold tabL
 rw [List.replicate_succ', List.append_assoc, List.set_append_right _ _ (by simp)]
 simp [cI]
theorem Zsi (i : Nat) (r : List Nat) (a x : Nat) : (tabL i (a :: r)).set i (x : Int) = tabL i (x :: r) := by
 unfold tabL
 rw [List.set_append_right _ _ (by simp)]
 simp [cI]
theorem ZtB (i : Nat) (r : List Nat) (a : Nat) : gi (tabL i (a :: r)) (i : Int) = (a : Int) := by
 rw [Zi (by rw [Zde]; simp)]
 simp [tabL, cI]
theorem ZrC (i : Nat) (r : List Nat) (a j : Nat) (h : j < r.length) : gi (tabL i (a :: r)) ((i + 1 + j : Nat) : Int) = ((r.getD j 0 : Nat) : Int) := by
 rw [Zi (by rw [Zde]; simp; omega)]
 unfold tabL
 rw [List.getElem_append_right (by simp; omega)]
 simp only [cI, List.length_replicate, List.map_cons, show i + 1 + j - i = j + 1 by omega, List.getElem_cons_succ, List.getElem_map, List.getD_eq_getElem?_getD, List.getElem?_eq_getElem h, Option.getD_some]
set_option maxHeartbeats 8000000 in
theorem Zmt (v : Value) (l : List Ze) (s : ZN) (w : World) (hv : ArgS w v Zo l) (hl : l.length ≤ 4096) (hok : ∀ x ∈ l, TkOk x) (hs : -1048576 ≤ s.MaxSpeed ∧ s.MaxSpeed ≤ 1048576) :
  Calls Tryz.prog 41 [v, .agg (Zn s)].toArray w (RetM (SlS (eI .i64) 1 (cI (chainL (cCp s.MaxSpeed l) l.length))) (fun o => vSl o) (fun o => mS 3 o) w) := by
 obtain ⟨p, cp, rfl⟩ := hv.form
 have hC : ∀ i k, cCp s.MaxSpeed l i k = cpt s.MaxSpeed (gi l (i : Int)) (gi l (k : Int)) := fun _ _ => rfl
 generalize hCe : cCp s.MaxSpeed l = C at *
 generalize hn : l.length = n at *
 have hgo : ∀ i : Nat, i < n → TkOk (gi l (i : Int)) := fun i hi => hok _ (ZZ (by omega))
 refine Zg Tryz.func41 rfl Tryz.ntmps41 rfl ?_
 repeat (refine wkM ?_; try intro _)
 refine sM rfl rfl ⟨by omega, by omega⟩ (fun b5 => ?_)
 repeat (refine wkM ?_; try intro _)
 rename_i b3
 refine Zq (S := Nat) (fun m => m ≤ n) (fun m => [(0, .slice p n cp), (3, .pointer (some ⟨b3, 0, none⟩)), (5, .slice (some ⟨b5, 0, none⟩) n n), (6, .int .i64 (mostL (bestL C n m))), (7, .int .i64 ((n : Int) - 1 - m))]) (fun m => [⟨b5, row (eI .i64) (tabL (n - m) (bestL C n m)) [], 3⟩, ⟨b3, Zn s, 32⟩]) (fun m => n - m) 0 (Nat.zero_le _) ?_ ?_ (fun m hm => ?_)
 ·exact sbB
 ·have e : tabL (n - 0) (bestL C n 0) = List.replicate n 0 := by simp [tabL, cI, bestL]
  simp only [e]
  exact slB
 repeat (refine wkM ?_; try intro _)
 refine Zl rfl (fun h => ?_) (fun h => ?_)
 ·have hlt : m < n := by have := of_decide_eq_true h; omega
  obtain ⟨i, hi⟩ : ∃ i, n = m + i + 1 := ⟨n - m - 1, by omega⟩
  have e7 : (n : Int) - 1 - (m : Int) = (i : Int) := by omega
  have e8 : n - m = i + 1 := by omega
  have hbl := Zex C n m
  have hbn := Zc0 C n m
  have hnx : bestL C n (m + 1) = innB C i (i + 1) (bestL C n m) 1 :: bestL C n m := by
   rw [bestL, show n - (m + 1) = i by omega, show n - m = i + 1 by omega]
  have hmo := Zgj hbl
  generalize bestL C n m = r at *
  rw [e8]
  simp only [e7]
  have ht1 := Zde (i + 1) r
  have hset : (tabL (i + 1) r).set ((i : Int)).toNat (1 : Int) = tabL i (1 :: r) := by
   rw [Int.toNat_natCast]
   exact ZpS i r 1
  repeat (refine wkM ?_; try intro _)
  simp only [hset]
  refine Zq (S := Nat × Nat) (fun q => q.1 ≤ m ∧ innB C i (i + 1) r 1 = innB C i (i + 1 + q.1) (r.drop q.1) q.2 ∧ q.2 ≤ m + 1) (fun q => [(0, .slice p n cp), (3, .pointer (some ⟨b3, 0, none⟩)), (5, .slice (some ⟨b5, 0, none⟩) n n), (6, .int .i64 (mostL r)), (7, .int .i64 (i : Nat)), (8, .int .i64 ((i + 1 + q.1 : Nat)))]) (fun q => [⟨b5, row (eI .i64) (tabL i (q.2 :: r)) [], 3⟩, ⟨b3, Zn s, 32⟩]) (fun q => m - q.1) (0, 1) ⟨Nat.zero_le _, rfl, by show 1 ≤ m + 1; omega⟩ sbB slB (fun q hq => ?_)
  obtain ⟨j, a⟩ := q
  obtain ⟨hj, hin, ha⟩ := hq
  simp only at hj hin ha ⊢
  have ht2 := Zde i (a :: r)
  rw [List.length_cons] at ht2
  have hai := ZtB i r a
  repeat (refine wkM ?_; try intro _)
  refine Zl rfl (fun h => ?_) (fun h => ?_)
  ·have hjm : j < m := by have := of_decide_eq_true h; omega
   have hget := ZrC i r a j (by omega)
   have hb := hbl (r.getD j 0) (by rw [List.getD_eq_getElem?_getD, List.getElem?_eq_getElem (by omega)]; exact List.getElem_mem _)
   have hdr : r.drop j = r.getD j 0 :: r.drop (j + 1) := by
    rw [List.drop_eq_getElem_cons (by omega), List.getD_eq_getElem?_getD, List.getElem?_eq_getElem (by omega)]
    rfl
   rw [hdr] at hin
   simp only [innB] at hin
   have hne : l ≠ [] := fun h0 => by rw [h0] at hn; simp at hn; omega
   obtain ⟨bw, ow, cw, hvw, hcw, hrow⟩ := hv.blk (k := 11) hne []
   injection hvw with e1 e2 e3
   subst e1
   subst e3
   have hrow' : ∀ L, RowC w L bw ow Ze Zo l := fun L => ⟨fun w' hw' => hrow.out w' (hw'.sub (List.nil_sublist _))⟩
   have k1 := hgo i (by omega)
   have k2 := hgo (i + 1 + j) (by omega)
   have hCk := hC i (i + 1 + j)
   generalize r.getD j 0 = bb at *
   repeat (refine wkM ?_; try intro _)
   by_cases hge : a ≤ bb
   ·refine jD 21 21 (h := ?_)
    (repeat (refine wkH ?_))
    simp only [hget, hai, decide_eq_true (show (a : Int) ≤ (bb : Int) by omega)]
    (repeat (first | refine wkH ?_ | (refine tC rfl rfl ?_ ?_; focus (exact ⟨k1, k2, hs⟩))))
    refine Zr ?_
    refine Zt ?_
    simp only [← hCk]
    cases hc : C i (i + 1 + j)
    ·rw [hc, if_neg (by decide)] at hin
     repeat (refine wkO ?_; try intro _)
     exact Zj (j + 1, a) ⟨hjm, by rw [hin]; rfl, ha⟩ sbB slB (by show m - (j + 1) < m - j; omega)
    ·rw [hc, if_pos rfl, Nat.max_eq_right (by omega)] at hin
     have hs2 : (tabL i (a :: r)).set ((i : Int)).toNat ((bb : Int) + 1) = tabL i ((bb + 1) :: r) := by
      rw [Int.toNat_natCast]
      exact Zsi i r a (bb + 1)
     repeat (refine wkM ?_; try intro _)
     simp only [hget]
     repeat (refine wkM ?_; try intro _)
     simp only [hs2]
     repeat (refine wkO ?_; try intro _)
     exact Zj (j + 1, bb + 1) ⟨hjm, by rw [hin]; rfl, by show bb + 1 ≤ m + 1; omega⟩ sbB slB (by show m - (j + 1) < m - j; omega)
   ·refine jD 21 21 (h := ?_)
    (repeat (refine wkH ?_))
    simp only [hget, hai, decide_eq_false (show ¬ (a : Int) ≤ (bb : Int) by omega)]
    (repeat (refine wkH ?_))
    refine Zr ?_
    refine Zt ?_
    have hin' : innB C i (i + 1) r 1 = innB C i (i + 1 + j + 1) (r.drop (j + 1)) a := by
     rw [hin]
     split
     ·rw [Nat.max_eq_left (by omega)]
     ·rfl
    repeat (refine wkO ?_; try intro _)
    exact Zj (j + 1, a) ⟨hjm, by rw [hin']; rfl, ha⟩ sbB slB (by show m - (j + 1) < m - j; omega)
  ·have hge : j = m := by have := of_decide_eq_false h; omega
   subst hge
   rw [← hbn, List.drop_length, hbn] at hin
   simp only [innB] at hin
   rw [hin] at hnx
   have hmx : (if (a : Int) > (mostL r : Int) then (a : Int) else (mostL r : Int)) = ((mostL (bestL C n (j + 1)) : Nat) : Int) := by
    rw [hnx, mostL]
    split <;> omega
   have e9 : n - (j + 1) = i := by omega
   repeat (refine wkM ?_; try intro _)
   simp only [hai, hmx]
   exact Zj (j + 1) hlt sbB (by simp only [e9, hnx]; exact List.Sublist.refl _) (by omega)
 ·have hge : m = n := by have := of_decide_eq_false h; omega
  subst hge
  have hbn := Zc0 C m m
  have hat : ∀ i : Nat, i < m → gi (tabL 0 (bestL C m m)) (i : Int) = ((bestA C m i : Nat) : Int) := fun i hi => by
   rw [Zi (by rw [Zde]; omega)]
   simp only [tabL, List.replicate_zero, List.nil_append, cI, List.getElem_map, bestA, List.getD_eq_getElem?_getD, List.getElem?_eq_getElem (show i < (bestL C m m).length by omega), Option.getD_some]
  have hmo := Zgj (Zex C m m)
  have htl := Zde 0 (bestL C m m)
  rw [Nat.sub_self]
  repeat (refine wkM ?_; try intro _)
  have hO := fun i (hi : i ≤ m) => ZfP C m i hi
  have hmA : mostL (bestL C m m) = mostA C m := rfl
  have hB : ∀ i, bestA C m i ≤ m := fun i => by
   have : bestA C m i ≤ mostA C m := Zi9 _ _
   omega
  generalize tabL 0 (bestL C m m) = tb at *
  refine Zq (S := (i : Nat) × SlS (eI .i64) 1 (cI (outN C m i).1)) (fun q => q.1 ≤ m) (fun q => [(0, .slice p m cp), (3, .pointer (some ⟨b3, 0, none⟩)), (5, .slice (some ⟨b5, 0, none⟩) m m), (6, .int .i64 ((outN C m q.1).2 : Nat)), (9, vSl q.2), (68, .int .i64 m), (69, .int .i64 (q.1 : Nat))]) (fun q => mS 3 q.2 ++ [⟨b5, row (eI .i64) tb [], 3⟩, ⟨b3, Zn s, 32⟩]) (fun q => m - q.1) ⟨0, SlS.no⟩ (Nat.zero_le _) sbB suB (fun q hq => ?_)
  obtain ⟨i, o⟩ := q
  simp only at hq ⊢
  have hOi := hO i hq
  have hnx : outN C m (i + 1) = outS C m (outN C m i) i := rfl
  unfold outS at hnx
  have hlen := hOi.len
  repeat (refine wkM ?_; try intro _)
  refine Zl rfl (fun h => ?_) (fun h => ?_)
  ·have hlt : i < m := by have := of_decide_eq_true h; omega
   have hai := hat i hlt
   have hol := ZjG (outN C m i).1
   repeat (refine wkM ?_; try intro _)
   refine ZaR (S := Bool) (fun q => q = decide (bestA C m i = (outN C m i).2 ∧ 0 < (outN C m i).2 ∧ ((outN C m i).1 = [] ∨ C ((outN C m i).1.getLastD 0) i = true))) (fun q => [(0, .slice p m cp), (3, .pointer (some ⟨b3, 0, none⟩)), (5, .slice (some ⟨b5, 0, none⟩) m m), (6, .int .i64 ((outN C m i).2 : Nat)), (9, vSl o), (10, .int .i64 (i : Nat)), (68, .int .i64 m), (69, .int .i64 (i : Nat)), (103, .bool q)]) (fun _ => mS 3 o ++ [⟨b5, row (eI .i64) tb [], 3⟩, ⟨b3, Zn s, 32⟩]) ?_ (fun q hq => ?_)
   ·have hne : l ≠ [] := fun h0 => by rw [h0] at hn; simp at hn; omega
    obtain ⟨bw, ow, cw, hvw, hcw, hrow⟩ := hv.blk (k := 11) hne []
    injection hvw with e1 e2 e3
    subst e1
    subst e3
    have hrow' : ∀ L, RowC w L bw ow Ze Zo l := fun L => ⟨fun w' hw' => hrow.out w' (hw'.sub (List.nil_sublist _))⟩
    have k2 := hgo i hlt
    rcases o.cases 3 with ⟨x0, x1, x2⟩ | ⟨bo, co, sp, hc1, x1, x2, xne⟩
    ·have hout : (outN C m i).1 = [] := by
      have := congrArg List.length x0
      rw [hol] at this
      exact List.length_eq_zero_iff.1 this
     simp only [x1, x2, List.cons_append, List.nil_append]
     by_cases c1 : bestA C m i = (outN C m i).2
     ·by_cases c2 : 0 < (outN C m i).2
      ·have hd : decide (bestA C m i = (outN C m i).2 ∧ 0 < (outN C m i).2 ∧ ((outN C m i).1 = [] ∨ C ((outN C m i).1.getLastD 0) i = true)) = true := decide_eq_true ⟨c1, c2, .inl hout⟩
       refine jD 32 32 (h := ?_)
       (repeat (refine wkH ?_))
       simp only [hai, decide_eq_true (show ((bestA C m i : Nat) : Int) = ((outN C m i).2 : Int) by omega)]
       (repeat (refine wkH ?_))
       simp only [decide_eq_true (show (0 : Int) < ((outN C m i).2 : Int) by omega)]
       (repeat (refine wkH ?_))
       refine Zr ?_
       refine Zt ?_
       repeat (refine wkM ?_; try intro _)
       exact ZT true hd.symm sbB suB
      ·have hd : decide (bestA C m i = (outN C m i).2 ∧ 0 < (outN C m i).2 ∧ ((outN C m i).1 = [] ∨ C ((outN C m i).1.getLastD 0) i = true)) = false := decide_eq_false fun h => c2 h.2.1
       refine jD 32 32 (h := ?_)
       (repeat (refine wkH ?_))
       simp only [hai, decide_eq_true (show ((bestA C m i : Nat) : Int) = ((outN C m i).2 : Int) by omega)]
       (repeat (refine wkH ?_))
       simp only [decide_eq_false (show ¬ (0 : Int) < ((outN C m i).2 : Int) by omega)]
       (repeat (refine wkH ?_))
       refine Zr ?_
       refine Zt ?_
       repeat (refine wkM ?_; try intro _)
       exact ZT false hd.symm sbB suB
     ·have hd : decide (bestA C m i = (outN C m i).2 ∧ 0 < (outN C m i).2 ∧ ((outN C m i).1 = [] ∨ C ((outN C m i).1.getLastD 0) i = true)) = false := decide_eq_false fun h => c1 h.1
      refine jD 32 32 (h := ?_)
      (repeat (refine wkH ?_))
      simp only [hai, decide_eq_false (show ¬ ((bestA C m i : Nat) : Int) = ((outN C m i).2 : Int) by omega)]
      (repeat (refine wkH ?_))
      refine Zr ?_
      refine Zt ?_
      repeat (refine wkM ?_; try intro _)
      exact ZT false hd.symm sbB suB
    ·have hone : (outN C m i).1 ≠ [] := fun h0 => by rw [h0] at xne; exact xne rfl
     have hpos : 0 < (outN C m i).1.length := List.length_pos_iff.2 hone
     have hlm : (outN C m i).1.getLastD 0 < m := by
      have h1 : (outN C m i).1.getLastD 0 ∈ (outN C m i).1 := by
       rw [Zc6 hone, List.getD_eq_getElem?_getD, List.getElem?_eq_getElem (by omega)]
       exact List.getElem_mem _
      have := hOi.lt _ h1
      omega
     have hla : gi (cI (outN C m i).1) (((cI (outN C m i).1).length : Int) - 1) = (((outN C m i).1.getLastD 0 : Nat) : Int) := by
      rw [hol, show (((outN C m i).1.length : Int) - 1) = (((outN C m i).1.length - 1 : Nat) : Int) by omega, Zi (by rw [hol]; omega), Zc6 hone]
      simp only [cI, List.getElem_map, List.getD_eq_getElem?_getD, List.getElem?_eq_getElem (show (outN C m i).1.length - 1 < (outN C m i).1.length by omega), Option.getD_some]
     have k1 := hgo _ hlm
     have hCk := hC ((outN C m i).1.getLastD 0) i
     simp only [x1, x2, List.cons_append, List.nil_append]
     by_cases c1 : bestA C m i = (outN C m i).2
     ·by_cases c2 : 0 < (outN C m i).2
      ·have hd : decide (bestA C m i = (outN C m i).2 ∧ 0 < (outN C m i).2 ∧ ((outN C m i).1 = [] ∨ C ((outN C m i).1.getLastD 0) i = true)) = C ((outN C m i).1.getLastD 0) i := by
        simp only [c1, c2, hone, true_and, false_or, Bool.decide_eq_true]
       refine jD 32 32 (h := ?_)
       (repeat (refine wkH ?_))
       simp only [hai, decide_eq_true (show ((bestA C m i : Nat) : Int) = ((outN C m i).2 : Int) by omega)]
       (repeat (refine wkH ?_))
       simp only [decide_eq_true (show (0 : Int) < ((outN C m i).2 : Int) by omega)]
       (repeat (refine wkH ?_))
       simp only [decide_eq_false (show ¬ ((cI (outN C m i).1).length : Int) = 0 by omega)]
       (repeat (refine wkH ?_))
       simp only [hla]
       (repeat (first | refine wkH ?_ | (refine tC rfl rfl ?_ ?_; focus (exact ⟨k1, k2, hs⟩))))
       refine Zr ?_
       refine Zt ?_
       simp only [← hCk]
       repeat (refine wkM ?_; try intro _)
       exact ZT (C ((outN C m i).1.getLastD 0) i) hd.symm sbB suB
      ·have hd : decide (bestA C m i = (outN C m i).2 ∧ 0 < (outN C m i).2 ∧ ((outN C m i).1 = [] ∨ C ((outN C m i).1.getLastD 0) i = true)) = false := decide_eq_false fun h => c2 h.2.1
       refine jD 32 32 (h := ?_)
       (repeat (refine wkH ?_))
       simp only [hai, decide_eq_true (show ((bestA C m i : Nat) : Int) = ((outN C m i).2 : Int) by omega)]
       (repeat (refine wkH ?_))
       simp only [decide_eq_false (show ¬ (0 : Int) < ((outN C m i).2 : Int) by omega)]
       (repeat (refine wkH ?_))
       refine Zr ?_
       refine Zt ?_
       repeat (refine wkM ?_; try intro _)
       exact ZT false hd.symm sbB suB
     ·have hd : decide (bestA C m i = (outN C m i).2 ∧ 0 < (outN C m i).2 ∧ ((outN C m i).1 = [] ∨ C ((outN C m i).1.getLastD 0) i = true)) = false := decide_eq_false fun h => c1 h.1
      refine jD 32 32 (h := ?_)
      (repeat (refine wkH ?_))
      simp only [hai, decide_eq_false (show ¬ ((bestA C m i : Nat) : Int) = ((outN C m i).2 : Int) by omega)]
      (repeat (refine wkH ?_))
      refine Zr ?_
      refine Zt ?_
      repeat (refine wkM ?_; try intro _)
      exact ZT false hd.symm sbB suB
   ·by_cases hP : bestA C m i = (outN C m i).2 ∧ 0 < (outN C m i).2 ∧ ((outN C m i).1 = [] ∨ C ((outN C m i).1.getLastD 0) i = true)
    ·rw [decide_eq_true hP] at hq
     subst hq
     rw [if_pos hP] at hnx
     repeat (refine wkM ?_; try intro _)
     refine sU rfl rfl ?_ ?_ ?_ ?_
     ·rfl
     ·rfl
     ·exact ⟨by decide, by omega, by omega⟩
     intro s'
     repeat (refine wkO ?_; try intro _)
     have e1 : cI (outN C m (i + 1)).1 = cI (outN C m i).1 ++ [(i : Int)] := by rw [hnx]; simp [cI]
     have e4 : (((outN C m (i + 1)).2 : Nat) : Int) = ((outN C m i).2 : Int) - 1 := by rw [hnx]; simp only; omega
     obtain ⟨s3, e2, e3⟩ := SlS.turn 3 e1.symm s'
     exact Zj ⟨i + 1, s3⟩ hlt (by simp only [e2, e4]; exact sbB) (by simp only [e3]; exact suB) (by show m - (i + 1) < m - i; omega)
    ·rw [decide_eq_false hP] at hq
     subst hq
     rw [if_neg hP] at hnx
     repeat (refine wkO ?_; try intro _)
     have e1 : cI (outN C m (i + 1)).1 = cI (outN C m i).1 := by rw [hnx]
     have e4 : (((outN C m (i + 1)).2 : Nat) : Int) = ((outN C m i).2 : Int) := by rw [hnx]
     obtain ⟨s3, e2, e3⟩ := SlS.turn 3 e1.symm o
     exact Zj ⟨i + 1, s3⟩ hlt (by simp only [e2, e4]; exact sbB) (by simp only [e3]; exact suB) (by show m - (i + 1) < m - i; omega)
  ·have hge : i = m := by have := of_decide_eq_false h; omega
   subst hge
   repeat (refine wkM ?_; try intro _)
   exact Zf rfl rfl (fun w hw => ⟨o, rfl, hw.sub suB⟩)
end Go.Vt
