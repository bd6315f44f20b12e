/- that objects are reconstructed from their reports (part 15 of 29.) Conditions: those that each statement names. -/
import Derived.Test.YtjicdlilgjdefaaGreatDoorKJ14
set_option linter.unusedSimpArgs false
set_option linter.unusedVariables false
set_option maxHeartbeats 2000000
set_option maxRecDepth 100000
namespace Go.Vt
open Go.RowKit Go.Proofs
open Go.Proofs.Tryz (prog)
section
abbrev KN : Nat := 1073741824
structure LnOk (K : Nat) (f : ZF) : Prop where
 x0 : M f.X0 ≤ K
 x1 : M f.X1 ≤ K
 y0 : M f.Y0 ≤ K
 y1 : M f.Y1 ≤ K
structure UOk (u : UL) : Prop where
 i : IvOk KN u.In
 f : LnOk BQ u.F
structure UIn (u : UL) : Prop where
 i : IvOk KN u.In
 f : LnOk KN u.F
def bef (xs : List UL) (t : ZJ) : Bool := decide (0 < xs.length) && (decide ((lstU xs).In.To = t) && !decide ((lstU xs).In.From = (lstU xs).In.To))
def smL (f g : ZF) (t : Rat) : Bool := qsame (lnX f) (lnX g) t && qsame (lnY f) (lnY g) t
def turn (xs : List UL) (u : UL) : List UL := xs.set (xs.length - 1) u
def isI (u : UL) : Bool := decide (u.In.From = u.In.To)
def cA (xs : List UL) (x : UL) : Bool := bef xs x.In.From && (!(lstU xs).In.OpenTo && decide ((lstU xs).F = x.F))
def cB (l : List UL) (i : Nat) (xs : List UL) (x : UL) : Bool := decide (0 < i) && (isI (gi l ((i : Int) - 1)) && (decide ((gi l ((i : Int) - 1)).In.From = x.In.From) && !hld xs x.In.From))
def cC (xs : List UL) (x : UL) : Bool := bef xs x.In.From && smL (lstU xs).F x.F x.In.From.P
def cD (l : List UL) (i : Nat) (x : UL) : Bool := decide (i + 1 < l.length) && (decide ((gi l ((i : Int) + 1)).In.From = x.In.From) && smL (gi l ((i : Int) + 1)).F x.F x.In.From.P)
def ext (u x : UL) : UL := ⟨⟨u.In.From, x.In.To, u.In.OpenFrom, true⟩, u.F⟩
def clo (u : UL) : UL := ⟨⟨u.In.From, u.In.To, u.In.OpenFrom, false⟩, u.F⟩
def opF (x : UL) : UL := ⟨⟨x.In.From, x.In.To, false, x.In.OpenTo⟩, x.F⟩
def redU (x : UL) : UL := ⟨x.In, lred x.F x.In.From.P⟩
def nstp (l : List UL) (i : Nat) (xs : List UL) (x : UL) : List UL :=
 if isI x = false then
  if cA xs x = true then turn xs (ext (lstU xs) x) else xs ++ [if cB l i xs x = true then opF x else x]
 else if cC xs x = true then turn xs (clo (lstU xs))
 else if cD l i x = true then xs else xs ++ [redU x]
def nrm (l : List UL) : Nat → List UL
 | 0 => []
 | i + 1 => nstp l i (nrm l i) (gi l (i : Int))
def aprN (l : List UL) : Nat → Bool
 | 0 => true
 | m + 1 => aprN l m && !(decide (0 < m) && !aprt (gi l ((m : Int) - 1)).In (gi l (m : Int)).In)
def allU (us : List UL) : List UL := atm (sor us) (sor us).length
def nrmR (us : List UL) : List UL := if aprN (sor us) (sor us).length = true then nrm (allU us) (allU us).length else []
def nrmE (us : List UL) : Int := if aprN (sor us) (sor us).length = true then 0 else 11
theorem IvOk.at {K : Nat} {I : Zt} (h : IvOk K I) (o c : Bool) : IvOk K ⟨I.From, I.To, o, c⟩ := ⟨h.r1, h.r2, h.n1, h.n2, h.m1, h.m2⟩
theorem Zsk {f : ZF} {t : Rat} (h : LnOk KN f) (ht : M t ≤ KN) : LnOk BQ (lred f t) := by
 have := MB.mk h.x0
 have := MB.mk h.x1
 have := MB.mk h.y0
 have := MB.mk h.y1
 have := MB.mk ht
 unfold lred
 exact ⟨MB.lt rfl, MB.lt rfl, MB.lt rfl, MB.lt rfl⟩
theorem LnOk.mono {K K' : Nat} {f : ZF} (h : LnOk K f) (hk : K ≤ K') : LnOk K' f := ⟨Wi h.x0 hk, Wi h.x1 hk, Wi h.y0 hk, Wi h.y1 hk⟩
theorem UIn.ok {u : UL} (h : UIn u) : UOk u := ⟨h.i, h.f.mono (by decide)⟩
theorem Z0 {α : Type} [Inhabited α] {xs : List α} {i : Int} (h : i.toNat < xs.length) : gi xs i ∈ xs := by
 rw [Zc8 h]
 exact List.getElem_mem _
theorem Zk1 {xs : List UL} {u : UL} (h : ∀ v ∈ xs, UOk v) (hu : UOk u) : ∀ v ∈ turn xs u, UOk v := fun v hv => by
 rcases List.mem_or_eq_of_mem_set hv with h1 | h1
 ·exact h v h1
 ·rw [h1]; exact hu
theorem Zcf {xs : List UL} {t : ZJ} (h : bef xs t = true) : 0 < xs.length := by
 unfold bef at h
 simp only [Wq, decide_eq_true_eq] at h
 exact h.1
theorem Zkb {xs : List UL} (h : ∀ v ∈ xs, UOk v) (h0 : 0 < xs.length) : UOk (lstU xs) := h _ (Z0 (by omega))
theorem Zsb {l : List UL} {i : Nat} {xs : List UL} {x : UL} (h : ∀ v ∈ xs, UOk v) (hx : UIn x) : ∀ v ∈ nstp l i xs x, UOk v := by
 unfold nstp
 split
 ·split
  ·rename_i hc
   have h0 : 0 < xs.length := by
    unfold cA at hc
    simp only [Wq] at hc
    exact Zcf hc.1
   have hl := Zkb h h0
   exact Zk1 h ⟨⟨hl.i.r1, hx.i.r2, hl.i.n1, hx.i.n2, hl.i.m1, hx.i.m2⟩, hl.f⟩
  ·intro v hv
   rcases List.mem_append.1 hv with h1 | h1
   ·exact h v h1
   ·rw [Wo] at h1
    subst h1
    split
    ·exact ⟨hx.i.at _ _, hx.ok.f⟩
    ·exact hx.ok
 ·split
  ·rename_i hc
   have h0 : 0 < xs.length := by
    unfold cC at hc
    simp only [Wq] at hc
    exact Zcf hc.1
   have hl := Zkb h h0
   exact Zk1 h ⟨hl.i.at _ _, hl.f⟩
  ·split
   ·exact h
   ·intro v hv
    rcases List.mem_append.1 hv with h1 | h1
    ·exact h v h1
    ·rw [Wo] at h1
     subst h1
     exact ⟨hx.i, Zsk hx.f hx.i.m1⟩
theorem ZgZ {l : List UL} (h : ∀ u ∈ l, UIn u) : ∀ m, m ≤ l.length → ∀ v ∈ nrm l m, UOk v
 | 0, _ => fun v hv => by cases hv
 | m + 1, hm => Zsb (ZgZ h m (by omega)) (h _ (Z0 (by omega)))
theorem ZpJ (l : List UL) (i : Nat) (xs : List UL) (x : UL) : (nstp l i xs x).length ≤ xs.length + 1 := by
 unfold nstp turn
 split
 ·split <;> simp
 ·split
  ·simp
  ·split <;> simp
theorem ZhW (l : List UL) : ∀ m, (nrm l m).length ≤ m
 | 0 => Wl _
 | m + 1 => by
  have := ZhW l m
  have := ZpJ l m (nrm l m) (gi l (m : Int))
  rw [nrm]
  omega
theorem Zf0 (us : List UL) : (sor us).length = us.length := Zeh us _
theorem ZeB {us : List UL} {u : UL} (h : u ∈ sor us) : u ∈ us := by
 rcases Nat.eq_zero_or_pos us.length with h0 | h0
 ·have h1 := Zf0 us
  rw [h0] at h1
  rw [List.length_eq_zero_iff.1 h1] at h
  cases h
 ·exact Zho us _ (by omega) u h
theorem ZuE {u v : UL} (h : UIn u) (hv : v ∈ atU u) : UIn v := by
 unfold atU at hv
 have e1 : IvOk KN ⟨u.In.From, u.In.From, false, false⟩ := ⟨h.i.r1, h.i.r1, h.i.n1, h.i.n1, h.i.m1, h.i.m1⟩
 have e2 : IvOk KN ⟨u.In.To, u.In.To, false, false⟩ := ⟨h.i.r2, h.i.r2, h.i.n2, h.i.n2, h.i.m2, h.i.m2⟩
 rcases List.mem_append.1 hv with h1 | h1
 ·split at h1
  ·cases h1
  ·rw [Wo] at h1
   subst h1
   exact ⟨e1, h.f⟩
 ·split at h1
  ·cases h1
  ·rcases List.mem_cons.1 h1 with h2 | h2
   ·subst h2
    exact ⟨h.i.at _ _, h.f⟩
   ·split at h2
    ·cases h2
    ·rw [Wo] at h2
     subst h2
     exact ⟨e2, h.f⟩
theorem ZfC {us : List UL} (h : ∀ u ∈ us, UIn u) : ∀ m, m ≤ us.length → ∀ v ∈ atm us m, UIn v
 | 0, _, v, hv => by cases hv
 | m + 1, hm, v, hv => by
  rw [atm] at hv
  rcases List.mem_append.1 hv with h1 | h1
  ·exact ZfC h m (by omega) v h1
  ·exact ZuE (h _ (Z0 (by omega))) h1
theorem ZoZ {l : List UL} {m : Nat} (h : aprN l m = false) : ∀ n, m ≤ n → aprN l n = false := fun n hn => by
 induction n with
 | zero => rw [show m = 0 by omega] at h; exact h
 | succ n ih =>
  rcases (by omega : m = n + 1 ∨ m ≤ n) with h1 | h1
  ·rw [← h1]; exact h
  ·rw [aprN, ih h1]; rfl
theorem SlS.turn {α : Type} {enc : α → Array Value} {k : Nat} {xs ys : List α} (T : TypeId) (h : xs = ys) (s : SlS enc k xs) : ∃ s' : SlS enc k ys, vSl s' = vSl s ∧ mS T s' = mS T s := by
 subst h
 exact ⟨s, rfl, rfl⟩
theorem SlS.put {α : Type} {enc : α → Array Value} {k n b c : Nat} {ys : List α} {sp : List Value} (T : TypeId) (hn : ys.length = n) (h : n ≤ c ∧ sp.length = (c - n) * k) (h0 : 0 < n) : ∃ s' : SlS enc k ys, vSl s' = .slice (some ⟨b, 0, none⟩) n c ∧ mS T s' = [⟨b, row enc ys sp, T⟩] := by
 subst hn
 exact ⟨SlS.at_ b c sp h (fun h1 => by rw [h1] at h0; simp at h0), rfl, rfl⟩
theorem ZjO (xs : List UL) (u : UL) : (turn xs u).length = xs.length := by simp [turn]
set_option maxHeartbeats 2000000 in
theorem Zi0 (v : Value) (us : List UL) (w : World) (hv : ArgS w v rU us) (hn : us = [] → v = .slice none 0 0) (hl : us.length ≤ 19) (hok : ∀ u ∈ us, UIn u) :
  Calls prog 114 [vLines, v].toArray w (RetM (SlS rU 36 (nrmR us)) (fun s => .tuple #[vSl s, .int .i64 (nrmE us)]) (fun s => mS 224 s) w) := by
 have hN : ∀ L, LstN w L v UL rU us := fun L => ⟨fun w' hw' => hv.to hw'.ext, hn⟩
 have hsl := Zf0 us
 have hso : ∀ u ∈ sor us, UIn u := fun u hu => hok u (ZeB hu)
 refine Zg Tryz.func114 rfl Tryz.ntmps114 rfl ?_
 repeat (first | (refine wkB ?_; intros) | (refine wnM ?_ ?_; (focus (exact ⟨hl, fun u hu => (hok u hu).i.mono (by decide)⟩)); intros))
 rename_i s1
 refine Zq (S := Nat) (fun m => m ≤ (sor us).length ∧ aprN (sor us) m = true) (fun m => [(0, vLines), (1, vSl s1), (17, .int .i64 (sor us).length), (18, .int .i64 (m : Nat))]) (fun _ => mS 224 s1) (fun m => (sor us).length - m) 0
  ⟨Wm _, rfl⟩ sbB suB (fun m hm => ?_)
 obtain ⟨hm, ham⟩ := hm
 repeat (refine wkB ?_; intros)
 refine Zn rfl (fun h => ?_) (fun h => ?_)
 ·have hlt : m < (sor us).length := by have := Wa h; omega
  rcases s1.cases 224 with ⟨h0, -, -⟩ | ⟨b1, c1, sp1, h1, hv1, hm1, hne⟩
  ·rw [h0] at hlt; simp at hlt
  rw [hv1, hm1]
  have hap : aprN (sor us) (m + 1) = !(decide (0 < m) && !aprt (gi (sor us) ((m : Int) - 1)).In (gi (sor us) (m : Int)).In) := by rw [aprN, ham, Bool.true_and]
  have o1 := hso _ (Z0 (i := (m : Int)) (by omega))
  repeat (refine wkB ?_; intros)
  rcases m with _ | m
  ·(refine jD 17 17 (h := ?_); (repeat (refine wkH ?_)); refine Zo ?_; (repeat (refine Z8 ?_; intro _)); refine Zr ?_)
   repeat (first | (refine wkB ?_; intros) | (refine wnM ?_ ?_; (focus (exact ⟨by omega, by omega⟩)); intros))
   exact Zj 1 ⟨hlt, by rw [hap]; rfl⟩ sbB suB (by omega)
  ·have e1 : ((m + 1 : Nat) : Int) - 1 = (m : Int) := by omega
   have o2 := hso _ (Z0 (i := (m : Int)) (by omega))
   rw [e1, Wc (show 0 < m + 1 by omega), Bool.true_and, Bool.not_not] at hap
   refine jD 17 17 (h := ?_)
   (repeat (refine wkH ?_))
   simp only [Wc (show (0 : Int) < ((m + 1 : Nat) : Int) by omega), e1]
   (repeat (refine wkH ?_))
   simp only [e1]
   (repeat (first | refine wkH ?_ | (refine tC rfl rfl ?_ ?_; focus (exact ⟨⟨o2.i.r2, o1.i.r1⟩, Wi o2.i.m2 (by decide), Wi o1.i.m1 (by decide)⟩))))
   refine Zo ?_
   refine Zr ?_
   repeat (refine wkB ?_; intros)
   rcases ha : aprt (gi (sor us) (m : Int)).In (gi (sor us) ((m + 1 : Nat) : Int)).In with _ | _
   ·rw [ha] at hap
    repeat (refine wkB ?_; intros)
    have hf := ZoZ hap (sor us).length hlt
    obtain ⟨s0, hs1, hs2⟩ := SlS.turn (enc := rU) (k := 36) 224 (show ([] : List UL) = nrmR us by unfold nrmR; rw [hf, if_neg (by decide)]) SlS.no
    have he : nrmE us = 11 := by unfold nrmE; rw [hf, if_neg (by decide)]
    exact Zz rfl (Zl rfl) (Zl rfl) (fun w hw => ⟨s0, by dsimp only; rw [hs1, he]; rfl, by dsimp only; rw [hs2]; exact hw.sub (Wk _)⟩)
   ·rw [ha] at hap
    repeat (first | (refine wkB ?_; intros) | (refine wnM ?_ ?_; (focus (exact ⟨by omega, by omega⟩)); intros))
    exact Zj (m + 2) ⟨hlt, hap⟩ sbB suB (by omega)
 ·have hge : m = (sor us).length := by have := Wb h; omega
  subst hge
  repeat (first | (refine wkB ?_; intros) | (refine wnM ?_ ?_; (focus (omega)); intros))
  rename_i s8
  have hao : ∀ u ∈ atm (sor us) (sor us).length, UIn u := ZfC hso _ (Wl _)
  have hall := Zf2 (sor us) (sor us).length
  have hR : nrmR us = nrm (atm (sor us) (sor us).length) (atm (sor us) (sor us).length).length := by unfold nrmR allU; rw [ham, if_pos rfl]
  have hE : nrmE us = 0 := by unfold nrmE; rw [ham, if_pos rfl]
  generalize atm (sor us) (sor us).length = al at *
  refine Zq (S := (xs : List UL) × Nat × SlS rU 36 xs) (fun s => s.2.1 ≤ al.length ∧ s.1 = nrm al s.2.1) (fun s => [(0, vLines), (7, vSl s.2.2), (8, vSl s8), (41, vSl s8), (42, .int .i64 al.length), (43, .int .i64 (s.2.1 : Nat))]) (fun s => mS 224 s.2.2 ++ mS 224 s8) (fun s => al.length - s.2.1) ⟨[], 0, SlS.no⟩
   ⟨Wm _, rfl⟩ sbB suB (fun s hs => ?_)
  obtain ⟨xs, i, s⟩ := s
  obtain ⟨hi, hxs⟩ := hs
  simp only at hi hxs ⊢
  repeat (refine wkB ?_; intros)
  refine Zn rfl (fun h => ?_) (fun h => ?_)
  ·have hlt : i < al.length := by have := Wa h; omega
   rcases s8.cases 224 with ⟨h0, -, -⟩ | ⟨b8, c8, sp8, h1, hv8, hm8, hne⟩
   ·rw [h0] at hlt; simp at hlt
   rw [hv8, hm8]
   have hx0 := hao _ (Z0 (i := (i : Int)) (by omega))
   have hnx : nrm al (i + 1) = nstp al i xs (gi al (i : Int)) := by rw [nrm, hxs]
   have hxo := ZgZ hao i (by omega)
   have hxl := ZhW al i
   rw [← hxs] at hxo hxl
   repeat (refine wkB ?_; intros)
   rename_i b10 b11
   obtain ⟨x, hx⟩ : ∃ x, x = gi al (i : Int) := ⟨_, rfl⟩
   simp only [← hx] at hx0 hnx ⊢
   refine Zhi (mS 224 s ++ [⟨b11, ZD (ZH x.In.From), 97⟩, ⟨b10, rU x, 224⟩, ⟨b8, row rU al sp8, 224⟩]) ((List.perm_middle.trans (List.perm_middle.cons _)).symm) ?_
   refine ZaO (S := Bool) (fun v => v = bef xs x.In.From) (fun v => [(75, .bool v), (0, vLines), (7, vSl s), (8, .slice (some ⟨b8, 0, none⟩) al.length c8), (9, .int .i64 (i : Nat)), (10, .pointer (some ⟨b10, 0, none⟩)), (11, .pointer (some ⟨b11, 0, none⟩)), (12, .pointer none), (13, .int .i64 xs.length), (41, .slice (some ⟨b8, 0, none⟩) al.length c8), (42, .int .i64 al.length), (43, .int .i64 (i : Nat))]) (fun _ => mS 224 s ++ [⟨b11, ZD (ZH x.In.From), 97⟩, ⟨b10, rU x, 224⟩, ⟨b8, row rU al sp8, 224⟩]) ?_ (fun v hv3 => ?_)
   ·rcases s.cases 224 with ⟨h0, -, -⟩ | ⟨bo, co, so, ho, hvo, hmo, hneo⟩
    ·refine jD 23 23 (h := ?_)
     (repeat (refine wkH ?_))
     simp only [We (show ¬ (0 : Int) < (xs.length : Int) by rw [h0]; simp)]
     (repeat (refine wkH ?_))
     refine Zo ?_
     refine Zr ?_
     repeat (refine wkB ?_; intros)
     exact ZL false (by rw [h0]; rfl) sbB suB
    ·have hpo : 0 < xs.length := by rcases xs with _ | ⟨a, xs⟩; exact absurd rfl hneo; simp
     rw [hvo, hmo]
     simp only [Wf, Wg]
     refine jD 23 23 (h := ?_)
     (repeat (refine wkH ?_))
     simp only [Wc (show (0 : Int) < (xs.length : Int) by omega)]
     (repeat (refine wkH ?_))
     rcases hto : decide ((lstU xs).In.To = x.In.From) with _ | _
     ·(repeat (refine wkH ?_))
      refine Zo ?_
      refine Zr ?_
      repeat (refine wkB ?_; intros)
      exact ZL false (by unfold bef; rw [hto, Bool.false_and, Bool.and_false]) sbB suB
     ·(repeat (refine wkH ?_))
      refine Zo ?_
      refine Zr ?_
      repeat (refine wkB ?_; intros)
      exact ZL (!decide ((lstU xs).In.From = (lstU xs).In.To)) (by unfold bef; rw [hto, Wc hpo, Bool.true_and, Bool.true_and]) sbB suB
   refine ZaO (S := Option Addr) (fun p => (bef xs x.In.From = false ∧ p = none) ∨ (bef xs x.In.From = true ∧ ∃ bo co so, (xs.length ≤ co ∧ so.length = (co - xs.length) * 36) ∧ vSl s = .slice (some ⟨bo, 0, none⟩) xs.length co ∧ mS 224 s = [⟨bo, row rU xs so, 224⟩] ∧ p = some ⟨bo, 0 + ((xs.length : Int) - 1).toNat * 36, none⟩)) (fun p => [(0, vLines), (7, vSl s), (8, .slice (some ⟨b8, 0, none⟩) al.length c8), (9, .int .i64 (i : Nat)), (10, .pointer (some ⟨b10, 0, none⟩)), (11, .pointer (some ⟨b11, 0, none⟩)), (12, .pointer p), (13, .int .i64 xs.length), (41, .slice (some ⟨b8, 0, none⟩) al.length c8), (42, .int .i64 al.length), (43, .int .i64 (i : Nat))]) (fun _ => mS 224 s ++ [⟨b11, ZD (ZH x.In.From), 97⟩, ⟨b10, rU x, 224⟩, ⟨b8, row rU al sp8, 224⟩]) ?_ (fun p hp => ?_)
   ·subst hv3
    rcases hb : bef xs x.In.From with _ | _
    ·repeat (refine wkB ?_; intros)
     exact ZL none (.inl ⟨rfl, rfl⟩) sbB suB
    ·have hpo := Zcf hb
     rcases s.cases 224 with ⟨h0, -, -⟩ | ⟨bo, co, so, ho, hvo, hmo, hneo⟩
     ·rw [h0] at hpo; simp at hpo
     rw [hvo, hmo]
     simp only [Wf, Wg]
     repeat (refine wkB ?_; intros)
     exact ZL (some ⟨bo, 0 + ((xs.length : Int) - 1).toNat * 36, none⟩) (.inr ⟨trivial, bo, co, so, ho, rfl, rfl, rfl⟩) sbB suB
   repeat (refine wkB ?_; intros)
   rcases hI : isI x with _ | _
   ·have hI' : decide (x.In.From = x.In.To) = false := hI
    simp only [hI']
    repeat (refine wkB ?_; intros)
    refine ZaO (S := Bool) (fun v => v = cA xs x) (fun v => [(117, .bool v), (0, vLines), (7, vSl s), (8, .slice (some ⟨b8, 0, none⟩) al.length c8), (9, .int .i64 (i : Nat)), (10, .pointer (some ⟨b10, 0, none⟩)), (11, .pointer (some ⟨b11, 0, none⟩)), (12, .pointer p), (13, .int .i64 xs.length), (41, .slice (some ⟨b8, 0, none⟩) al.length c8), (42, .int .i64 al.length), (43, .int .i64 (i : Nat))]) (fun _ => mS 224 s ++ [⟨b11, ZD (ZH x.In.From), 97⟩, ⟨b10, rU x, 224⟩, ⟨b8, row rU al sp8, 224⟩]) ?_ (fun v hv4 => ?_)
    ·rcases hp with ⟨hb, rfl⟩ | ⟨hb, bo, co, so, ho, hvo, hmo, rfl⟩
     ·(refine jD 23 23 (h := ?_); (repeat (refine wkH ?_)); refine Zo ?_; (repeat (refine Z8 ?_; intro _)); refine Zr ?_)
      repeat (refine wkB ?_; intros)
      exact ZL false (by unfold cA; rw [hb, Bool.false_and]) sbB suB
     ·have hpo := Zcf hb
      rw [hvo, hmo]
      simp only [Wf, Wg]
      refine jD 23 23 (h := ?_)
      (repeat (refine wkH ?_))
      rcases hot : (lstU xs).In.OpenTo with _ | _
      ·(repeat (refine wkH ?_))
       refine Zo ?_
       refine Zr ?_
       repeat (refine wkB ?_; intros)
       exact ZL (decide ((lstU xs).F = x.F)) (by unfold cA; rw [hb, hot, Bool.true_and, Bool.not_false, Bool.true_and]) sbB suB
      ·(repeat (refine wkH ?_))
       refine Zo ?_
       refine Zr ?_
       repeat (refine wkB ?_; intros)
       exact ZL false (by unfold cA; rw [hb, hot, Bool.true_and, Bool.not_true, Bool.false_and]) sbB suB
    subst hv4
    refine ZaO (S := Unit) (fun _ => cA xs x = false) (fun _ => [(0, vLines), (7, vSl s), (8, .slice (some ⟨b8, 0, none⟩) al.length c8), (9, .int .i64 (i : Nat)), (10, .pointer (some ⟨b10, 0, none⟩)), (11, .pointer (some ⟨b11, 0, none⟩)), (13, .int .i64 xs.length), (41, .slice (some ⟨b8, 0, none⟩) al.length c8), (42, .int .i64 al.length), (43, .int .i64 (i : Nat))]) (fun _ => mS 224 s ++ [⟨b11, ZD (ZH x.In.From), 97⟩, ⟨b10, rU x, 224⟩, ⟨b8, row rU al sp8, 224⟩]) ?_ (fun _ hcA => ?_)
    ·rcases hcA : cA xs x with _ | _
     ·repeat (refine wkB ?_; intros)
      exact ZL () rfl sbB suB
     ·have hb : bef xs x.In.From = true := by
       unfold cA at hcA
       simp only [Wq] at hcA
       exact hcA.1
      have hpo := Zcf hb
      rcases hp with ⟨hb', -⟩ | ⟨-, bo, co, so, ho, hvo, hmo, rfl⟩
      ·rw [hb] at hb'; cases hb'
      rw [hvo, hmo]
      simp only [Wf, Wg]
      have ek : ((xs.length : Int) - 1).toNat = xs.length - 1 := by omega
      repeat (refine wkB ?_; intros)
      refine sRF (i := (xs.length : Int) - 1) (f := 9) (⟨⟨(lstU xs).In.From, x.In.To, (lstU xs).In.OpenFrom, (lstU xs).In.OpenTo⟩, (lstU xs).F⟩ : UL) rfl rfl ?_ ?_
      ·omega
      obtain ⟨zs, hzs⟩ : ∃ zs, zs = xs.set ((xs.length : Int) - 1).toNat (⟨⟨(lstU xs).In.From, x.In.To, (lstU xs).In.OpenFrom, (lstU xs).In.OpenTo⟩, (lstU xs).F⟩ : UL) := ⟨_, rfl⟩
      simp only [← hzs]
      have hzl : zs.length = xs.length := by rw [hzs]; simp
      have hg : gi zs ((xs.length : Int) - 1) = ⟨⟨(lstU xs).In.From, x.In.To, (lstU xs).In.OpenFrom, (lstU xs).In.OpenTo⟩, (lstU xs).F⟩ := by
       rw [Zc8 (by omega)]
       simp only [hzs, List.getElem_set_self]
      repeat (refine wkB ?_; intros)
      refine sRF (i := (xs.length : Int) - 1) (f := 19) (⟨⟨(gi zs ((xs.length : Int) - 1)).In.From, (gi zs ((xs.length : Int) - 1)).In.To, (gi zs ((xs.length : Int) - 1)).In.OpenFrom, true⟩, (gi zs ((xs.length : Int) - 1)).F⟩ : UL) rfl rfl ?_ ?_
      ·omega
      have hfin : zs.set ((xs.length : Int) - 1).toNat (⟨⟨(gi zs ((xs.length : Int) - 1)).In.From, (gi zs ((xs.length : Int) - 1)).In.To, (gi zs ((xs.length : Int) - 1)).In.OpenFrom, true⟩, (gi zs ((xs.length : Int) - 1)).F⟩ : UL) = turn xs (ext (lstU xs) x) := by
       rw [hg, hzs, List.set_set, ek]
       rfl
      rw [hfin]
      obtain ⟨s', hv', hm'⟩ := SlS.put (enc := rU) (k := 36) (b := bo) 224 (ZjO xs (ext (lstU xs) x)) ho hpo
      rw [← hv']
      repeat (first | (refine wkB ?_; intros) | (refine wnM ?_ ?_; (focus (exact ⟨by omega, by omega⟩)); intros))
      exact Zj ⟨turn xs (ext (lstU xs) x), i + 1, s'⟩ ⟨hlt, by rw [hnx, nstp, if_pos hI, if_pos hcA]⟩ sbB (by dsimp only; rw [hm']; exact suB) (by show al.length - (i + 1) < al.length - i; omega)
    refine Ze2 ?_
    refine ZaO (S := UL) (fun y => y = if cB al i xs x = true then opF x else x) (fun _ => [(0, vLines), (7, vSl s), (8, .slice (some ⟨b8, 0, none⟩) al.length c8), (9, .int .i64 (i : Nat)), (10, .pointer (some ⟨b10, 0, none⟩)), (11, .pointer (some ⟨b11, 0, none⟩)), (13, .int .i64 xs.length), (41, .slice (some ⟨b8, 0, none⟩) al.length c8), (42, .int .i64 al.length), (43, .int .i64 (i : Nat))]) (fun y => mS 224 s ++ [⟨b11, ZD (ZH x.In.From), 97⟩, ⟨b10, rU y, 224⟩, ⟨b8, row rU al sp8, 224⟩]) ?_ (fun y hy => ?_)
    ·refine Ze2 ?_
     refine ZaO (S := Bool) (fun v => v = cB al i xs x) (fun v => [(156, .bool v), (0, vLines), (7, vSl s), (8, .slice (some ⟨b8, 0, none⟩) al.length c8), (9, .int .i64 (i : Nat)), (10, .pointer (some ⟨b10, 0, none⟩)), (11, .pointer (some ⟨b11, 0, none⟩)), (13, .int .i64 xs.length), (41, .slice (some ⟨b8, 0, none⟩) al.length c8), (42, .int .i64 al.length), (43, .int .i64 (i : Nat))]) (fun _ => mS 224 s ++ [⟨b11, ZD (ZH x.In.From), 97⟩, ⟨b10, rU x, 224⟩, ⟨b8, row rU al sp8, 224⟩]) ?_ (fun v hv5 => ?_)
     ·by_cases hi0 : 0 < i
      ·have ep : ((i : Int) - 1).toNat < al.length := by omega
       refine jD 28 28 (h := ?_)
       (repeat (refine wkH ?_))
       simp only [Wc (show (0 : Int) < (i : Int) by omega)]
       (repeat (refine wkH ?_))
       rcases hi1 : isI (gi al ((i : Int) - 1)) with _ | _
       ·have hi1' : decide ((gi al ((i : Int) - 1)).In.From = (gi al ((i : Int) - 1)).In.To) = false := hi1
        simp only [hi1']
        (repeat (refine wkH ?_))
        refine Zo ?_
        refine Zr ?_
        repeat (refine wkB ?_; intros)
        exact ZL false (by unfold cB; rw [hi1, Bool.false_and, Bool.and_false]) sbB suB
       ·have hi1' : decide ((gi al ((i : Int) - 1)).In.From = (gi al ((i : Int) - 1)).In.To) = true := hi1
        simp only [hi1']
        (repeat (refine wkH ?_))
        rcases hft : decide ((gi al ((i : Int) - 1)).In.From = x.In.From) with _ | _
        ·(repeat (refine wkH ?_))
         refine Zo ?_
         refine Zr ?_
         repeat (refine wkB ?_; intros)
         exact ZL false (by unfold cB; rw [hft, Bool.false_and, Bool.and_false, Bool.and_false]) sbB suB
        ·(repeat (first | refine wkH ?_ | (refine tC rfl rfl ?_ ?_; focus (omega))))
         refine Zo ?_
         refine Zr ?_
         repeat (refine wkB ?_; intros)
         exact ZL (!hld xs x.In.From) (by unfold cB; rw [hi1, hft, Wc hi0, Bool.true_and, Bool.true_and, Bool.true_and]) sbB suB
      ·refine jD 28 28 (h := ?_)
       (repeat (refine wkH ?_))
       simp only [We (show ¬ (0 : Int) < (i : Int) by omega)]
       (repeat (refine wkH ?_))
       refine Zo ?_
       refine Zr ?_
       repeat (refine wkB ?_; intros)
       exact ZL false (by unfold cB; rw [We hi0, Bool.false_and]) sbB suB
     ·subst hv5
      rcases hcB : cB al i xs x with _ | _
      ·repeat (refine wkB ?_; intros)
       exact ZL x (by rw [if_neg (by decide)]) sbB suB
      ·repeat (refine wkB ?_; intros)
       exact ZL (opF x) (by rw [if_pos rfl]) sbB suB
    repeat (refine wkB ?_; intros)
    refine sU rfl rfl ?_ ?_ ?_ ?_
    ·rfl
    ·rfl
    ·exact ⟨by decide, by omega, by omega⟩
    intro s'
    repeat (first | (refine wkB ?_; intros) | (refine wnM ?_ ?_; (focus (exact ⟨by omega, by omega⟩)); intros))
    exact Zj ⟨xs ++ [y], i + 1, s'⟩ ⟨hlt, by show xs ++ [y] = nrm al (i + 1); rw [hnx, nstp, if_pos hI, hcA, if_neg (by decide), hy]⟩ sbB suB (by show al.length - (i + 1) < al.length - i; omega)
   ·have hI' : decide (x.In.From = x.In.To) = true := hI
    simp only [hI']
    repeat (refine wkB ?_; intros)
    have htM : M x.In.From.P ≤ 8589934592 := Wi hx0.i.m1 (by decide)
    have hxf : (M x.F.X0 ≤ 8589934592 ∧ M x.F.X1 ≤ 8589934592) ∧ M x.F.Y0 ≤ 8589934592 ∧ M x.F.Y1 ≤ 8589934592 := ⟨⟨Wi hx0.f.x0 (by decide), Wi hx0.f.x1 (by decide)⟩, Wi hx0.f.y0 (by decide), Wi hx0.f.y1 (by decide)⟩
    refine ZaO (S := Bool) (fun v => v = cC xs x) (fun v => [(163, .bool v), (0, vLines), (7, vSl s), (8, .slice (some ⟨b8, 0, none⟩) al.length c8), (9, .int .i64 (i : Nat)), (10, .pointer (some ⟨b10, 0, none⟩)), (11, .pointer (some ⟨b11, 0, none⟩)), (12, .pointer p), (13, .int .i64 xs.length), (41, .slice (some ⟨b8, 0, none⟩) al.length c8), (42, .int .i64 al.length), (43, .int .i64 (i : Nat))]) (fun _ => mS 224 s ++ [⟨b11, ZD (ZH x.In.From), 97⟩, ⟨b10, rU x, 224⟩, ⟨b8, row rU al sp8, 224⟩]) ?_ (fun v hv4 => ?_)
    ·rcases hp with ⟨hb, rfl⟩ | ⟨hb, bo, co, so, ho, hvo, hmo, rfl⟩
     ·(refine Zbb [0, 1, 2, 3, 4, 5, 6, 7, 8, 9, 10, 11, 12, 13, 14, 15] [16] (_) (h := ?_); refine wkI ?_)
      (repeat (refine wkH ?_))
      repeat (refine wkT ?_; intros)
      repeat (refine wkB ?_; intros)
      exact ZL false (by unfold cC; rw [hb, Bool.false_and]) sbB suB
     ·have hpo := Zcf hb
      have hlo := (Zkb hxo hpo).f
      rw [hvo, hmo]
      simp only [Wf, Wg]
      (refine Zbb [0, 1, 2, 3, 4, 5, 6, 7, 8, 9, 10, 11, 12, 13, 14, 15] [16] (_) (h := ?_); refine wkI ?_)
      (repeat (first | refine wkH ?_ | (refine tC rfl rfl ?_ ?_; focus (exact ⟨hx0.i.r1, ⟨⟨hlo.x0, hlo.x1⟩, hlo.y0, hlo.y1⟩, hxf, htM⟩))))
      repeat (refine wkT ?_; intros)
      repeat (refine wkB ?_; intros)
      exact ZL (smL (lstU xs).F x.F x.In.From.P) (by unfold cC; rw [hb, Bool.true_and]) sbB suB
    subst hv4
    rcases hcC : cC xs x with _ | _
    ·refine ZeC (by rfl) ?_
     (first | refine sX rfl rfl ?_ | (refine sS rfl rfl ?_ ?_; focus omega) | (refine sC rfl rfl ?_ ?_; focus (first | exact trivial | assumption | constructor <;> assumption | exact mb2 rfl rfl | exact mb4 rfl rfl rfl rfl)) | refine cX ?_ | refine cY ?_ | (refine sA rfl rfl ?_; intro _) | refine sT rfl ?_ | refine sF rfl ?_ | (refine sR rfl ?_ ?_; focus omega) | (refine sB rfl rfl ?_; intro _) | (refine sN rfl rfl ?_ ?_; (focus (first | exact trivial | assumption | constructor <;> assumption | exact mb2 rfl rfl | exact mb4 rfl rfl rfl rfl)); intro _; (try simp only [Wf, Wg, Wh])) | refine sW rfl rfl ?_ | refine sK rfl rfl ?_ | refine Zjl rfl ?_ | refine ZeC rfl ?_ | refine pkT rfl rfl rfl rfl ?_ | refine pkF rfl rfl rfl rfl ?_)
     refine ZaO (S := Bool) (fun v => v = cD al i x) (fun v => [(184, .bool v), (0, vLines), (7, vSl s), (8, .slice (some ⟨b8, 0, none⟩) al.length c8), (9, .int .i64 (i : Nat)), (10, .pointer (some ⟨b10, 0, none⟩)), (11, .pointer (some ⟨b11, 0, none⟩)), (13, .int .i64 xs.length), (41, .slice (some ⟨b8, 0, none⟩) al.length c8), (42, .int .i64 al.length), (43, .int .i64 (i : Nat))]) (fun _ => mS 224 s ++ [⟨b11, ZD (ZH x.In.From), 97⟩, ⟨b10, rU x, 224⟩, ⟨b8, row rU al sp8, 224⟩]) ?_ (fun v hv5 => ?_)
     ·by_cases hi1 : i + 1 < al.length
      ·have hya := hao _ (Z0 (i := (i : Int) + 1) (by omega))
       have hyf : (M (gi al ((i : Int) + 1)).F.X0 ≤ 8589934592 ∧ M (gi al ((i : Int) + 1)).F.X1 ≤ 8589934592) ∧ M (gi al ((i : Int) + 1)).F.Y0 ≤ 8589934592 ∧ M (gi al ((i : Int) + 1)).F.Y1 ≤ 8589934592 := ⟨⟨Wi hya.f.x0 (by decide), Wi hya.f.x1 (by decide)⟩, Wi hya.f.y0 (by decide), Wi hya.f.y1 (by decide)⟩
       (refine Zbb [0, 1, 2, 3, 4, 5, 6, 7, 8, 9, 10, 11, 12, 13, 14, 15, 16, 17, 18, 19, 20, 21, 22, 23, 24, 25, 26, 27, 28, 29, 30, 31] [32] (_) (h := ?_); refine wkI ?_)
       (repeat (refine wkH ?_))
       simp only [Wc (show (i : Int) + 1 < (al.length : Int) by omega)]
       (repeat (refine wkH ?_))
       rcases hft : decide ((gi al ((i : Int) + 1)).In.From = x.In.From) with _ | _
       ·(repeat (refine wkH ?_))
        repeat (refine wkT ?_; intros)
        repeat (refine wkB ?_; intros)
        exact ZL false (by unfold cD; rw [hft, Bool.false_and, Bool.and_false]) sbB suB
       ·(repeat (first | refine wkH ?_ | (refine tC rfl rfl ?_ ?_; focus (exact ⟨hx0.i.r1, hyf, hxf, htM⟩))))
        repeat (refine wkT ?_; intros)
        repeat (refine wkB ?_; intros)
        exact ZL (smL (gi al ((i : Int) + 1)).F x.F x.In.From.P) (by unfold cD; rw [hft, Wc hi1, Bool.true_and, Bool.true_and]) sbB suB
      ·(refine Zbb [0, 1, 2, 3, 4, 5, 6, 7, 8, 9, 10, 11, 12, 13, 14, 15, 16, 17, 18, 19, 20, 21, 22, 23, 24, 25, 26, 27, 28, 29, 30, 31] [32] (_) (h := ?_); refine wkI ?_)
       (repeat (refine wkH ?_))
       simp only [We (show ¬ (i : Int) + 1 < (al.length : Int) by omega)]
       (repeat (refine wkH ?_))
       repeat (refine wkT ?_; intros)
       repeat (refine wkB ?_; intros)
       exact ZL false (by unfold cD; rw [We hi1, Bool.false_and]) sbB suB
     subst hv5
     rcases hcD : cD al i x with _ | _
     ·repeat (first | (refine wkB ?_; intros) | (refine wnM ?_ ?_; (focus (exact ⟨hx0.i.r1, hxf, htM⟩)); intros))
      refine sU rfl rfl ?_ ?_ ?_ ?_
      ·rfl
      ·rfl
      ·exact ⟨by decide, by omega, by omega⟩
      intro s'
      repeat (first | (refine wkB ?_; intros) | (refine wnM ?_ ?_; (focus (exact ⟨by omega, by omega⟩)); intros))
      exact Zj ⟨_, i + 1, s'⟩ ⟨hlt, by show xs ++ [redU x] = nrm al (i + 1); rw [hnx, nstp, hI, if_neg (by decide), hcC, if_neg (by decide), hcD, if_neg (by decide)]⟩ sbB suB (by show al.length - (i + 1) < al.length - i; omega)
     ·repeat (first | (refine wkB ?_; intros) | (refine wnM ?_ ?_; (focus (exact ⟨by omega, by omega⟩)); intros))
      exact Zj ⟨xs, i + 1, s⟩ ⟨hlt, by show xs = nrm al (i + 1); rw [hnx, nstp, hI, if_neg (by decide), hcC, if_neg (by decide), hcD, if_pos rfl]⟩ sbB suB (by show al.length - (i + 1) < al.length - i; omega)
    ·have hb : bef xs x.In.From = true := by
      unfold cC at hcC
      simp only [Wq] at hcC
      exact hcC.1
     have hpo := Zcf hb
     rcases hp with ⟨hb', -⟩ | ⟨-, bo, co, so, ho, hvo, hmo, rfl⟩
     ·rw [hb] at hb'; cases hb'
     rw [hvo, hmo]
     simp only [Wf, Wg]
     have ek : ((xs.length : Int) - 1).toNat = xs.length - 1 := by omega
     repeat (refine wkB ?_; intros)
     refine sRF (i := (xs.length : Int) - 1) (f := 19) (clo (lstU xs)) rfl rfl ?_ ?_
     ·omega
     rw [ek]
     obtain ⟨s', hv', hm'⟩ := SlS.put (enc := rU) (k := 36) (b := bo) 224 (ZjO xs (clo (lstU xs))) ho hpo
     rw [← hv']
     repeat (first | (refine wkB ?_; intros) | (refine wnM ?_ ?_; (focus (exact ⟨by omega, by omega⟩)); intros))
     exact Zj ⟨turn xs (clo (lstU xs)), i + 1, s'⟩ ⟨hlt, by show turn xs (clo (lstU xs)) = nrm al (i + 1); rw [hnx, nstp, hI, if_neg (by decide), if_pos hcC]⟩ sbB (by dsimp only; rw [hm']; exact suB) (by show al.length - (i + 1) < al.length - i; omega)
  ·have hge : i = al.length := by have := Wb h; omega
   subst hge
   subst hxs
   repeat (refine wkB ?_; intros)
   obtain ⟨s0, hs1, hs2⟩ := SlS.turn 224 hR.symm s
   exact Zz rfl (Zl rfl) (Zl rfl) (fun w hw => ⟨s0, by dsimp only; rw [hs1, hE], by dsimp only; rw [hs2]; exact hw.sub suB⟩)
end
section
instance Zx4 (w0 : World) (L : List Blk) (v : Value) (us : List UL) [h : LstN w0 L v UL rU us] : SpecR prog w0 L 114 [vLines, v] (SlS rU 36 (nrmR us)) (fun s => .tuple #[vSl s, .int .i64 (nrmE us)]) (fun s => mS 224 s) (us.length ≤ 19 ∧ ∀ u ∈ us, UIn u) := ⟨fun hp w hw => Zi0 v us w (h.out w hw) h.nil hp.1 hp.2⟩
theorem ZqO (us : List UL) : (nrmR us).length ≤ 3 * us.length := by
 unfold nrmR
 split
 ·have h1 := ZhW (allU us) (allU us).length
  have h2 := Zf2 (sor us) (sor us).length
  have h3 := Zf0 us
  unfold allU at h1 ⊢
  omega
 ·simp
instance ZDn : BdC prog 211 [] (.agg #[]) := ⟨fun w => by kernel_rfl⟩
def mNorm (us : List PU) : List PU := mpN ofU (nrmR (mpN toU us us.length)) (nrmR (mpN toU us us.length)).length
theorem Zjk (v : Value) (us : List PU) (w : World) (hv : ArgS w v rP us) (hl : us.length ≤ 19) (hok : ∀ u ∈ mpN toU us us.length, UIn u) :
  Calls prog 63 [v].toArray w (RetM (SlS rP 36 (mNorm us)) (fun s => .tuple #[vSl s, .int .i64 (nrmE (mpN toU us us.length))]) (fun s => mS 115 s) w) := by
 have := ArgC.mk hv
 have hml := Zew toU us us.length
 have hnl := ZqO (mpN toU us us.length)
 refine Zg Tryz.func63 rfl Tryz.ntmps63 rfl ?_
 repeat (first | (refine wkB ?_; intros) | (refine wnM ?_ ?_; (focus (first | exact trivial | omega | exact ⟨by omega, hok⟩)); intros))
 rename_i s1 s2 s3
 exact Zz rfl (Zl rfl) (Zl rfl) (fun w hw => ⟨s3, rfl, hw.sub suB⟩)
instance Zxh (w0 : World) (L : List Blk) (v : Value) (us : List PU) [h : LstC w0 L v PU rP us] : SpecR prog w0 L 63 [v] (SlS rP 36 (mNorm us)) (fun s => .tuple #[vSl s, .int .i64 (nrmE (mpN toU us us.length))]) (fun s => mS 115 s) (us.length ≤ 19 ∧ ∀ u ∈ mpN toU us us.length, UIn u) := ⟨fun hp w hw => Zjk v us w (h.out w hw) hp.1 hp.2⟩
end
end Go.Vt
