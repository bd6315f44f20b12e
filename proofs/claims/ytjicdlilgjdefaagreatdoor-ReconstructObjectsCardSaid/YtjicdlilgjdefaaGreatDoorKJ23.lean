/- that objects are reconstructed from their reports (part 23 of 29.) Conditions: those that each statement names. -/
import Derived.Test.YtjicdlilgjdefaaGreatDoorKJ11
import Derived.Test.YtjicdlilgjdefaaGreatDoorKJ12
import Derived.Test.YtjicdlilgjdefaaGreatDoorKJ13
import Derived.Test.YtjicdlilgjdefaaGreatDoorKJ19
import Derived.Test.YtjicdlilgjdefaaGreatDoorKJ22
set_option linter.unusedSimpArgs false
set_option linter.unusedVariables false
set_option maxHeartbeats 2000000
set_option maxRecDepth 100000
set_option linter.unusedSectionVars false
namespace Go.Vt
open Go.RowKit Go.Proofs
open Go.Proofs.Tryz (prog)
section
theorem Zmn {w0 : World} {n : Nat} {x : Exit} {Q : Exit → Act → World → Prop} {E : Env} {L L' M : List Blk} (hs : L'.Sublist L) (hp : L'.Perm M) (h : JX w0 n x Q E M) : JX w0 n x Q E L := ⟨fun a w ha hw => h.out a w ha ((hw.sub hs).perm hp)⟩
theorem Zm6 {α : Type} (A B C : List α) : (A ++ (B ++ C)).Perm (B ++ (A ++ C)) := by
 rw [← List.append_assoc, ← List.append_assoc]
 exact List.perm_append_comm.append_right _
theorem Zmb {P : Program} {f : FuncId} {args : Array Value} {w : World} {S : Type} {val : S → Value} {mem : S → List Blk} (h : Calls P f args w (RetM S val mem w)) : Nonempty S := by
 obtain ⟨e, w', fr, ⟨s, -⟩, -⟩ := h []
 exact ⟨s⟩
theorem ZpL (w : World) (o : Obj) : (w.alloc o).heap[w.heap.size]? = some o := by
 show (w.heap.push o)[w.heap.size]? = some o
 exact Array.getElem?_push_size
theorem Zt3 (w : World) {l : List Za} {d : Int} (hl : l.length ≤ 6) (hex : ∀ x ∈ l, ExB x) (hd : 0 ≤ d ∧ d ≤ 1073741824) : (-17592186044416 ≤ (offX l d).1 ∧ (offX l d).1 ≤ 17592186044416) ∧ (-17592186044416 ≤ (offX l d).2.1 ∧ (offX l d).2.1 ≤ 17592186044416) := by
 have hW := ZpL w (.cells (row Ze l []) 122 (0, 0))
 generalize w.alloc (.cells (row Ze l []) 122 (0, 0)) = W at hW
 have hv : ArgS W (.slice (some ⟨w.heap.size, 0, none⟩) l.length l.length) Ze l := ZdN hW (Wl _)
 obtain ⟨⟨⟨lo, hi, er⟩, h1, h2, h3⟩⟩ := Zmb (Zgd _ _ _ l d W hv hl hex hd)
 rw [Zev h1]
 exact ⟨h2, h3⟩
theorem ZnI (w : World) {l : List Za} {r : Zb} (hl : l.length ≤ 6) (hex : ∀ x ∈ l, ExB x) (hd : 0 ≤ r.Device ∧ r.Device ≤ 1073741824) (ht : 0 ≤ r.Time ∧ r.Time ≤ 1073741824) : M (corX l r).1 ≤ 8 := by
 have hb := Zt3 w hl hex hd
 unfold corX
 split
 ·have e : (r.Time : Rat) - Rat.divInt ((offX l r.Device).1 + (offX l r.Device).2.1) 2 = Rat.divInt (2 * r.Time - ((offX l r.Device).1 + (offX l r.Device).2.1)) 2 := by
   rw [Rat.divInt_eq_div, Rat.divInt_eq_div, Rat.intCast_sub, Rat.intCast_mul]
   grind
  rw [e]
  exact ZdG (k := 8) (ZcS (by omega)) (by decide) (by decide)
 ·show M (0 : Rat) ≤ 8
  decide
structure XOk (l : List (Zb × Bool)) (x : List (Za × Bool)) : Prop where
 n : l.length ≤ 12
 xn : x.length ≤ 6
 xe : ∀ y ∈ pKE x, ExB y
 rr : ∀ r ∈ pKR l, RepV r
theorem ZpM {rs : List Zb} {p : ZE × Zb} (h : p ∈ winR rs) : p.2 ∈ rs := by
 have key : ∀ (rs : List Zb) (m : List (ZE × Zb)) (p : ZE × Zb), p ∈ rs.foldl winS m → p ∈ m ∨ p.2 ∈ rs := by
  intro rs
  induction rs with
  | nil => intro m p h; exact .inl h
  | cons r rs ih =>
   intro m p h
   rw [List.foldl_cons] at h
   rcases ih _ _ h with h1 | h1
   ·unfold winS at h1
    split at h1
    ·rcases ZdE h1 with h2 | rfl
     ·exact .inl h2
     ·exact .inr (.head _)
    ·split at h1
     ·rcases ZdE h1 with h2 | rfl
      ·exact .inl h2
      ·exact .inr (.head _)
     ·exact .inl h1
   ·exact .inr (.tail _ h1)
 rcases key rs [] p h with h1 | h1
 ·cases h1
 ·exact h1
theorem Zka {rs : List Zb} {r : Zb} (h : r ∈ cntR rs) : r ∈ rs := by
 have h1 := (ZaM _).mem_iff.1 h
 obtain ⟨p, hp, rfl⟩ := List.mem_map.1 (List.mem_filter.1 h1).1
 exact ZpM hp
theorem Zf1 {rs : List Zb} {r : Zb} {o : Int} (h : r ∈ ofL rs o) : r ∈ rs := Zka (List.mem_filter.1 h).1
section
variable (ex : List Za)
noncomputable def tmF (r : Zb) : Option Zc := if (corX ex r).2 = 0 then some ⟨(corX ex r).1, r⟩ else none
noncomputable def unF (r : Zb) : Option Zb := if (corX ex r).2 = 0 then none else some r
noncomputable def tmXL (cs : List Zb) : List Zc := cs.filterMap (tmF ex)
noncomputable def unXL (cs : List Zb) : List Zb := cs.filterMap (unF ex)
noncomputable def tmXS (cs : List Zb) : List Zc := srtTm (tmXL ex cs) ((tmXL ex cs).length - 1)
end
theorem ZdM {ex : List Za} {cs : List Zb} : (tmXL ex cs).length ≤ cs.length := List.length_filterMap_le _ _
theorem Zp6 {ex : List Za} {cs : List Zb} : (unXL ex cs).length ≤ cs.length := List.length_filterMap_le _ _
theorem Zrf {ex : List Za} {cs : List Zb} : (tmXS ex cs).length ≤ cs.length := by
 unfold tmXS
 rw [ZcA]
 exact ZdM
theorem ZeJ {ex : List Za} {cs : List Zb} {z : Zc} (h : z ∈ tmXL ex cs) : z.Report ∈ cs ∧ z.T = (corX ex z.Report).1 := by
 obtain ⟨r, hr, hz⟩ := List.mem_filterMap.1 h
 unfold tmF at hz
 split at hz
 ·injection hz with hz
  subst hz
  exact ⟨hr, rfl⟩
 ·cases hz
theorem Zhd (w : World) {ex : List Za} {cs : List Zb} (hl : ex.length ≤ 6) (hex : ∀ x ∈ ex, ExB x) (hc : ∀ r ∈ cs, RepV r) : ∀ z ∈ tmXL ex cs, TkOk z := fun z hz => by
 obtain ⟨h1, h2⟩ := ZeJ hz
 have h := hc _ h1
 exact ⟨by rw [h2]; exact ZnI w hl hex h.d h.t, h.x, h.y⟩
theorem TkOk.tm {z : Zc} (h : TkOk z) : TmOk z := Wi h.t (by decide)
theorem Zmy (xs : List Zc) : ∀ z ∈ srtTm xs (xs.length - 1), z ∈ xs := fun z hz => by
 rcases Nat.eq_zero_or_pos xs.length with h0 | h0
 ·rw [List.length_eq_zero_iff.1 h0] at hz ⊢
  exact hz
 ·exact Zfm xs (xs.length - 1) (by omega) z hz
theorem ZjI {ex : List Za} {cs : List Zb} {m : Nat} (h : m < cs.length) : tmXL ex (cs.take (m + 1)) = tmXL ex (cs.take m) ++ (tmF ex (gi cs (m : Int))).toList ∧ unXL ex (cs.take (m + 1)) = unXL ex (cs.take m) ++ (unF ex (gi cs (m : Int))).toList := by
 rw [Wn h, tmXL, unXL, List.filterMap_append, List.filterMap_append, Zk h]
 refine ⟨congrArg _ ?_, congrArg _ ?_⟩
 ·cases hf : tmF ex cs[m] <;> simp [hf]
 ·cases hf : unF ex cs[m] <;> simp [hf]
noncomputable def tmX (l : List (Zb × Bool)) (x : List (Za × Bool)) (o : Int) : List Zc := tmXS (sortedE (pKE x)) (ofL (sorted (pKR l)) o)
section
variable {l : List (Zb × Bool)} {x : List (Za × Bool)} {o : Int}
theorem XOk.sx (h : XOk l x) : (sortedE (pKE x)).length ≤ 6 ∧ ∀ y ∈ sortedE (pKE x), ExB y := by
 refine ⟨by rw [Zgf, Ws]; exact h.xn, fun y hy => h.xe y ((ZcO _).mem_iff.1 hy)⟩
theorem XOk.sr (h : XOk l x) : (sorted (pKR l)).length ≤ 12 ∧ ∀ y ∈ sorted (pKR l), RepV y := by
 refine ⟨by rw [ZbS, Ws]; exact h.n, fun y hy => h.rr y ((ZaM _).mem_iff.1 hy)⟩
theorem XOk.len (h : XOk l x) : (tmX l x o).length ≤ 12 := Wi Zrf (Wi ZgW h.sr.1)
theorem XOk.tk (h : XOk l x) (w : World) : ∀ z ∈ tmX l x o, TkOk z := fun z hz => Zhd w h.sx.1 h.sx.2 (fun r hr => h.sr.2 r (Zf1 hr)) z (Zmy _ z hz)
end
instance (priority := high) ZvC (w0 : World) (L : List Blk) (v : Value) (l : List Za) (r : Zb) [h : LstC w0 L v Za Ze l] : SpecM prog w0 L 55 [v, .agg (Zd r)] (.tuple #[vQ (corX l r).1, .int .i64 (corX l r).2]) (l.length ≤ 6 ∧ (∀ x ∈ l, ExB x) ∧ (0 ≤ r.Device ∧ r.Device ≤ 1073741824) ∧ (0 ≤ r.Time ∧ r.Time ≤ 1073741824)) := ⟨fun hp w hw => by
 have hv := h.out w hw
 obtain ⟨p, cp, rfl⟩ := hv.form
 exact Zjr p l.length cp l r w hv hp.1 hp.2.1 hp.2.2.1 hp.2.2.2⟩
set_option maxHeartbeats 8000000 in
theorem Zkp (w0 w : World) (L : List Blk) (px : Nat) (l : List (Zb × Bool)) (x : List (Za × Bool)) (o : Int) [h : InkX w0 L px l x] (hw : Own w0 L w) (hx : XOk l x) :
  Calls prog 100 [.pointer (some ⟨px, 0, none⟩), .int .i64 o].toArray w (RetM (SlS Zh 12 (tmX l x o) × SlS Zd 8 (unXL (sortedE (pKE x)) (ofL (sorted (pKR l)) o))) (fun s => .tuple #[vSl s.1, vSl s.2]) (fun s => mS 56 s.1 ++ mS 35 s.2) w) := by
 have hk := h.all hw
 have hn := hx.n
 have hxn : x.length ≤ 12 := Wi hx.xn (by decide)
 obtain ⟨hel, hex⟩ := hx.sx
 obtain ⟨hsl, hsr⟩ := hx.sr
 have hol := ZgW (rs := sorted (pKR l)) (o := o)
 have hov : ∀ r ∈ ofL (sorted (pKR l)) o, RepV r := fun r hr => hsr r (Zf1 hr)
 have hTk := Zhd w hel hex hov
 have hdf : tmX l x o = tmXS (sortedE (pKE x)) (ofL (sorted (pKR l)) o) := rfl
 refine Zg Tryz.func100 rfl Tryz.ntmps100 rfl ?_
 repeat (first | (refine wkM ?_; intros) | (refine wnM ?_ ?_; (focus (first | exact hn | exact hxn | exact hsl)); intros))
 rename_i s0 s1 s2
 generalize sorted (pKR l) = rs at *
 generalize hcs : ofL rs o = cs at *
 generalize sortedE (pKE x) = ex at *
 refine Zq (S := (m : Nat) × SlS Zh 12 (tmXL ex (cs.take m)) × SlS Zd 8 (unXL ex (cs.take m))) (fun q => q.1 ≤ cs.length) (fun q => [(4, vSl q.2.1), (5, vSl q.2.2), (6, vSl s0), (16, vF s2), (17, .int .i64 cs.length), (18, .int .i64 (q.1 : Nat))]) (fun q => mS 56 q.2.1 ++ (mS 35 q.2.2 ++ (mF 35 s2 ++ mS 122 s0))) (fun q => cs.length - q.1) ⟨0, SlS.no, SlS.no⟩ (Wm _) sbB suB (fun q hq => ?_)
 obtain ⟨m, q, u⟩ := q
 simp only at hq ⊢
 repeat (refine wkM ?_; intros)
 refine Zn rfl (fun h => ?_) (fun h => ?_)
 ·have hlt : m < cs.length := by have := Wa h; omega
  have hr := hov (gi cs (m : Int)) (Z0 (by omega))
  obtain ⟨hn1, hn2⟩ := ZjI (ex := ex) hlt
  have hl1 := ZdM (ex := ex) (cs := cs.take m)
  have hl2 := Zp6 (ex := ex) (cs := cs.take m)
  rw [Wt] at hl1 hl2
  have hpr : ex.length ≤ 6 ∧ (∀ x ∈ ex, ExB x) ∧ (0 ≤ (gi cs (m : Int)).Device ∧ (gi cs (m : Int)).Device ≤ 1073741824) ∧ (0 ≤ (gi cs (m : Int)).Time ∧ (gi cs (m : Int)).Time ≤ 1073741824) := ⟨hel, hex, hr.d, hr.t⟩
  rcases s2.cases 35 with ⟨x0, -, -⟩ | ⟨bs, cb, sp, hc1, x1, x2⟩
  ·rw [x0] at hlt
   cases hlt
  unfold tmF at hn1
  unfold unF at hn2
  simp only [x1, x2, Wf, Wg]
  repeat (first | (refine wkM ?_; intros) | (refine wnM ?_ ?_; (focus (exact hpr)); intros))
  generalize gi cs (m : Int) = r at *
  by_cases he : (corX ex r).2 = 0
  ·rw [if_pos he] at hn1 hn2
   simp only [Option.toList_some, Option.toList_none, Wh] at hn1 hn2
   simp only [Wc he]
   repeat (refine wkM ?_; intros)
   refine sU rfl rfl ?_ ?_ ?_ ?_
   ·rfl
   ·rfl
   ·exact ⟨by decide, by omega, by omega⟩
   intro s'
   repeat (refine wkO ?_; intros)
   obtain ⟨s3, e1, e2⟩ := SlS.turn 56 hn1.symm s'
   obtain ⟨u3, e3, e4⟩ := SlS.turn 35 hn2.symm u
   exact Zj ⟨m + 1, s3, u3⟩ hlt (by simp only [e1, e3, x1]; exact sbB) (by simp only [e2, e4, x2]; exact suB) (by show cs.length - (m + 1) < cs.length - m; omega)
  ·rw [if_neg he] at hn1 hn2
   simp only [Option.toList_some, Option.toList_none, Wh] at hn1 hn2
   simp only [We he]
   repeat (refine wkM ?_; intros)
   refine sU rfl rfl ?_ ?_ ?_ ?_
   ·rfl
   ·rfl
   ·exact ⟨by decide, by omega, by omega⟩
   intro u'
   repeat (refine wkO ?_; intros)
   obtain ⟨s3, e1, e2⟩ := SlS.turn 56 hn1.symm q
   obtain ⟨u3, e3, e4⟩ := SlS.turn 35 hn2.symm u'
   refine Zmn (M := mS 56 s3 ++ (mS 35 u3 ++ (mF 35 s2 ++ mS 122 s0))) (L' := mS 35 u3 ++ (mS 56 s3 ++ (mF 35 s2 ++ mS 122 s0))) (by simp only [e2, e4, x2]; exact suB) (Zm6 _ _ _) ?_
   exact Zj ⟨m + 1, s3, u3⟩ hlt (by simp only [e1, e3, x1]; exact sbB) (by simp only [x2]; exact suB) (by show cs.length - (m + 1) < cs.length - m; omega)
 ·have hge : m = cs.length := by have := Wb h; omega
  subst hge
  have hok : ∀ x ∈ tmXL ex (cs.take cs.length), TmOk x := by rw [List.take_length]; exact fun z hz => (hTk z hz).tm
  have hl1 := ZdM (ex := ex) (cs := cs.take cs.length)
  rw [List.take_length] at hl1
  repeat (refine wkM ?_; intros)
  refine sZ rfl rfl ⟨by rw [List.take_length]; omega, hok⟩ ?_
  intro s'
  repeat (refine wkM ?_; intros)
  have e0 : tmX l x o = srtTm (tmXL ex (cs.take cs.length)) ((tmXL ex (cs.take cs.length)).length - 1) := by rw [List.take_length]; exact hdf
  obtain ⟨s3, e1, e2⟩ := s'.1.like e0
  obtain ⟨u3, e3, e4⟩ := u.like (show unXL ex cs = unXL ex (cs.take cs.length) by rw [List.take_length])
  refine Zz rfl (Zl rfl) (Zl rfl) (fun w hw => ⟨(s3, u3), ?_, ?_⟩)
  ·show Ending.returned (.tuple #[vSl q, vSl u]) = Ending.returned (.tuple #[vSl s3, vSl u3])
   rw [e1, e3, s'.2]
  ·show Own _ (mS 56 s3 ++ mS 35 u3) w
   rw [e2, e4]
   exact hw.sub suB
instance (priority := high) ZzH (w0 : World) (L : List Blk) (px : Nat) (l : List (Zb × Bool)) (x : List (Za × Bool)) (o : Int) [h : InkX w0 L px l x] : SpecR prog w0 L 100 [.pointer (some ⟨px, 0, none⟩), .int .i64 o] (SlS Zh 12 (tmX l x o) × SlS Zd 8 (unXL (sortedE (pKE x)) (ofL (sorted (pKR l)) o))) (fun s => .tuple #[vSl s.1, vSl s.2]) (fun s => mS 56 s.1 ++ mS 35 s.2) (XOk l x) := ⟨fun hp w hw => Zkp w0 w L px l x o hw hp⟩
instance (priority := high) ZEp (w0 : World) (L : List Blk) (px : Nat) (l : List (Zb × Bool)) (x : List (Za × Bool)) (o : Int) [h : InkX w0 L px l x] : SpecR prog w0 L 50 [.pointer (some ⟨px, 0, none⟩), .int .i64 o] (SlS Zh 12 (tmX l x o)) (fun s => vSl s) (fun s => mS 56 s) (XOk l x) := ⟨fun hp w hw => by
 have hk := h.all hw
 refine Zg Tryz.func50 rfl Tryz.ntmps50 rfl ?_
 repeat (first | (refine wkM ?_; intros) | (refine wnM ?_ ?_; (focus (exact hp)); intros))
 rename_i s
 exact Zf rfl rfl (fun w hw => ⟨s.1, rfl, hw.sub (by simp only [List.append_assoc]; exact suB)⟩)⟩
instance (priority := high) Zu2 (w0 : World) (L : List Blk) (px : Nat) (l : List (Zb × Bool)) (x : List (Za × Bool)) (o : Int) [h : InkX w0 L px l x] : SpecR prog w0 L 24 [.pointer (some ⟨px, 0, none⟩), .int .i64 o] (SlS Zh 12 (tmX l x o)) (fun s => .tuple #[vSl s, .int .i64 0]) (fun s => mS 56 s) (XOk l x) := ⟨fun hp w hw => by
 have hk := h.all hw
 have hcl := hp.len (o := o)
 refine Zg Tryz.func24 rfl Tryz.ntmps24 rfl ?_
 repeat (first | (refine wkM ?_; intros) | (refine wnM ?_ ?_; (focus (exact hp)); intros))
 rename_i s
 simp only [We (show ¬ (256 : Int) < ((tmX l x o).length : Int) by omega)]
 repeat (refine wkM ?_; intros)
 exact Zz rfl (Zl rfl) (Zl rfl) (fun w hw => ⟨s, rfl, hw.sub suB⟩)⟩
end
section
structure KtX (v : Int) (l : List (Zb × Bool)) (x : List (Za × Bool)) : Prop where
 ok : XOk l x
 v : -1048576 ≤ v ∧ v ≤ 1048576
set_option maxHeartbeats 8000000 in
theorem Zjw (w0 w : World) (L : List Blk) (px : Nat) (l : List (Zb × Bool)) (x : List (Za × Bool)) (o : Int) (s : ZC) [h : InkX w0 L px l x] (hw : Own w0 L w) (hk : KtX s.MaxSpeed l x) :
  Calls prog 26 [.pointer (some ⟨px, 0, none⟩), .int .i64 o, .agg (Zm s)].toArray w (RetM (SlS Zh 12 (kpT s.MaxSpeed (tmX l x o))) (fun s => .tuple #[vSl s, .int .i64 0]) (fun s => mS 56 s) w) := by
 have hl := hk.ok.len (o := o)
 have hk1 := hk.ok
 have hin := h.all hw
 refine Zg Tryz.func26 rfl Tryz.ntmps26 rfl ?_
 have hk2 : (tmX l x o).length ≤ 4096 ∧ (∀ z ∈ tmX l x o, TkOk z) ∧ (-1048576 ≤ s.MaxSpeed ∧ s.MaxSpeed ≤ 1048576) := ⟨by omega, hk.ok.tk w, hk.v⟩
 repeat (first | (refine wkM ?_; intros) | (refine wnM ?_ ?_; (focus (first | exact hk1 | exact hk2)); intros))
 rename_i b5 s1 ch
 generalize hT : tmX l x o = T at *
 have hcn := ZbP (cCp s.MaxSpeed T) T.length
 have hcl := fun k (h : k ∈ chainL (cCp s.MaxSpeed T) T.length) => ZeW h
 have hkp : kpT s.MaxSpeed T = (chainL (cCp s.MaxSpeed T) T.length).map fun k : Nat => gi T (k : Int) := rfl
 generalize chainL (cCp s.MaxSpeed T) T.length = C at *
 have hCl := Zfd C
 refine Zq (S := (m : Nat) × SlS Zh 12 ((C.take m).map fun k : Nat => gi T (k : Int))) (fun q => q.1 ≤ C.length) (fun q => [(8, vSl s1), (9, .int .i64 0), (10, vSl q.2), (21, vSl ch), (22, .int .i64 ((cI C).length : Nat)), (23, .int .i64 (q.1 : Nat))]) (fun q => mS 56 q.2 ++ (mS 3 ch ++ (mS 56 s1 ++ [⟨b5, Zm s, 32⟩]))) (fun q => C.length - q.1) ⟨0, SlS.no⟩ (Wm _) sbB suB (fun q hq => ?_)
 obtain ⟨m, q⟩ := q
 simp only at hq ⊢
 have hml : ((C.take m).map fun k : Nat => gi T (k : Int)).length = m := by rw [Ws, Wt]; omega
 repeat (refine wkM ?_; intros)
 refine Zn rfl (fun h => ?_) (fun h => ?_)
 ·have hlt : m < C.length := by have := Wa h; omega
  have hcm : gi (cI C) (m : Int) = ((C[m] : Nat) : Int) := by
   rw [Zk (by omega)]
   simp only [cI, List.getElem_map]
  have hCm := hcl C[m] (List.getElem_mem _)
  have hnx : ((C.take (m + 1)).map fun k : Nat => gi T (k : Int)) = ((C.take m).map fun k : Nat => gi T (k : Int)) ++ [gi T ((C[m] : Nat) : Int)] := by
   rw [Wn hlt, List.map_append]
   rfl
  generalize C[m] = k at *
  rcases s1.cases 56 with ⟨x0, -, -⟩ | ⟨bs, cb, sp, hc1, x1, x2, xne⟩
  ·rw [x0] at hCm
   cases hCm
  rcases ch.cases 3 with ⟨y0, -, -⟩ | ⟨bc, cc, sq, hc2, y1, y2, yne⟩
  ·rw [y0, Wx] at hCl
   omega
  simp only [x1, x2, y1, y2, Wf, Wg]
  repeat (refine wkM ?_; intros)
  simp only [hcm]
  repeat (refine wkM ?_; intros)
  refine sU rfl rfl ?_ ?_ ?_ ?_
  ·rfl
  ·rfl
  ·exact ⟨by decide, by omega, by omega⟩
  intro s'
  repeat (refine wkO ?_; intros)
  obtain ⟨s3, e1, e2⟩ := SlS.turn 56 hnx.symm s'
  exact Zj ⟨m + 1, s3⟩ hlt (by simp only [e1, x1, y1]; exact sbB) (by simp only [e2, x2, y2]; exact suB) (by show C.length - (m + 1) < C.length - m; omega)
 ·have hge : m = C.length := by have := Wb h; omega
  subst hge
  repeat (refine wkM ?_; intros)
  obtain ⟨s3, e1, e2⟩ := SlS.turn 56 (show ((C.take C.length).map fun k : Nat => gi T (k : Int)) = kpT s.MaxSpeed T by rw [List.take_length, hkp]) q
  refine Zz rfl (Zl rfl) (Zl rfl) (fun w hw => ⟨s3, ?_, ?_⟩)
  ·show Ending.returned (.tuple #[vSl q, .int .i64 0]) = Ending.returned (.tuple #[vSl s3, .int .i64 0])
   rw [e1]
  ·show Own _ (mS 56 s3) w
   rw [e2]
   exact hw.sub suB
instance (priority := high) ZxX (w0 : World) (L : List Blk) (px : Nat) (l : List (Zb × Bool)) (x : List (Za × Bool)) (o : Int) (s : ZC) [h : InkX w0 L px l x] : SpecR prog w0 L 26 [.pointer (some ⟨px, 0, none⟩), .int .i64 o, .agg (Zm s)] (SlS Zh 12 (kpT s.MaxSpeed (tmX l x o))) (fun s => .tuple #[vSl s, .int .i64 0]) (fun s => mS 56 s) (KtX s.MaxSpeed l x) := ⟨fun hp w hw => Zjw w0 w L px l x o s hw hp⟩
set_option maxHeartbeats 8000000 in
theorem ZmC (w0 w : World) (L : List Blk) (px : Nat) (l : List (Zb × Bool)) (x : List (Za × Bool)) (o : Int) (s : ZC) [h : InkX w0 L px l x] (hw : Own w0 L w) (hk : KtX s.MaxSpeed l x) (hg : -2147483648 ≤ s.MaxGap ∧ s.MaxGap ≤ 2147483648) :
  Calls prog 30 [.pointer (some ⟨px, 0, none⟩), .int .i64 o, .agg (Zm s)].toArray w (RetM (SlS Zbk 20 (gpT s.MaxGap (kpT s.MaxSpeed (tmX l x o)) ((kpT s.MaxSpeed (tmX l x o)).length - 1))) (fun s => .tuple #[vSl s, .int .i64 0]) (fun s => mS 111 s) w) := by
 have hl := hk.ok.len (o := o)
 have hin := h.all hw
 have hkl : (kpT s.MaxSpeed (tmX l x o)).length ≤ 12 := by
  have := ZbP (cCp s.MaxSpeed (tmX l x o)) (tmX l x o).length
  rw [Zcy]
  omega
 have hok : ∀ z ∈ kpT s.MaxSpeed (tmX l x o), TkOk z := fun z hz => hk.ok.tk w z (Zej hz)
 refine Zg Tryz.func30 rfl Tryz.ntmps30 rfl ?_
 repeat (first | (refine wkM ?_; intros) | (refine wnM ?_ ?_; (focus (exact hk)); intros))
 rename_i b5 s1
 generalize kpT s.MaxSpeed (tmX l x o) = T at *
 refine Zq (S := (m : Nat) × SlS Zbk 20 (gpT s.MaxGap T m)) (fun q => q.1 = 0 ∨ q.1 + 1 ≤ T.length) (fun q => [(5, .pointer (some ⟨b5, 0, none⟩)), (8, vSl s1), (9, .int .i64 0), (10, vSl q.2), (11, .int .i64 ((q.1 + 1 : Nat)))]) (fun q => mS 111 q.2 ++ (mS 56 s1 ++ [⟨b5, Zm s, 32⟩])) (fun q => T.length - q.1) ⟨0, SlS.no⟩ (.inl rfl) sbB suB (fun q hq => ?_)
 obtain ⟨m, q⟩ := q
 simp only at hq ⊢
 have hgl := Zle s.MaxGap T m
 repeat (refine wkM ?_; intros)
 refine Zn rfl (fun h => ?_) (fun h => ?_)
 ·have hlt : m + 1 < T.length := by have := Wa h; omega
  have e1 : ((m + 1 : Nat) : Int) - 1 = (m : Int) := by omega
  have k1 := hok (gi T (m : Int)) (Z0 (by omega))
  have k2 := hok (gi T ((m + 1 : Nat) : Int)) (Z0 (by omega))
  have hnx : gpT s.MaxGap T (m + 1) = if farT s.MaxGap (gi T (m : Int)) (gi T ((m + 1 : Nat) : Int)) then gpT s.MaxGap T m ++ [gapI (gi T (m : Int)) (gi T ((m + 1 : Nat) : Int))] else gpT s.MaxGap T m := rfl
  rcases s1.cases 56 with ⟨x0, -, -⟩ | ⟨bs, cb, sp, hc1, x1, x2, xne⟩
  ·rw [x0] at hlt
   cases hlt
  simp only [x1, x2, Wf, Wg]
  repeat (refine wkM ?_; intros)
  refine jD 11 11 (h := ?_)
  (repeat (refine wkH ?_))
  simp only [e1]
  (repeat (first | refine wkH ?_ | (refine tC rfl rfl ?_ ?_; focus (exact ⟨k1, k2, hg⟩))))
  refine Zo ?_
  refine Zr ?_
  cases hf : farT s.MaxGap (gi T (m : Int)) (gi T ((m + 1 : Nat) : Int))
  ·rw [hf, if_neg (by decide)] at hnx
   repeat (refine wkO ?_; intros)
   obtain ⟨s3, e1, e2⟩ := SlS.turn 111 hnx.symm q
   exact Zj ⟨m + 1, s3⟩ (.inr (by show m + 1 + 1 ≤ T.length; omega)) (by simp only [e1, x1]; exact sbB) (by simp only [e2, x2]; exact suB) (by show T.length - (m + 1) < T.length - m; omega)
  ·rw [hf, if_pos rfl] at hnx
   repeat (refine wkM ?_; intros)
   (refine Zao (.v [0, 1, 2, 3, 4, 5, 6, 7, 8, 9, 10, 11, 12, 13, 14] (.e1 15 (.e1 16 (.e1 17 (.fin))))) ([⟨bs, row Zh T sp, 56⟩]) (h := ?_); refine wkX ?_)
   (repeat (refine wkH ?_))
   simp only [e1]
   (repeat (refine wkH ?_))
   repeat (refine wkT ?_; intros)
   refine eU rfl rfl ?_ ?_ ?_ ?_
   ·rfl
   ·rfl
   ·exact ⟨by decide, by omega, by omega⟩
   intro s'
   repeat (refine wkT ?_; intros)
   obtain ⟨s3, e1, e2⟩ := SlS.turn 111 hnx.symm s'
   repeat (refine wkO ?_; intros)
   exact Zj ⟨m + 1, s3⟩ (.inr (by show m + 1 + 1 ≤ T.length; omega)) (by simp only [e1, x1]; exact sbB) (by simp only [e2, x2]; exact suB) (by show T.length - (m + 1) < T.length - m; omega)
 ·have hge : m = T.length - 1 := by have := Wb h; omega
  repeat (refine wkM ?_; intros)
  obtain ⟨s3, e1, e2⟩ := SlS.turn 111 (show gpT s.MaxGap T m = gpT s.MaxGap T (T.length - 1) by rw [hge]) q
  refine Zz rfl (Zl rfl) (Zl rfl) (fun w hw => ⟨s3, ?_, ?_⟩)
  ·show Ending.returned (.tuple #[vSl q, .int .i64 0]) = Ending.returned (.tuple #[vSl s3, .int .i64 0])
   rw [e1]
  ·show Own _ (mS 111 s3) w
   rw [e2]
   exact hw.sub suB
instance (priority := high) ZAT (w0 : World) (L : List Blk) (px : Nat) (l : List (Zb × Bool)) (x : List (Za × Bool)) (o : Int) (s : ZC) [h : InkX w0 L px l x] : SpecR prog w0 L 30 [.pointer (some ⟨px, 0, none⟩), .int .i64 o, .agg (Zm s)] (SlS Zbk 20 (gpT s.MaxGap (kpT s.MaxSpeed (tmX l x o)) ((kpT s.MaxSpeed (tmX l x o)).length - 1))) (fun s => .tuple #[vSl s, .int .i64 0]) (fun s => mS 111 s) (KtX s.MaxSpeed l x ∧ (-2147483648 ≤ s.MaxGap ∧ s.MaxGap ≤ 2147483648)) := ⟨fun hp w hw => ZmC w0 w L px l x o s hw hp.1 hp.2⟩
noncomputable def explX (v : Int) (l : List (Zb × Bool)) (x : List (Za × Bool)) (r : Zb) : Int :=
 if statR (sorted (pKR l)) r = 0 then 0 else if statR (sorted (pKR l)) r = 2 then 1 else if statR (sorted (pKR l)) r = 3 then 2
 else if (tmX l x r.Object).any (isT r) = false then 3 else if (kpT v (tmX l x r.Object)).any (isT r) then 5 else 4
set_option maxHeartbeats 8000000 in
theorem ZmP (w0 w : World) (L : List Blk) (px : Nat) (l : List (Zb × Bool)) (x : List (Za × Bool)) (r : Zb) (s : ZC) [h : InkX w0 L px l x] (hw : Own w0 L w) (hk : KtX s.MaxSpeed l x) :
  Calls prog 16 [.pointer (some ⟨px, 0, none⟩), .agg (Zd r), .agg (Zm s)].toArray w (Ret (.tuple #[.int .i64 (explX s.MaxSpeed l x r), .int .i64 0]) w) := by
 have hl := hk.ok.len (o := r.Object)
 have hin := h.all hw
 have hn := hk.ok.n
 have hdef : explX s.MaxSpeed l x r = if statR (sorted (pKR l)) r = 0 then 0 else if statR (sorted (pKR l)) r = 2 then 1 else if statR (sorted (pKR l)) r = 3 then 2 else if (tmX l x r.Object).any (isT r) = false then 3 else if (kpT s.MaxSpeed (tmX l x r.Object)).any (isT r) then 5 else 4 := rfl
 have hsl : (sorted (pKR l)).length ≤ 1048576 := by rw [ZbS, Ws]; omega
 have hkl : (kpT s.MaxSpeed (tmX l x r.Object)).length ≤ 1048576 := by
  have := ZbP (cCp s.MaxSpeed (tmX l x r.Object)) (tmX l x r.Object).length
  rw [Zcy]
  omega
 have htl : (tmX l x r.Object).length ≤ 1048576 := by omega
 have hk1 := hk.ok
 refine Zg Tryz.func16 rfl Tryz.ntmps16 rfl ?_
 repeat (refine wkM ?_; intros)
 rename_i b4 b5
 (refine Zao (.v [0, 2] (.e1 1 (.e1 3 (.fin)))) (_) (h := ?_); refine wkX ?_)
 (repeat (refine wkH ?_))
 repeat (first | (refine wkT ?_; intros) | (refine tC rfl rfl ?_ ?_; focus (first | exact hn | exact hsl | exact hk)) | (refine uC rfl rfl ?_ ?_; focus (first | exact hn | exact hsl | exact hk)) | (refine eN rfl rfl ?_ ?_; (focus (first | exact hn | exact hsl | exact hk)); intro _; (try simp only [Wf, Wg, Wh])))
 repeat (refine wkM ?_; intros)
 generalize hst : statR (sorted (pKR l)) r = st at *
 by_cases c0 : st = 0
 ·rw [if_pos c0] at hdef
  simp only [Wc c0]
  rw [hdef]
  repeat (refine wkM ?_; intros)
  exact Zz rfl (Zl rfl) (Zl rfl) (fun w hw => Zi hw)
 rw [if_neg c0] at hdef
 simp only [We c0]
 repeat (refine wkM ?_; intros)
 by_cases c2 : st = 2
 ·rw [if_pos c2] at hdef
  simp only [Wc c2]
  rw [hdef]
  repeat (refine wkM ?_; intros)
  exact Zz rfl (Zl rfl) (Zl rfl) (fun w hw => Zi hw)
 rw [if_neg c2] at hdef
 simp only [We c2]
 repeat (refine wkM ?_; intros)
 by_cases c3 : st = 3
 ·rw [if_pos c3] at hdef
  simp only [Wc c3]
  rw [hdef]
  repeat (refine wkM ?_; intros)
  exact Zz rfl (Zl rfl) (Zl rfl) (fun w hw => Zi hw)
 rw [if_neg c3] at hdef
 simp only [We c3]
 repeat (first | (refine wkM ?_; intros) | (refine wnM ?_ ?_; (focus (first | exact hk1 | exact htl)); intros))
 cases hc : (tmX l x r.Object).any (isT r)
 ·rw [hc, if_pos rfl] at hdef
  rw [hdef]
  repeat (refine wkM ?_; intros)
  exact Zz rfl (Zl rfl) (Zl rfl) (fun w hw => Zi hw)
 rw [hc, if_neg (by decide)] at hdef
 repeat (first | (refine wkM ?_; intros) | (refine wnM ?_ ?_; (focus (first | exact hk | exact hkl)); intros))
 cases hc2 : (kpT s.MaxSpeed (tmX l x r.Object)).any (isT r)
 ·rw [hc2, if_neg (by decide)] at hdef
  rw [hdef]
  repeat (refine wkM ?_; intros)
  exact Zz rfl (Zl rfl) (Zl rfl) (fun w hw => Zi hw)
 ·rw [hc2, if_pos rfl] at hdef
  rw [hdef]
  repeat (refine wkM ?_; intros)
  exact Zz rfl (Zl rfl) (Zl rfl) (fun w hw => Zi hw)
instance (priority := high) ZBr (w0 : World) (L : List Blk) (px : Nat) (l : List (Zb × Bool)) (x : List (Za × Bool)) (r : Zb) (s : ZC) [h : InkX w0 L px l x] : SpecM prog w0 L 16 [.pointer (some ⟨px, 0, none⟩), .agg (Zd r), .agg (Zm s)] (.tuple #[.int .i64 (explX s.MaxSpeed l x r), .int .i64 0]) (KtX s.MaxSpeed l x) := ⟨fun hp w hw => ZmP w0 w L px l x r s hw hp⟩
end
section
section
variable {κ : Type} [DecidableEq κ]
structure SetM (l : List (κ × Bool)) : Prop where
 nd : (l.map (·.1)).Nodup
 tr : ∀ p ∈ l, p.2 = true
theorem SetM.nil : SetM ([] : List (κ × Bool)) := ⟨List.nodup_nil, (fun p h => by cases h)⟩
theorem Zgk {α : Type} {x k : κ} {v : α} : ∀ {l : List (κ × α)}, k ∈ (mput l x v).map (·.1) ↔ k ∈ l.map (·.1) ∨ k = x
 | [] => by simp [mput]
 | q :: l => by
  have ih := Zgk (x := x) (k := k) (v := v) (l := l)
  simp only [mput]
  split
  ·rename_i h
   simp only [List.map_cons, Ww]
   constructor
   ·rintro (h1 | h1)
    ·exact .inr h1
    ·exact .inl (.inr h1)
   ·rintro ((h1 | h1) | h1)
    ·exact .inl (h1.trans h.symm)
    ·exact .inr h1
    ·exact .inl h1
  ·simp only [List.map_cons, Ww, ih, or_assoc]
theorem SetM.put {l : List (κ × Bool)} (h : SetM l) (x : κ) : SetM (mput l x true) := by
 refine ⟨?_, fun p hp => ?_⟩
 ·rcases Zfc (x := x) (v := true) l with h1 | ⟨h1, h2⟩
  ·rw [h1]; exact h.nd
  ·rw [h2]
   exact List.nodup_append.2 ⟨h.nd, by simp, fun a ha b hb => by rw [Wo] at hb; rintro rfl; exact h1 (hb ▸ ha)⟩
 ·rcases ZdE hp with h1 | rfl
  ·exact h.tr p h1
  ·rfl
theorem SetM.get {l : List (κ × Bool)} (h : SetM l) (k : κ) : ((mget l k).getD false = true) ↔ k ∈ l.map (·.1) := by
 obtain ⟨h1, h2⟩ := h
 induction l with
 | nil => simp [mget]
 | cons p l ih =>
  have ih := ih (List.nodup_cons.1 h1).2 fun p hp => h2 p (.tail _ hp)
  have hp := h2 p (.head _)
  simp only [mget, List.map_cons, Ww]
  split
  ·rename_i he
   simp [he, hp]
  ·rename_i he
   rw [ih]
   constructor
   ·exact .inr
   ·rintro (h | h)
    ·exact (he h).elim
    ·exact h
def nwK (R acc : List (κ × Bool)) (r : κ) : List (κ × Bool) := if (mget R r).getD false = true then acc else mput acc r true
def nwL (R : List (κ × Bool)) (rs : List κ) : List (κ × Bool) := rs.foldl (nwK R) []
theorem ZjG [Inhabited κ] {R : List (κ × Bool)} {rs : List κ} {m : Nat} (h : m < rs.length) : nwL R (rs.take (m + 1)) = nwK R (nwL R (rs.take m)) (gi rs (m : Int)) := by
 rw [Wn h, nwL, List.foldl_append, Zk h]
 rfl
theorem Zji {R : List (κ × Bool)} (hR : SetM R) (rs : List κ) : SetM (nwL R rs) ∧ (nwL R rs).length ≤ rs.length ∧ ∀ k, k ∈ (nwL R rs).map (·.1) ↔ k ∈ rs ∧ k ∉ R.map (·.1) := by
 have key : ∀ (rs : List κ) (acc : List (κ × Bool)), SetM acc → SetM (rs.foldl (nwK R) acc) ∧ (rs.foldl (nwK R) acc).length ≤ acc.length + rs.length ∧ ∀ k, k ∈ (rs.foldl (nwK R) acc).map (·.1) ↔ k ∈ acc.map (·.1) ∨ (k ∈ rs ∧ k ∉ R.map (·.1)) := by
  intro rs
  induction rs with
  | nil => intro acc h; exact ⟨h, Wl _, fun k => by simp⟩
  | cons r rs ih =>
   intro acc h
   rw [List.foldl_cons, Wu]
   by_cases hr : (mget R r).getD false = true
   ·rw [show nwK R acc r = acc from if_pos hr]
    obtain ⟨h1, h2, h3⟩ := ih acc h
    refine ⟨h1, by omega, fun k => ?_⟩
    rw [h3]
    have hk := (hR.get r).1 hr
    constructor
    ·rintro (h4 | ⟨h4, h5⟩)
     ·exact .inl h4
     ·exact .inr ⟨.tail _ h4, h5⟩
    ·rintro (h4 | ⟨h4, h5⟩)
     ·exact .inl h4
     ·rcases List.mem_cons.1 h4 with rfl | h4
      ·exact (h5 hk).elim
      ·exact .inr ⟨h4, h5⟩
   ·rw [show nwK R acc r = mput acc r true from if_neg hr]
    obtain ⟨h1, h2, h3⟩ := ih (mput acc r true) (h.put r)
    have hl := ZeO acc r true
    have hk : r ∉ R.map (·.1) := fun h => hr ((hR.get r).2 h)
    refine ⟨h1, by omega, fun k => ?_⟩
    rw [h3, Zgk]
    constructor
    ·rintro ((h4 | rfl) | ⟨h4, h5⟩)
     ·exact .inl h4
     ·exact .inr ⟨.head _, hk⟩
     ·exact .inr ⟨.tail _ h4, h5⟩
    ·rintro (h4 | ⟨h4, h5⟩)
     ·exact .inl (.inl h4)
     ·rcases List.mem_cons.1 h4 with rfl | h4
      ·exact .inl (.inr rfl)
      ·exact .inr ⟨h4, h5⟩
 obtain ⟨h1, h2, h3⟩ := key rs [] SetM.nil
 refine ⟨h1, by rw [Wx, Nat.zero_add] at h2; exact h2, fun k => ?_⟩
 rw [nwL, h3]
 simp
theorem SetM.perm {l k : List (κ × Bool)} (h : SetM l) (p : k.Perm l) : SetM k := ⟨(p.map _).nodup_iff.2 h.nd, fun q hq => h.tr q (p.mem_iff.1 hq)⟩
theorem Zr0 {R : List (κ × Bool)} (hR : SetM R) : ∀ {q : List (κ × Bool)}, (∀ p ∈ q, p.2 = true) → SetM (cpy R q) ∧ (cpy R q).length ≤ R.length + q.length ∧ ∀ k, k ∈ (cpy R q).map (·.1) ↔ k ∈ R.map (·.1) ∨ k ∈ q.map (·.1) := by
 intro q
 induction q generalizing R with
 | nil => intro _; exact ⟨hR, Wl _, fun k => by simp [cpy]⟩
 | cons p q ih =>
  intro hq
  have hp := hq p (.head _)
  obtain ⟨h1, h2, h3⟩ := ih (R := mput R p.1 p.2) (by rw [hp]; exact hR.put p.1) fun z hz => hq z (.tail _ hz)
  have hl := ZeO R p.1 p.2
  refine ⟨h1, by rw [Wu]; exact Wi h2 (by omega), fun k => ?_⟩
  rw [show cpy R (p :: q) = cpy (mput R p.1 p.2) q from rfl, h3, Zgk, List.map_cons, Ww, or_assoc]
structure AddOk (R R' : List (κ × Bool)) (rs : List κ) : Prop where
 sm : SetM R'
 mem : ∀ k, k ∈ R'.map (·.1) ↔ k ∈ R.map (·.1) ∨ k ∈ rs
 len : R'.length ≤ R.length + rs.length
theorem AddOk.mk' {R q : List (κ × Bool)} {rs : List κ} (hR : SetM R) (hp : q.Perm (nwL R rs)) : AddOk R (cpy R q) rs := by
 obtain ⟨h1, h2, h3⟩ := Zji hR rs
 obtain ⟨g1, g2, g3⟩ := Zr0 hR (h1.perm hp).tr
 refine ⟨g1, fun k => ?_, by rw [hp.length_eq] at g2; omega⟩
 rw [g3, (hp.map (·.1)).mem_iff, h3]
 constructor
 ·rintro (h | ⟨h, -⟩)
  ·exact .inl h
  ·exact .inr h
 ·rintro (h | h)
  ·exact .inl h
  ·by_cases hk : k ∈ R.map (·.1)
   ·exact .inl hk
   ·exact .inr ⟨h, hk⟩
end
theorem LstC.blk' {α : Type} {enc : α → Array Value} {xs : List α} {k : Nat} {w0 w : World} {L1 : List Blk} {v : Value} [he : EncC enc (k + 1)] (h : LstC w0 L1 v α enc xs) (hw : Own w0 L1 w) (hne : xs ≠ []) : ∃ b o c, v = .slice (some ⟨b, o, none⟩) xs.length c ∧ xs.length ≤ c ∧ ∀ L, L1.Sublist L → RowC w0 L b o α enc xs := by
 obtain ⟨b, o, c, hv, hc, -⟩ := (h.out w hw).blk (k := k) hne []
 refine ⟨b, o, c, hv, hc, fun L hL => ⟨fun w' hw' => ?_⟩⟩
 obtain ⟨b', o', c', hv', -, hr⟩ := (h.out w' (hw'.sub hL)).blk (k := k) hne []
 rw [hv] at hv'
 injection hv' with e1 e2 e3
 injection e1 with e1
 injection e1 with e4 e5
 subst e4 e5
 exact hr.out w' (Own.start w')
instance (priority := 50) lstCons {α : Type} {enc : α → Array Value} {xs : List α} (w0 : World) (e : Blk) (L : List Blk) (v : Value) [h : LstC w0 L v α enc xs] : LstC w0 (e :: L) v α enc xs := ⟨fun w hw => h.out w (hw.sub (List.sublist_cons_self _ _))⟩
instance (priority := 10) lstNilE (w0 : World) (L : List Blk) : LstC w0 L (.slice none 0 0) Za Ze [] := ⟨fun _ _ => ⟨.inl ⟨rfl, rfl⟩⟩⟩
structure ExV (y : Za) : Prop where
 b : ExB y
 ne : y.From ≠ y.To
instance ZzM (y : Za) : SpecC prog 94 [.agg (Ze y)] (.int .i64 0) (ExV y) := ⟨fun hp w => by
 refine Zg Tryz.func94 rfl Tryz.ntmps94 rfl ?_
 have i1 := in2 hp.b.f hp.b.t
 have i2 := in3 hp.b.s hp.b.r hp.b.l
 repeat (first | (refine wkM ?_; intros) | (refine wnM ?_ ?_; (focus (first | exact i1 | exact i2)); intros))
 simp only [We hp.ne]
 repeat (first | (refine wkM ?_; intros) | (refine wnM ?_ ?_; (focus (first | exact i1 | exact i2)); intros))
 exact Zf rfl rfl (fun w hw => Zi hw)⟩
abbrev AddS (R : List (Zb × Bool)) (X : List (Za × Bool)) (rs : List Zb) (es : List Za) : Type := { q : (List (Zb × Bool) × List (Za × Bool)) × Int // AddOk R q.1.1 rs ∧ AddOk X q.1.2 es }
set_option maxHeartbeats 8000000 in
theorem Zn3 (w0 w : World) (L1 : List Blk) (px m1 m2 : Nat) (hr he : Sl) (R : List (Zb × Bool)) (X : List (Za × Bool)) (rs : List Zb) (es : List Za) (Tx : TypeId) [kx : AtC w0 L1 px (vIn m1 m2) Tx] (hrs : LstC w0 L1 (.slice hr.a hr.len hr.cap) Zb Zd rs) (hes : LstC w0 L1 (.slice he.a he.len he.cap) Za Ze es) (hR : R.length + rs.length ≤ 4096) (hX : X.length + es.length ≤ 4096) (okR : SetM R) (okX : SetM X) (hw : Own w0 (⟨m1, .obj (mRp R), 177⟩ :: ⟨m2, .obj (mEx X), 178⟩ :: L1) w) :
  Calls prog 95 [.pointer (some ⟨px, 0, none⟩), .agg (Zs ⟨hr, he⟩)].toArray w (RetX w0 (AddS R X rs es) (fun q => .tuple #[.int .i64 q.1.2, .int .i64 0]) (fun q => ⟨m1, .obj (mRp q.1.1.1), 177⟩ :: ⟨m2, .obj (mEx q.1.1.2), 178⟩ :: L1)) := by
 have hwL : Own w0 L1 w := hw.sub ((List.sublist_cons_self _ _).trans (List.sublist_cons_self _ _))
 obtain ⟨p1, n1, c1⟩ := hr
 obtain ⟨p2, n2, c2⟩ := he
 obtain ⟨p1', c1', hf1⟩ := (hrs.out w (hw.sub ((List.sublist_cons_self _ _).trans (List.sublist_cons_self _ _)))).form
 injection hf1 with f1 f2 f3
 dsimp only at f1 f2 f3
 subst f1 f2 f3
 obtain ⟨p2', c2', hf2⟩ := (hes.out w (hw.sub ((List.sublist_cons_self _ _).trans (List.sublist_cons_self _ _)))).form
 injection hf2 with g1 g2 g3
 dsimp only at g1 g2 g3
 subst g1 g2 g3
 refine Z2 Tryz.func95 rfl Tryz.ntmps95 rfl hw ?_
 repeat (refine wkM ?_; intros)
 rename_i b3 b12 b13
 refine Zq (S := Nat) (fun m => m ≤ rs.length) (fun m => [(0, .pointer (some ⟨px, 0, none⟩)), (3, .pointer (some ⟨b3, 0, none⟩)), (6, .map (some b12)), (7, .map (some b13)), (15, .slice p1 rs.length c1), (16, .int .i64 rs.length), (17, .int .i64 (m : Nat))]) (fun m => ⟨b13, .obj (mEx []), 178⟩ :: ⟨b12, .obj (mRp (nwL R (rs.take m))), 177⟩ :: ⟨b3, Zs ⟨⟨p1, rs.length, c1⟩, ⟨p2, es.length, c2⟩⟩, 40⟩ :: ⟨m1, .obj (mRp R), 177⟩ :: ⟨m2, .obj (mEx X), 178⟩ :: L1) (fun m => rs.length - m) 0 (Wm _) sbB slB (fun m hm => ?_)
 repeat (refine wkM ?_; intros)
 refine Zn rfl (fun h => ?_) (fun h => ?_)
 ·have hlt : m < rs.length := by have := Wa h; omega
  have hnx := ZjG (R := R) hlt
  have hne : rs ≠ [] := fun h0 => by rw [h0] at hlt; simp at hlt
  obtain ⟨bw, ow, cw, hvw, hcw, hrow⟩ := hrs.blk' (k := 7) hwL hne
  injection hvw with x1 x2 x3
  subst x1
  have hrow' : ∀ (L : List Blk) [SblC L1 L], RowC w0 L bw ow Zb Zd rs := fun L hs => hrow L hs.out
  unfold nwK at hnx
  repeat (refine wkM ?_; intros)
  (refine jD 7 7 (h := ?_); (repeat (refine wkH ?_)); refine Zo ?_; (repeat (refine Z8 ?_; intro _)); refine Zr ?_)
  repeat (refine wkM ?_; intros)
  cases hk : (mget R (gi rs (m : Int))).getD false
  ·rw [if_neg (by rw [hk]; decide)] at hnx
   simp only [hk, Bool.not_false]
   repeat (refine wkO ?_; intros)
   exact Zj (m + 1) hlt sbB (by rw [hnx]; exact List.sublist_cons_self _ _) (by omega)
  ·rw [if_pos hk] at hnx
   simp only [hk, Bool.not_true]
   repeat (refine wkO ?_; intros)
   exact Zj (m + 1) hlt sbB (by rw [hnx]; exact List.sublist_cons_self _ _) (by omega)
 have hge : m = rs.length := by have := Wb h; omega
 subst hge
 rw [List.take_length]
 repeat (refine wkM ?_; intros)
 refine Zq (S := Nat) (fun m => m ≤ es.length) (fun m => [(0, .pointer (some ⟨px, 0, none⟩)), (6, .map (some b12)), (7, .map (some b13)), (32, .slice p2 es.length c2), (33, .int .i64 es.length), (34, .int .i64 (m : Nat))]) (fun m => ⟨b13, .obj (mEx (nwL X (es.take m))), 178⟩ :: ⟨b12, .obj (mRp (nwL R rs)), 177⟩ :: ⟨m1, .obj (mRp R), 177⟩ :: ⟨m2, .obj (mEx X), 178⟩ :: L1) (fun m => es.length - m) 0 (Wm _) sbB slB (fun m hm => ?_)
 repeat (refine wkM ?_; intros)
 refine Zn rfl (fun h => ?_) (fun h => ?_)
 ·have hlt : m < es.length := by have := Wa h; omega
  have hnx := ZjG (R := X) hlt
  have hne : es ≠ [] := fun h0 => by rw [h0] at hlt; simp at hlt
  obtain ⟨bw, ow, cw, hvw, hcw, hrow⟩ := hes.blk' (k := 4) hwL hne
  injection hvw with x1 x2 x3
  subst x1
  have hrow' : ∀ (L : List Blk) [SblC L1 L], RowC w0 L bw ow Za Ze es := fun L hs => hrow L hs.out
  unfold nwK at hnx
  repeat (refine wkM ?_; intros)
  (refine jD 7 7 (h := ?_); (repeat (refine wkH ?_)); refine Zo ?_; (repeat (refine Z8 ?_; intro _)); refine Zr ?_)
  repeat (refine wkM ?_; intros)
  cases hk : (mget X (gi es (m : Int))).getD false
  ·rw [if_neg (by rw [hk]; decide)] at hnx
   simp only [hk, Bool.not_false]
   repeat (refine wkO ?_; intros)
   exact Zj (m + 1) hlt sbB (by rw [hnx]; exact List.sublist_cons_self _ _) (by omega)
  ·rw [if_pos hk] at hnx
   simp only [hk, Bool.not_true]
   repeat (refine wkO ?_; intros)
   exact Zj (m + 1) hlt sbB (by rw [hnx]; exact List.sublist_cons_self _ _) (by omega)
 have hge : m = es.length := by have := Wb h; omega
 subst hge
 rw [List.take_length]
 have hnl := (Zji okR rs).2.1
 have hml := (Zji okX es).2.1
 repeat (refine wkM ?_; intros)
 simp only [We (show ¬ (4096 : Int) < (R.length : Int) + ((nwL R rs).length : Int) by omega)]
 repeat (refine wkM ?_; intros)
 simp only [We (show ¬ (4096 : Int) < (X.length : Int) + ((nwL X es).length : Int) by omega)]
 repeat (refine wkM ?_; intros)
 refine sZ rfl rfl trivial ?_
 intro q1
 repeat (refine wkM ?_; intros)
 refine sZ rfl rfl trivial ?_
 intro q2
 repeat (refine wkM ?_; intros)
 refine Zz rfl (Zl rfl) (Zl rfl) (fun w hw => ⟨⟨((cpy R q1.1, cpy X q2.1), _), AddOk.mk' okR q1.2, AddOk.mk' okX q2.2⟩, rfl, ?_⟩)
 refine (hw.sub (?_ : (⟨m2, .obj (mEx (cpy X q2.1)), 178⟩ :: ⟨m1, .obj (mRp (cpy R q1.1)), 177⟩ :: L1 : List Blk).Sublist _)).perm (.swap _ _ _)
 exact suB
instance ZDS (w0 : World) (L L0 L1 : List Blk) (px m1 m2 : Nat) (hr he : Sl) (R : List (Zb × Bool)) (X : List (Za × Bool)) (rs : List Zb) (es : List Za) (Tx Tx' : TypeId) [kx0 : AtC w0 L px (vIn m1 m2) Tx'] [hd : DelO m1 L (mRp R) 177 L0] [hd2 : DelO m2 L0 (mEx X) 178 L1] [kx : AtC w0 L1 px (vIn m1 m2) Tx] [hrs : LstC w0 L1 (.slice hr.a hr.len hr.cap) Zb Zd rs] [hes : LstC w0 L1 (.slice he.a he.len he.cap) Za Ze es] :
  SpecX prog w0 L 95 [.pointer (some ⟨px, 0, none⟩), .agg (Zs ⟨hr, he⟩)] (AddS R X rs es) (fun q => .tuple #[.int .i64 q.1.2, .int .i64 0]) (fun q => ⟨m1, .obj (mRp q.1.1.1), 177⟩ :: ⟨m2, .obj (mEx q.1.1.2), 178⟩ :: L1) (R.length + rs.length ≤ 4096 ∧ X.length + es.length ≤ 4096 ∧ SetM R ∧ SetM X) :=
 ⟨fun hp w hw => Zn3 w0 w L1 px m1 m2 hr he R X rs es Tx hrs hes hp.1 hp.2.1 hp.2.2.1 hp.2.2.2 (hw.perm (hd.out.trans (hd2.out.cons _)))⟩
set_option maxHeartbeats 8000000 in
theorem ZnL (w0 w : World) (L1 : List Blk) (px m1 m2 : Nat) (hr he : Sl) (R : List (Zb × Bool)) (X : List (Za × Bool)) (rs : List Zb) (es : List Za) (Tx : TypeId) [kx : AtC w0 L1 px (vIn m1 m2) Tx] (hrs : LstC w0 L1 (.slice hr.a hr.len hr.cap) Zb Zd rs) (hes : LstC w0 L1 (.slice he.a he.len he.cap) Za Ze es) (hR : R.length + rs.length ≤ 4096) (hX : X.length + es.length ≤ 4096) (okR : SetM R) (okX : SetM X) (hvr : ∀ r ∈ rs, RepV r) (hve : ∀ y ∈ es, ExV y) (hw : Own w0 (⟨m1, .obj (mRp R), 177⟩ :: ⟨m2, .obj (mEx X), 178⟩ :: L1) w) :
  Calls prog 44 [.pointer (some ⟨px, 0, none⟩), .agg (Zs ⟨hr, he⟩)].toArray w (RetX w0 (AddS R X rs es) (fun q => .tuple #[.int .i64 q.1.2, .int .i64 0]) (fun q => ⟨m1, .obj (mRp q.1.1.1), 177⟩ :: ⟨m2, .obj (mEx q.1.1.2), 178⟩ :: L1)) := by
 have hwL : Own w0 L1 w := hw.sub ((List.sublist_cons_self _ _).trans (List.sublist_cons_self _ _))
 obtain ⟨p1, n1, c1⟩ := hr
 obtain ⟨p2, n2, c2⟩ := he
 obtain ⟨p1', c1', hf1⟩ := (hrs.out w (hw.sub ((List.sublist_cons_self _ _).trans (List.sublist_cons_self _ _)))).form
 injection hf1 with f1 f2 f3
 dsimp only at f1 f2 f3
 subst f1 f2 f3
 obtain ⟨p2', c2', hf2⟩ := (hes.out w (hw.sub ((List.sublist_cons_self _ _).trans (List.sublist_cons_self _ _)))).form
 injection hf2 with g1 g2 g3
 dsimp only at g1 g2 g3
 subst g1 g2 g3
 have hput : R.length + rs.length ≤ 4096 ∧ X.length + es.length ≤ 4096 ∧ SetM R ∧ SetM X := ⟨hR, hX, okR, okX⟩
 refine Z2 Tryz.func44 rfl Tryz.ntmps44 rfl hw ?_
 repeat (refine wkM ?_; intros)
 rename_i b3
 refine Zq (S := Nat) (fun m => m ≤ rs.length) (fun m => [(0, .pointer (some ⟨px, 0, none⟩)), (3, .pointer (some ⟨b3, 0, none⟩)), (15, .slice p1 rs.length c1), (16, .int .i64 rs.length), (17, .int .i64 (m : Nat))]) (fun m => ⟨b3, Zs ⟨⟨p1, rs.length, c1⟩, ⟨p2, es.length, c2⟩⟩, 40⟩ :: ⟨m1, .obj (mRp R), 177⟩ :: ⟨m2, .obj (mEx X), 178⟩ :: L1) (fun m => rs.length - m) 0 (Wm _) sbB slB (fun m hm => ?_)
 repeat (refine wkM ?_; intros)
 refine Zn rfl (fun h => ?_) (fun h => ?_)
 ·have hlt : m < rs.length := by have := Wa h; omega
  have hrv := hvr (gi rs (m : Int)) (Z0 (by omega))
  have hne : rs ≠ [] := fun h0 => by rw [h0] at hlt; simp at hlt
  obtain ⟨bw, ow, cw, hvw, hcw, hrow⟩ := hrs.blk' (k := 7) hwL hne
  injection hvw with x1 x2 x3
  subst x1
  have hrow' : ∀ (L : List Blk) [SblC L1 L], RowC w0 L bw ow Zb Zd rs := fun L hs => hrow L hs.out
  repeat (first | (refine wkM ?_; intros) | (refine wnM ?_ ?_; (focus (exact hrv)); intros))
  exact Zj (m + 1) hlt sbB slB (by omega)
 have hge : m = rs.length := by have := Wb h; omega
 subst hge
 repeat (refine wkM ?_; intros)
 refine Zq (S := Nat) (fun m => m ≤ es.length) (fun m => [(0, .pointer (some ⟨px, 0, none⟩)), (3, .pointer (some ⟨b3, 0, none⟩)), (28, .slice p2 es.length c2), (29, .int .i64 es.length), (30, .int .i64 (m : Nat))]) (fun m => ⟨b3, Zs ⟨⟨p1, rs.length, c1⟩, ⟨p2, es.length, c2⟩⟩, 40⟩ :: ⟨m1, .obj (mRp R), 177⟩ :: ⟨m2, .obj (mEx X), 178⟩ :: L1) (fun m => es.length - m) 0 (Wm _) sbB slB (fun m hm => ?_)
 repeat (refine wkM ?_; intros)
 refine Zn rfl (fun h => ?_) (fun h => ?_)
 ·have hlt : m < es.length := by have := Wa h; omega
  have hrv := hve (gi es (m : Int)) (Z0 (by omega))
  have hne : es ≠ [] := fun h0 => by rw [h0] at hlt; simp at hlt
  obtain ⟨bw, ow, cw, hvw, hcw, hrow⟩ := hes.blk' (k := 4) hwL hne
  injection hvw with x1 x2 x3
  subst x1
  have hrow' : ∀ (L : List Blk) [SblC L1 L], RowC w0 L bw ow Za Ze es := fun L hs => hrow L hs.out
  repeat (first | (refine wkM ?_; intros) | (refine wnM ?_ ?_; (focus (exact hrv)); intros))
  exact Zj (m + 1) hlt sbB slB (by omega)
 have hge : m = es.length := by have := Wb h; omega
 subst hge
 repeat (refine wkM ?_; intros)
 refine sZ rfl rfl hput ?_
 intro q
 repeat (refine wkM ?_; intros)
 refine Zz rfl (Zl rfl) (Zl rfl) (fun w hw => ⟨q, rfl, ?_⟩)
 exact hw.sub suB
instance (priority := high) ZDU (w0 : World) (L L0 L1 : List Blk) (px m1 m2 : Nat) (hr he : Sl) (R : List (Zb × Bool)) (X : List (Za × Bool)) (rs : List Zb) (es : List Za) (Tx Tx' : TypeId) [kx0 : AtC w0 L px (vIn m1 m2) Tx'] [hd : DelO m1 L (mRp R) 177 L0] [hd2 : DelO m2 L0 (mEx X) 178 L1] [kx : AtC w0 L1 px (vIn m1 m2) Tx] [hrs : LstC w0 L1 (.slice hr.a hr.len hr.cap) Zb Zd rs] [hes : LstC w0 L1 (.slice he.a he.len he.cap) Za Ze es] :
  SpecX prog w0 L 44 [.pointer (some ⟨px, 0, none⟩), .agg (Zs ⟨hr, he⟩)] (AddS R X rs es) (fun q => .tuple #[.int .i64 q.1.2, .int .i64 0]) (fun q => ⟨m1, .obj (mRp q.1.1.1), 177⟩ :: ⟨m2, .obj (mEx q.1.1.2), 178⟩ :: L1) (R.length + rs.length ≤ 4096 ∧ X.length + es.length ≤ 4096 ∧ SetM R ∧ SetM X ∧ (∀ r ∈ rs, RepV r) ∧ ∀ y ∈ es, ExV y) :=
 ⟨fun hp w hw => ZnL w0 w L1 px m1 m2 hr he R X rs es Tx hrs hes hp.1 hp.2.1 hp.2.2.1 hp.2.2.2.1 hp.2.2.2.2.1 hp.2.2.2.2.2 (hw.perm (hd.out.trans (hd2.out.cons _)))⟩
end
section
abbrev Png := Zab
abbrev Cll := Zal
abbrev ePng := Z6
abbrev eCll := Zaj
abbrev Bt (n : Int) : Prop := 0 ≤ n ∧ n ≤ 255
structure PngOk (p : Png) : Prop where
 o : Bt p.Object
 q : Bt p.Seq
 v : Bt p.Version
 d : Bt p.Device
 t : Bt p.Time
 x : Bt p.X
 y : Bt p.Y
structure CllOk (c : Cll) : Prop where
 f : Bt c.From
 t : Bt c.To
 s : Bt c.Sent
 d : Bt c.Delay
 l : Bt c.Least
def rptP (p : Png) : Zb := ⟨1 + p.Object % 3, p.Seq % 10, p.Version % 3, p.Device % 4, 8 + p.Time % 56, p.X % 64, p.Y % 64, p.Cancel⟩
theorem Zts (p : Png) : RepV (rptP p) := by
 have e1 : (rptP p).Object = 1 + p.Object % 3 := rfl
 have e2 : (rptP p).Seq = p.Seq % 10 := rfl
 have e3 : (rptP p).Version = p.Version % 3 := rfl
 have e4 : (rptP p).Device = p.Device % 4 := rfl
 have e5 : (rptP p).Time = 8 + p.Time % 56 := rfl
 have e6 : (rptP p).X = p.X % 64 := rfl
 have e7 : (rptP p).Y = p.Y % 64 := rfl
 constructor <;> omega
instance Zze (p : Png) : SpecC prog 14 [.agg (ePng p)] (.agg (Zd (rptP p))) (PngOk p) := ⟨fun hp w => by
 obtain ⟨o, q, v, d, t, x, y⟩ := hp
 refine Zg Tryz.func14 rfl Tryz.ntmps14 rfl ?_
 repeat (refine wkO ?_; intros)
 exact ZV rfl rfl (fun w hw => Zi hw)⟩
def offD (d : Int) : Int := gi [0, 3, -4, 6] d
theorem ZgN (d : Int) : -4 ≤ offD d ∧ offD d ≤ 6 := by
 unfold offD
 have h : ∀ x ∈ ([0, 3, -4, 6] : List Int), -4 ≤ x ∧ x ≤ 6 := by decide
 by_cases hd : d.toNat < ([0, 3, -4, 6] : List Int).length
 ·exact h _ (Z0 hd)
 ·unfold gi
  rw [List.getD_eq_getElem?_getD, List.getElem?_eq_none (by omega)]
  exact ⟨by decide, by decide⟩
def excF (c : Cll) : Int := c.From % 4
def excT (c : Cll) : Int := (c.From % 4 + 1 + c.To % 3) % 4
def excL (c : Cll) : Int := if c.Wrong then c.Delay % 6 + 9 else if c.Delay % 6 - c.Least % 3 < 0 then 0 else c.Delay % 6 - c.Least % 3
def excM (z : Int) : Int := if z > 0 then z else 0
def excC (c : Cll) : Za := ⟨excF c, excT c, 10 + c.Sent % 50, excM (10 + c.Sent % 50 - offD (excF c) + offD (excT c) + c.Delay % 6), excL c⟩
theorem Zug (c : Cll) : ExV (excC c) := by
 have e1 : (excC c).From = c.From % 4 := rfl
 have e2 : (excC c).To = (c.From % 4 + 1 + c.To % 3) % 4 := rfl
 have e3 : (excC c).Sent = 10 + c.Sent % 50 := rfl
 have e4 : (excC c).Received = excM (10 + c.Sent % 50 - offD (excF c) + offD (excT c) + c.Delay % 6) := rfl
 have e5 : (excC c).Least = excL c := rfl
 have h1 := ZgN (excF c)
 have h2 := ZgN (excT c)
 have h3 : 0 ≤ (excC c).Received ∧ (excC c).Received ≤ 100 := by
  rw [e4]
  unfold excM
  split <;> omega
 have h4 : 0 ≤ (excC c).Least ∧ (excC c).Least ≤ 20 := by
  rw [e5]
  unfold excL
  split
  ·omega
  ·split <;> omega
 refine ⟨?_, ?_⟩
 ·constructor <;> omega
 ·omega
instance Zvs (c : Cll) : SpecC prog 46 [.agg (eCll c)] (.agg (Ze (excC c))) (CllOk c) := ⟨fun hp w => by
 obtain ⟨f, t, s, d, l⟩ := hp
 have o1 := ZgN (excF c)
 have o2 := ZgN (excT c)
 refine Zg Tryz.func46 rfl Tryz.ntmps46 rfl ?_
 repeat (refine wkO ?_; intros)
 rename_i b1 b2 b9
 (refine Zao (.v [0, 1, 2, 3, 4, 5, 6, 7, 8] (.e1 9 (.e1 10 (.fin)))) (_) (h := ?_); refine wkX ?_)
 (repeat (first | refine wkH ?_ | (refine tC rfl rfl ?_ ?_; focus (exact ⟨by omega, by omega⟩))))
 repeat (refine wkT ?_; intros)
 repeat (refine wkO ?_; intros)
 have e1 : ∀ z, excL c = z → excC c = ⟨c.From % 4, (c.From % 4 + 1 + c.To % 3) % 4, 10 + c.Sent % 50, excM (10 + c.Sent % 50 - gi [0, 3, -4, 6] (c.From % 4) + gi [0, 3, -4, 6] ((c.From % 4 + 1 + c.To % 3) % 4) + c.Delay % 6), z⟩ := fun z hz => by rw [← hz]; rfl
 unfold offD excF at o1
 unfold offD excT at o2
 by_cases h1 : c.Delay % 6 - c.Least % 3 < 0 <;> cases h2 : c.Wrong
 all_goals
  first | simp only [Wc h1] | simp only [We h1]
  repeat (refine wkM ?_; intros)
  simp only [h2]
  repeat (refine wkO ?_; intros)
  generalize hD : ([0, 3, -4, 6] : List Int) = D at *
  have hDl : D.length = 4 := by rw [← hD]; rfl
  (refine Zao (.v [0, 1, 2, 3, 4, 5, 6, 7, 8, 9, 10, 11, 12, 13, 14, 15, 16, 17, 18] (.e1 19 (.fin))) ([⟨b9, row (eI .i64) D [], 3⟩]) (h := ?_); refine wkX ?_)
  (repeat (first | refine wkH ?_ | (refine tC rfl rfl ?_ ?_; focus (exact ⟨by omega, by omega⟩))))
  repeat (refine wkT ?_; intros)
  repeat (refine wkM ?_; intros)
  subst hD
  first | rw [e1 _ (by unfold excL; rw [h2, if_neg (by decide), if_pos h1])] | rw [e1 _ (by unfold excL; rw [h2, if_neg (by decide), if_neg h1])] | rw [e1 _ (by unfold excL; rw [h2, if_pos rfl])]
  exact ZV rfl rfl (fun w hw => Zi hw)⟩
end
section
theorem ZcN {P : Program} {S T ty : TypeId} {i : TypeInfo} {p : Option Addr} {n c : Nat} {a : Addr} {c2 : Nat} {w : World} (ht : P.underlying S = some (.slice T)) (hi : P.info? T = some i) (h : (p = none ∧ n = 0 ∧ c = 0) ∨ (∃ b, p = some ⟨b, 0, none⟩ ∧ n ≤ c)) :
  (Builtin.append_ #[S, S] ty #[.slice p n c, .slice (some a) 0 c2]).run P w = .ok (.slice p n c) w := by
 rcases h with ⟨rfl, rfl, rfl⟩ | ⟨b, rfl, hnc⟩
 ·simp [Builtin.append_, run_underlying ht, sizeOf, typeInfo, hi, Builtin.lenOf, Builtin.firstCells, loadCells, loadCellsFrom, storeCells, Result.andThen]
 ·simp [Builtin.append_, run_underlying ht, sizeOf, typeInfo, hi, Builtin.lenOf, Builtin.firstCells, hnc, storeCells, loadCells, loadCellsFrom, Result.andThen]
section
variable {P : Program} {w0 : World} {n : Nat} {ops : Array Oper} {L L1 : List Blk} {E : Env}
variable {Q : Exit → Act → World → Prop} {rest : List Oper}
variable {ty : TypeId} {pos : String} {aft : Array Edge} {gd : Option (Nat × Bool)} {t : Tmp} {x y : Operand}
variable {α : Type} {enc : α → Array Value} {S T : TypeId} {k B : Nat} {xs ys : List α} {v : Value} {z : Value} {zc : Array Value} {s : SlS enc (k + 1) xs}
variable [hx : IsC (evl E x) (vSl s)] [hy : IsC (evl E y) v] [hl : LstC w0 L v α enc ys] [hd : OwnS T s L L1] [hT : UndC P S (.slice T)] [hz : ZeroC P T z zc] [he : EncC enc (k + 1)] [hk : SizeC P T (k + 1)] [hB : BytesC P T B]
include hx hy hd hl hT hz he hk hB
theorem Zqt (hzk : zc.size = k + 1) (hb : (xs.length + ys.length) * B ≤ 140737488355328 ∧ xs.length + ys.length ≤ 9223372036854775807) (a : Act) (w : World) (ha : Rep n E a) (hw : Own w0 L w) :
  ∃ s' : SlS enc (k + 1) (xs ++ ys), ∃ w', (execOp a.eval ⟨some t, .call ⟨.builtin .append, #[x, y], #[S, S]⟩, ty, pos, aft, gd⟩).run P w = .ok (.value (vSl s')) w' ∧ Own w0 (mS T s' ++ L1) w' := by
 have hp := hw.perm hd.out
 have hlen : (xs ++ ys).length = xs.length + ys.length := Wp
 have hv := hl.out w hw
 by_cases h0 : ys = []
 ·subst h0
  obtain ⟨s', e1, e2⟩ := s.like (Wh xs)
  obtain ⟨i, hi, -⟩ := Zbw hk.out
  refine ⟨s', w, ?_, by rw [e2]; exact hp⟩
  rw [e1]
  have hx' : Env.ev E x = some (vSl s) := by rw [← ZaJ, hx.out]
  have hy' : Env.ev E y = some v := by rw [← ZaJ, hy.out]
  refine ZaH (d := some t) (pos := pos) (aft := aft) (gd := gd) ha hx' hy' ?_
  rcases hv.out with ⟨hv0, -⟩ | ⟨a2, c2, hv0, -, -⟩
  ·rw [hv0]
   rcases s.cases T with ⟨-, hv, -⟩ | ⟨b, c, sp, h1, hv, -, -⟩
   ·rw [hv]
    exact ZbX hT.out hi (.inl ⟨rfl, rfl, rfl⟩)
   ·rw [hv]
    exact ZbX hT.out hi (.inr ⟨b, rfl, h1.1⟩)
  ·rw [hv0]
   rcases s.cases T with ⟨-, hv, -⟩ | ⟨b, c, sp, h1, hv, -, -⟩
   ·rw [hv]
    exact ZcN hT.out hi (.inl ⟨rfl, rfl, rfl⟩)
   ·rw [hv]
    exact ZcN hT.out hi (.inr ⟨b, rfl, h1.1⟩)
 ·obtain ⟨b2, o2, c2, hv2, hc2, hrow⟩ := hv.blk (k := k) h0 []
  obtain ⟨cs2, T2, fz, hf, hcell⟩ := hrow.out w (Own.start w)
  have hm : 0 < ys.length := List.length_pos_iff.2 h0
  have hne : xs ++ ys ≠ [] := fun h0 => by rw [h0, Wx] at hlen; omega
  have hy' : Env.ev E y = some (.slice (some ⟨b2, o2, none⟩) ys.length c2) := by rw [← ZaJ, hy.out, hv2]
  have hcs : ∀ j v, (rowL enc ys)[j]? = some v → cs2[o2 + j]? = some v := fun j v hv => by
   have hj : j < ys.length * (k + 1) := by
    rw [← Z9 (enc := enc) (k := k + 1) ys]
    rcases Nat.lt_or_ge j (rowL enc ys).length with h | h
    ·exact h
    ·rw [List.getElem?_eq_none h] at hv; cases hv
   have hi : j / (k + 1) < ys.length := Nat.div_lt_of_lt_mul (by rw [Nat.mul_comm]; exact hj)
   have hf : j % (k + 1) < k + 1 := Nat.mod_lt _ (Nat.succ_pos _)
   have e : j / (k + 1) * (k + 1) + j % (k + 1) = j := by rw [Nat.mul_comm]; exact Nat.div_add_mod j (k + 1)
   have hg := ZeX (enc := enc) (k := k + 1) ys (j / (k + 1)) (j % (k + 1)) hi hf
   rw [e, hv] at hg
   have := (hcell _ _ (k + 1) v hi he.size hg.symm).1
   rw [Nat.add_assoc, e] at this
   exact this
  rcases s.cases T with ⟨rfl, hv, hm0⟩ | ⟨b, c, sp, h1, hv, hm1, -⟩
  ·have hx' : Env.ev E x = some (.slice none 0 0) := by rw [← ZaJ, hx.out, hv]
   rw [hm0, Wg] at hp
   obtain ⟨s, w', hr, ho⟩ := Zc9 (L := L1) (ty := ty) (b2 := b2) (off2 := o2) (m := ys.length) (c2 := c2) (news := rowL enc ys) hT.out hz.out hz.cells hk.out hB.out hzk hp ⟨T2, fz, hf⟩ (by rw [Z9 (k := k + 1)]) hcs hm (by simpa using hb.1) (by simpa using hb.2)
   refine ⟨SlS.at_ s.1.1 s.1.2.1 s.1.2.2 (by rw [Wg]; exact s.2) hne, w', ?_, ho⟩
   have h3 := ZaH (d := some t) (pos := pos) (aft := aft) (gd := gd) ha hx' hy' hr
   rw [h3]
   rfl
  ·have hx' : Env.ev E x = some (.slice (some ⟨b, 0, none⟩) xs.length c) := by rw [← ZaJ, hx.out, hv]
   rw [hm1] at hp
   obtain ⟨s, w', hr, ho⟩ := Zeg (L1 := L1) (ty := ty) (b := b) (len := xs.length) (c := c) (b2 := b2) (off2 := o2) (m := ys.length) (c2 := c2) (xs := rowL enc xs) (sp := sp) (news := rowL enc ys) hT.out hz.out hz.cells hk.out hB.out hzk hp (.refl _) (Z9 xs) h1.2 h1.1 ⟨T2, fz, hf⟩ (by rw [Z9 (k := k + 1)]) hcs (Zcz ys) hb.1 hb.2
   refine ⟨SlS.at_ s.1.1 s.1.2.1 s.1.2.2 (by rw [hlen]; exact s.2) hne, w', ?_, ?_⟩
   ·have h3 := ZaH (d := some t) (pos := pos) (aft := aft) (gd := gd) ha hx' hy' hr
    rw [h3]
    show _ = Result.ok (Next.value (Value.slice _ (xs ++ ys).length _)) w'
    rw [hlen]
   ·show Own w0 (⟨s.1.1, row enc (xs ++ ys) s.1.2.2, T⟩ :: L1) w'
    rw [row, Zbi]
    exact ho
theorem eVA {K : Env → List Blk → Prop} {Lw : List Blk} (hg : guardB ops E gd = some true) (hd' : Nat.blt t n = true) [hw : SblC Lw L1] (hzk : zc.size = k + 1) (hb : (xs.length + ys.length) * B ≤ 140737488355328 ∧ xs.length + ys.length ≤ 9223372036854775807)
  (h : ∀ s' : SlS enc (k + 1) (xs ++ ys), JE P w0 n ops Lw K rest ((t, vSl s') :: E) (mS T s' ++ L1)) : JE P w0 n ops Lw K (⟨some t, .call ⟨.builtin .append, #[x, y], #[S, S]⟩, ty, pos, aft, gd⟩ :: rest) E L :=
 Zck (S := SlS enc (k + 1) (xs ++ ys)) (o := ⟨some t, .call ⟨.builtin .append, #[x, y], #[S, S]⟩, ty, pos, aft, gd⟩) hg hd' (fun s => vSl s) (fun s => mS T s ++ L1)
  (fun a w ha hw => by
   obtain ⟨s, w', hr, ho⟩ := Zqt (hx := hx) (hy := hy) (hl := hl) (hd := hd) (hT := hT) (hz := hz) (he := he) (hk := hk) (hB := hB) hzk hb a w ha hw
   exact ⟨s, w', .inl hr, ho⟩) (fun _ => Zap (hw.out.trans (List.sublist_append_right _ _))) h
end
end
end Go.Vt
