/- that the gaps between reports are those of the chain (part 14 of 32.) Conditions: those that each statement names. -/
import Derived.Test.YtjicdlilgjdefaaGreatDoorKG10
import Derived.Test.YtjicdlilgjdefaaGreatDoorKG12
import Derived.Test.YtjicdlilgjdefaaGreatDoorKG13
set_option linter.unusedSimpArgs false
set_option linter.unusedVariables false
set_option maxHeartbeats 2000000
set_option maxRecDepth 100000
namespace Go.Vt
open Go.RowKit Go.Proofs
open Go.Proofs.Tryz (prog)
section
def SeqI (w:World)(b2:Nat)(pre:List Zb)(W:World):Prop:=
 (∃v',Boxed W b2 37 v'/\W.ownsRow w.heap.size 35 8 v' pre.length (rowL Zd pre)/\(pre=[]->v'= .slice none 0 0))/\Below w.heap.size w W
theorem Zkk {w:World}{b2 B:Nat}(hB:w.heap.size<=B):OwnFrom B (SeqI w b2):=
 OwnFrom.and (Own.from (holdsRow_own w.heap.size b2 37 35 8 (fun pre=>pre.length) (fun pre=>rowL Zd pre) (fun pre v'=>pre=[]->v'= .slice none 0 0)) _) (ownFrom_below (Wl _) hB)
def SeqA (b2:Nat)(x:Zb)(a':Act)(W:World):Prop:=
 ∃bx,W.heap[bx]? =some (.cells (Zd x) 35 (0,0))/\Rep 13 [(2, .pointer (some ⟨b2,0,none⟩)),(5, .pointer (some ⟨bx,0,none⟩))] a'
theorem Zso {w W w3 w4:World}{b2 B:Nat}{v' v2:Value}{pre:List Zb}{x:Zb}(hw:w.heap.size<=W.heap.size)(hBe:Below w.heap.size w W)(h5:Boxed W b2 37 v')(hrow:W.ownsRow w.heap.size 35 8 v' pre.length (rowL Zd pre))
  (hx:Ext W w3) (hown:w4.ownsRow w.heap.size 35 8 v2 (pre.length+1) (rowL Zd pre++rowL Zd [x])) (hg:w3.grownBy w4 v'.ownBlock) (hb2:w.heap.size<=b2):
  Boxed w4 b2 37 v'/\KeepsFrom B W (w4.setCell ⟨b2,0,none⟩ v2)/\KpK w W (w4.setCell ⟨b2,0,none⟩ v2)/\SeqI w b2 (pre++[x]) (w4.setCell ⟨b2,0,none⟩ v2):=by
 have hrow3:w3.ownsRow w.heap.size 35 8 v' pre.length (rowL Zd pre):=hrow.kept (Z6 hx) (by cases v' with
  |slice p n c=>cases p with
   |none=>exact .inl rfl
   |some p=>exact .inr (fun h=>by cases h)
  |_=>exact .inl rfl)
 have q5:=Boxed.kept (Zc6 h5 hx) hg (Boxed.not_row (Zc6 h5 hx) (by decide) hrow3)
 have own:∀j,v'.ownBlock=some j->w.heap.size<=j/\∃cs T,w3.heap[j]? =some (.cells cs T (0,0)):=fun j hj=>by
  rcases hrow3.2 with⟨rfl,_⟩|⟨g,cap,cur,rfl,hb,hgb,_⟩
  ·cases hj
  ·obtain rfl:g=j:=by simpa [Value.ownBlock] using hj
   exact⟨hb,_,_,hgb⟩
 have keep:∀(k:Nat)(o:Obj),W.heap[k]? =some o->o.isCells=false->(w4.setCell ⟨b2,0,none⟩ v2).heap[k]? =some o:=fun k o hk ho=>by
  have e3:w3.heap[k]? =some o:=(hx.block k (Zq hk)).trans hk
  have e4:w4.heap[k]? =some o:=(hg.block k (Zq e3) (fun e=>by obtain⟨-,cs,T,hc⟩:=own k e.symm;rw[e3] at hc;cases hc;cases ho)).trans e3
  refine((grownBy_setCell' w4 b2 v2).block k (Zq e4) (fun e=>?_)).trans e4
  obtain rfl:k=b2:=by simpa using e
  rw[show w4.heap[k]? =_ from q5] at e4
  cases e4
  cases ho
 have hbel:=((hx.bel.mono hw).grown hg (Wi hw hx.size) (fun j e=>(own j e).1)).setCell (p:=⟨b2,0,none⟩) hb2 v2
 refine⟨q5,⟨Wi hx.size (Wi hg.size (grownBy_setCell' w4 b2 v2).size),fun k o _ hk ho=>keep k o hk ho⟩,⟨hbel,fun k o hk ho=>keep k o hk (Obj.not_cells_of_walk ho)⟩,⟨⟨v2,Boxed.set v2 q5, ?_,fun h=>?_⟩,hBe.trans hbel⟩⟩
 ·have e:=hown.kept (grownBy_setCell' w4 b2 v2) (.inr (Boxed.not_row q5 (by decide) hown).symm)
  rw[Wp,List.length_singleton,Zbf]
  exact e
 ·simp at h
instance ZFH {P:Program}{E:Env}{T:TypeId}{x:Operand}[h:IsC (evl E x) (.slice none 0 0)]:AlC P E (.box T x) #[.slice none 0 0] T:=⟨fun hg hd h=>ZhA isE hg hd h⟩
set_option maxHeartbeats 4000000 in
theorem Zoe (Bm b:Nat)(TB:TypeId)(l:List (Zb×Bool))(w:World)(hl:l.length<=1048576)(hB:∃fz,w.heap[Bm]? =some (.cells #[.map (some b)] TB fz))(hb:w.heap[b]? =some (mRp l)):
  Calls prog 202 [.slice none 0 0, .func (.func 152) #[] [.pointer (some ⟨Bm,0,none⟩)].toArray].toArray w (RetM ((ys:{ys:List Zb // ys.Perm (pKR l)})×SlS Zd 8 ys.1) (fun s=>vSl s.2) (fun s=>mS 35 s.2) w):=by
 have hgo:=ZfG (N:=5) (P:=prog) (l:=[Value.slice none 0 0, .func (.func 152) #[] [.pointer (some ⟨Bm,0,none⟩)].toArray]) (w:=w) (R:=RetM ((ys:{ys:List Zb // ys.Perm (pKR l)})×SlS Zd 8 ys.1) (fun s=>vSl s.2) (fun s=>mS 35 s.2) w) Tryz.func202 rfl Tryz.ntmps202 rfl
 refine hgo ?_
 clear hgo
 refine Zay ?_
 refine ZcB ?_
 repeat(refine wkM ?_;intros)
 refine Zad ?_
 refine Zay ?_
 refine Zay ?_
 refine ZcB ?_
 repeat(refine wkM ?_;intros)
 refine Zad ?_
 refine Za6 ?_
 rename_i b2
 refine⟨fun a w1 ha hw1=>?_⟩
 have hb2:=hw1.mem _ (.head _)
 have hwd:=hw1.ext.size
 refine wpIn_rangeFunc_ownH (F:=Fr none) (n:=5) (P:=prog) (w0:=w1) (N:=l.length+1) (α:=Zb) (encs:=fun x=>#[.agg (Zd x)]) (S:=fun ys=>ys.Perm (pKR l)) (Sp:=fun _=>True) (Kp:=KpK w) rfl (by omega) (gf:=152) (lb:=#[.pointer (some ⟨Bm,0,none⟩)]) (ha.ev (x:= .tmp 6) rfl) trivial (fun args w=>ZbH (by kernel_rfl) args w)
  (Zkl w w1 Bm b 4 TB l hw1.ext.bel hB hb) (fun h k=>⟨h.1.trans k.1,fun i o ho hw=>k.2 i o (h.2 i o ho hw) hw⟩) (fun W lo o o' hl h hc hk=>⟨belowK_b (w:=w1) hwd W lo o o' hl h hc hk,fun k o2 h2 hw2=>(World.putObj_heap_other (fun e=>by rw[e,h] at h2;cases h2;rw[hk] at hw2;cases hw2)).trans h2⟩) (Below.refl _ _) (fun _=>rfl)
  (SeqI w b2) (fun _ _ _=>False) (Zkk hwd) (fun _ _ _ _ _ hs _ _=>hs) ⟨⟨_,hb2.2,World.ownsRow_nil _ _ _ _,fun _=>rfl⟩,hw1.ext.bel⟩
  (SeqA b2) (fun x a' s X Y row ⟨bx,hc,hr⟩ hg hrow=>⟨bx,(hg.block bx (Zq hc) (fun e=>by obtain⟨-,o,ho,hn⟩:=hrow bx e.symm;rw[hc] at ho;cases ho;cases hn)).trans hc,hr⟩) ?assign ?body ?done ?stop
 case stop=>
  rintro D c pre W _ _ h _
  exact h.elim
 case assign=>
  intro lo pre x W K hi hK
  have hact:∀a0:Act,a0.defers=[]->({tmps:=((#[7]:Array Tmp).zip #[Value.agg (Zd x)]).foldl (fun t (p,v)=>t.setIfInBounds p v) a0.tmps,defers:=[]}:Act)=a0.put (some 7) (.agg (Zd x)):=fun a0 h=>by
   cases a0
   simp only at h
   subst h
   simp[Act.put]
  rw[hact a ha.defers]
  have hrep:=ha.put (some 7) (.agg (Zd x)) rfl
  refine JI.out (r:=some lo) (N:=3) (P:=prog) (w0:=W) (n:=13) (E:=[(7, .agg (Zd x)),(2, .pointer (some ⟨b2,0,none⟩))]) (L:=[]) ?_ _ W (hrep.sub sbB) (Own.start W)
  refine ZaX ?_
  refine Zbn (fun _ _ h=>h) rfl ?_
  repeat(refine wkM ?_;intros)
  rename_i bx
  refine⟨fun a' W' ha' hw'=>hK a' W' ⟨hw'.ext.size,fun k o _ hk _=>(hw'.ext.block k (Zq hk)).trans hk⟩ ⟨hw'.ext.bel.mono hi.2.size,fun k o ho _=>(hw'.ext.block _ (Zq ho)).trans ho⟩ (Zkk (Wl _) _ W W' none hi (Z6 hw'.ext) (fun r e=>by cases e)) ⟨bx,(hw'.mem _ (.head _)).2,ha'.sub sbB⟩⟩
 case body=>
  rintro lo pre x a' W hlw hr hi ⟨bx,hbx,hra⟩ hlt
  obtain⟨⟨v',hv',hrow,hnil⟩,hBe⟩:=hi
  obtain⟨o,m,c,hvs⟩:∃o m c,v'= .slice o m c:=by
   rcases hrow.2 with⟨h,_⟩|⟨g,cap,_,h,_⟩
   ·exact⟨_,_,_,h⟩
   ·exact⟨_,_,_,h⟩
  have f2:=FoC.mk ⟨(0,0),hv'⟩
  have fx:=FoC.mk ⟨(0,0),hbx⟩
  rw[hvs] at f2
  refine JI.out (r:=some lo) (N:=3) (P:=prog) (w0:=W) (n:=13) (E:=[(2, .pointer (some ⟨b2,0,none⟩)),(5, .pointer (some ⟨bx,0,none⟩))]) (L:=[]) ?_ _ W hra (Own.start W)
  refine Za6 ?_
  refine ZaX ?_
  refine⟨fun a2 w2 ha2 hw2=>?_⟩
  refine Zbg [_,_,_] a2 w2 rfl (JO.out (w0:=W) (n:=13) (L:=[]) ?_ a2 w2 ha2 hw2)
  repeat(refine wkM ?_;intros)
  refine ZdG (fun a3 w3 ha3 hw3=>?_)
  have hbn:=(hw3.mem _ (.head _)).2
  refine Zf6 (size:=8) (k:=pre.length) (m:=1) (base:=w.heap.size) (v:=v') (xs:=rowL Zd pre) (news:=rowL Zd [x]) ha3 (by rw[hvs];rfl) rfl rfl (by decide) (hrow.kept (Z6 hw3.ext) (by rw[hvs];cases o with|none=>exact .inl rfl|some p=>exact .inr (fun h=>by cases h))) (Z9 (k:=8) [x]) (fun j u hu=>by rw[ZaG,Zaw hbn,Nat.zero_add];simpa [row] using hu) (ZcI [x]) (by simp only[maxLen];omega) ?_ (Wi hBe.size hw3.ext.size) (fun v2 w4 hown hgrow=>?_)
  ·omega
  ·obtain⟨g',cap',hv2⟩:=ownsRow_succ hown
   subst hv2
   obtain⟨q5,k1,k2,k3⟩:=Zso (x:=x) (B:=w1.heap.size) hBe.size hBe hv' hrow hw3.ext hown hgrow hb2.1
   refine Zex (b:=b2) (ha3.put (some 11) _ rfl) rfl rfl q5 (by kernel_rfl) rfl rfl ?_
   exact wpListIn_nil ⟨k1,k2,k3⟩
 case done=>
  rintro D ys W hD hp hi hK
  obtain⟨⟨v',hv',hrow,hnil⟩,hBe⟩:=hi
  obtain⟨s,hs1,hs2,hs3⟩:=ZkW hnil hrow
  obtain⟨o,m,c,hvs⟩:∃o m c,v'= .slice o m c:=by
   rcases hrow.2 with⟨h,_⟩|⟨g,cap,_,h,_⟩
   ·exact⟨_,_,_,h⟩
   ·exact⟨_,_,_,h⟩
  have f5:=FoC.mk ⟨(0,0),hv'⟩
  rw[hvs] at f5 hs1
  have hra:Rep 13 [(2, .pointer (some ⟨b2,0,none⟩))] a:=ha.sub sbB
  have hl:YlC prog W 13 [] [(2, .pointer (some ⟨b2,0,none⟩))] (.load 37 (.tmp 2)) (.slice o m c):=inferInstance
  show Code.wpIn (Fr none) 5 _ _ _ _ W
  refine wpIn_seq (wpIn_region_lit ?_)
  refine ZdI (a:=a) (L:=[]) (w0:=W) (hl.out _ _ _ _ _) hra (Own.start W) rfl rfl (fun W2 hx2=>?_)
  refine ZdI (a:=a.put (some 12) (.slice o m c)) (L:=[]) (w0:=W2) (E:=Env.put [(2, .pointer (some ⟨b2,0,none⟩))] (some 12) (.slice o m c)) (Zes rfl) (hra.put (some 12) _ rfl) (Own.start W2) rfl rfl (fun W3 hx3=>?_)
  refine wpListIn_nil ?_
  have hx:=hx2.tr hx3
  have hK3:W3.heap[D]? =some (.deferred (some [])):=(hx.block D (Zq hK)).trans hK
  have hr4:((a.put (some 12) (.slice o m c)).put (some 4) (.slice o m c)).tmps[4]? =some (.slice o m c):=((hra.put (some 12) _ rfl).put (some 4) (.slice o m c) rfl).val 4 _ rfl
  refine wpIn_ret ?_
  refine⟨by simp, .inl ⟨_,_,rfl,run_takeDeferred hK3, ?_⟩⟩
  rw[ha.defers]
  refine⟨.slice o m c, ?_,⟨⟨ys,hp⟩,s⟩,by rw[hs1],⟨⟨?_,trivial⟩,fun e he=>?_,hs2⟩⟩
  ·rw[results_tmp rfl]
   show Result.ok (Array.getD _ 4 undef) _=_
   rw[Array.getD_eq_getD_getElem?,hr4]
   rfl
  ·exact(hBe.trans (hx.bel.mono hBe.size)).trans (belowK_b (w:=w1) hwd W3 D _ _ hD hK3 rfl rfl)
  ·obtain⟨h1,h2⟩:=hs3 e he
   have h3:=(hx.block _ (Zq h2)).trans h2
   refine⟨h1,(World.putObj_heap_other (fun hd=>?_)).trans h3⟩
   rw[hd,hK3] at h3
   simp only at he
   rcases s.cases 35 with⟨-, -,x2⟩|⟨bs,cs,sp, -, -,x2, -⟩
   ·rw[x2] at he
    cases he
   ·rw[x2,Wo] at he
    subst he
    cases h3
end
section
def SeqIE (w:World)(b2:Nat)(pre:List Za)(W:World):Prop:=
 (∃v',Boxed W b2 38 v'/\W.ownsRow w.heap.size 122 5 v' pre.length (rowL Zf pre)/\(pre=[]->v'= .slice none 0 0))/\Below w.heap.size w W
theorem ZiW {w:World}{b2 B:Nat}(hB:w.heap.size<=B):OwnFrom B (SeqIE w b2):=
 OwnFrom.and (Own.from (holdsRow_own w.heap.size b2 38 122 5 (fun pre=>pre.length) (fun pre=>rowL Zf pre) (fun pre v'=>pre=[]->v'= .slice none 0 0)) _) (ownFrom_below (Wl _) hB)
def SeqAE (b2:Nat)(x:Za)(a':Act)(W:World):Prop:=
 ∃bx,W.heap[bx]? =some (.cells (Zf x) 122 (0,0))/\Rep 13 [(2, .pointer (some ⟨b2,0,none⟩)),(5, .pointer (some ⟨bx,0,none⟩))] a'
theorem Zpo {w W w3 w4:World}{b2 B:Nat}{v' v2:Value}{pre:List Za}{x:Za}(hw:w.heap.size<=W.heap.size)(hBe:Below w.heap.size w W)(h5:Boxed W b2 38 v')(hrow:W.ownsRow w.heap.size 122 5 v' pre.length (rowL Zf pre))
  (hx:Ext W w3) (hown:w4.ownsRow w.heap.size 122 5 v2 (pre.length+1) (rowL Zf pre++rowL Zf [x])) (hg:w3.grownBy w4 v'.ownBlock) (hb2:w.heap.size<=b2):
  Boxed w4 b2 38 v'/\KeepsFrom B W (w4.setCell ⟨b2,0,none⟩ v2)/\KpK w W (w4.setCell ⟨b2,0,none⟩ v2)/\SeqIE w b2 (pre++[x]) (w4.setCell ⟨b2,0,none⟩ v2):=by
 have hrow3:w3.ownsRow w.heap.size 122 5 v' pre.length (rowL Zf pre):=hrow.kept (Z6 hx) (by cases v' with
  |slice p n c=>cases p with
   |none=>exact .inl rfl
   |some p=>exact .inr (fun h=>by cases h)
  |_=>exact .inl rfl)
 have q5:=Boxed.kept (Zc6 h5 hx) hg (Boxed.not_row (Zc6 h5 hx) (by decide) hrow3)
 have own:∀j,v'.ownBlock=some j->w.heap.size<=j/\∃cs T,w3.heap[j]? =some (.cells cs T (0,0)):=fun j hj=>by
  rcases hrow3.2 with⟨rfl,_⟩|⟨g,cap,cur,rfl,hb,hgb,_⟩
  ·cases hj
  ·obtain rfl:g=j:=by simpa [Value.ownBlock] using hj
   exact⟨hb,_,_,hgb⟩
 have keep:∀(k:Nat)(o:Obj),W.heap[k]? =some o->o.isCells=false->(w4.setCell ⟨b2,0,none⟩ v2).heap[k]? =some o:=fun k o hk ho=>by
  have e3:w3.heap[k]? =some o:=(hx.block k (Zq hk)).trans hk
  have e4:w4.heap[k]? =some o:=(hg.block k (Zq e3) (fun e=>by obtain⟨-,cs,T,hc⟩:=own k e.symm;rw[e3] at hc;cases hc;cases ho)).trans e3
  refine((grownBy_setCell' w4 b2 v2).block k (Zq e4) (fun e=>?_)).trans e4
  obtain rfl:k=b2:=by simpa using e
  rw[show w4.heap[k]? =_ from q5] at e4
  cases e4
  cases ho
 have hbel:=((hx.bel.mono hw).grown hg (Wi hw hx.size) (fun j e=>(own j e).1)).setCell (p:=⟨b2,0,none⟩) hb2 v2
 refine⟨q5,⟨Wi hx.size (Wi hg.size (grownBy_setCell' w4 b2 v2).size),fun k o _ hk ho=>keep k o hk ho⟩,⟨hbel,fun k o hk ho=>keep k o hk (Obj.not_cells_of_walk ho)⟩,⟨⟨v2,Boxed.set v2 q5, ?_,fun h=>?_⟩,hBe.trans hbel⟩⟩
 ·have e:=hown.kept (grownBy_setCell' w4 b2 v2) (.inr (Boxed.not_row q5 (by decide) hown).symm)
  rw[Wp,List.length_singleton,Zbf]
  exact e
 ·simp at h
set_option maxHeartbeats 4000000 in
theorem Zoa (Bm b:Nat)(TB:TypeId)(l:List (Za×Bool))(w:World)(hl:l.length<=1048576)(hB:∃fz,w.heap[Bm]? =some (.cells #[.map (some b)] TB fz))(hb:w.heap[b]? =some (mEx l)):
  Calls prog 302 [.slice none 0 0, .func (.func 259) #[] [.pointer (some ⟨Bm,0,none⟩)].toArray].toArray w (RetM ((ys:{ys:List Za // ys.Perm (pKE l)})×SlS Zf 5 ys.1) (fun s=>vSl s.2) (fun s=>mS 122 s.2) w):=by
 have hgo:=ZfG (N:=5) (P:=prog) (l:=[Value.slice none 0 0, .func (.func 259) #[] [.pointer (some ⟨Bm,0,none⟩)].toArray]) (w:=w) (R:=RetM ((ys:{ys:List Za // ys.Perm (pKE l)})×SlS Zf 5 ys.1) (fun s=>vSl s.2) (fun s=>mS 122 s.2) w) Tryz.func302 rfl Tryz.ntmps302 rfl
 refine hgo ?_
 clear hgo
 refine Zay ?_
 refine ZcB ?_
 repeat(refine wkM ?_;intros)
 refine Zad ?_
 refine Zay ?_
 refine Zay ?_
 refine ZcB ?_
 repeat(refine wkM ?_;intros)
 refine Zad ?_
 refine Za6 ?_
 rename_i b2
 refine⟨fun a w1 ha hw1=>?_⟩
 have hb2:=hw1.mem _ (.head _)
 have hwd:=hw1.ext.size
 refine wpIn_rangeFunc_ownH (F:=Fr none) (n:=5) (P:=prog) (w0:=w1) (N:=l.length+1) (α:=Za) (encs:=fun x=>#[.agg (Zf x)]) (S:=fun ys=>ys.Perm (pKE l)) (Sp:=fun _=>True) (Kp:=KpK w) rfl (by omega) (gf:=259) (lb:=#[.pointer (some ⟨Bm,0,none⟩)]) (ha.ev (x:= .tmp 6) rfl) trivial (fun args w=>ZbH (by kernel_rfl) args w)
  (Zlf w w1 Bm b 4 TB l hw1.ext.bel hB hb) (fun h k=>⟨h.1.trans k.1,fun i o ho hw=>k.2 i o (h.2 i o ho hw) hw⟩) (fun W lo o o' hl h hc hk=>⟨belowK_b (w:=w1) hwd W lo o o' hl h hc hk,fun k o2 h2 hw2=>(World.putObj_heap_other (fun e=>by rw[e,h] at h2;cases h2;rw[hk] at hw2;cases hw2)).trans h2⟩) (Below.refl _ _) (fun _=>rfl)
  (SeqIE w b2) (fun _ _ _=>False) (ZiW hwd) (fun _ _ _ _ _ hs _ _=>hs) ⟨⟨_,hb2.2,World.ownsRow_nil _ _ _ _,fun _=>rfl⟩,hw1.ext.bel⟩
  (SeqAE b2) (fun x a' s X Y row ⟨bx,hc,hr⟩ hg hrow=>⟨bx,(hg.block bx (Zq hc) (fun e=>by obtain⟨-,o,ho,hn⟩:=hrow bx e.symm;rw[hc] at ho;cases ho;cases hn)).trans hc,hr⟩) ?assign ?body ?done ?stop
 case stop=>
  rintro D c pre W _ _ h _
  exact h.elim
 case assign=>
  intro lo pre x W K hi hK
  have hact:∀a0:Act,a0.defers=[]->({tmps:=((#[7]:Array Tmp).zip #[Value.agg (Zf x)]).foldl (fun t (p,v)=>t.setIfInBounds p v) a0.tmps,defers:=[]}:Act)=a0.put (some 7) (.agg (Zf x)):=fun a0 h=>by
   cases a0
   simp only at h
   subst h
   simp[Act.put]
  rw[hact a ha.defers]
  have hrep:=ha.put (some 7) (.agg (Zf x)) rfl
  refine JI.out (r:=some lo) (N:=3) (P:=prog) (w0:=W) (n:=13) (E:=[(7, .agg (Zf x)),(2, .pointer (some ⟨b2,0,none⟩))]) (L:=[]) ?_ _ W (hrep.sub sbB) (Own.start W)
  refine ZaX ?_
  refine Zbn (fun _ _ h=>h) rfl ?_
  repeat(refine wkM ?_;intros)
  rename_i bx
  refine⟨fun a' W' ha' hw'=>hK a' W' ⟨hw'.ext.size,fun k o _ hk _=>(hw'.ext.block k (Zq hk)).trans hk⟩ ⟨hw'.ext.bel.mono hi.2.size,fun k o ho _=>(hw'.ext.block _ (Zq ho)).trans ho⟩ (ZiW (Wl _) _ W W' none hi (Z6 hw'.ext) (fun r e=>by cases e)) ⟨bx,(hw'.mem _ (.head _)).2,ha'.sub sbB⟩⟩
 case body=>
  rintro lo pre x a' W hlw hr hi ⟨bx,hbx,hra⟩ hlt
  obtain⟨⟨v',hv',hrow,hnil⟩,hBe⟩:=hi
  obtain⟨o,m,c,hvs⟩:∃o m c,v'= .slice o m c:=by
   rcases hrow.2 with⟨h,_⟩|⟨g,cap,_,h,_⟩
   ·exact⟨_,_,_,h⟩
   ·exact⟨_,_,_,h⟩
  have f2:=FoC.mk ⟨(0,0),hv'⟩
  have fx:=FoC.mk ⟨(0,0),hbx⟩
  rw[hvs] at f2
  refine JI.out (r:=some lo) (N:=3) (P:=prog) (w0:=W) (n:=13) (E:=[(2, .pointer (some ⟨b2,0,none⟩)),(5, .pointer (some ⟨bx,0,none⟩))]) (L:=[]) ?_ _ W hra (Own.start W)
  refine Za6 ?_
  refine ZaX ?_
  refine⟨fun a2 w2 ha2 hw2=>?_⟩
  refine Zbg [_,_,_] a2 w2 rfl (JO.out (w0:=W) (n:=13) (L:=[]) ?_ a2 w2 ha2 hw2)
  repeat(refine wkM ?_;intros)
  refine ZdG (fun a3 w3 ha3 hw3=>?_)
  have hbn:=(hw3.mem _ (.head _)).2
  refine Zf6 (size:=5) (k:=pre.length) (m:=1) (base:=w.heap.size) (v:=v') (xs:=rowL Zf pre) (news:=rowL Zf [x]) ha3 (by rw[hvs];rfl) rfl rfl (by decide) (hrow.kept (Z6 hw3.ext) (by rw[hvs];cases o with|none=>exact .inl rfl|some p=>exact .inr (fun h=>by cases h))) (Z9 (k:=5) [x]) (fun j u hu=>by rw[ZaG,Zaw hbn,Nat.zero_add];simpa [row] using hu) (ZcI [x]) (by simp only[maxLen];omega) ?_ (Wi hBe.size hw3.ext.size) (fun v2 w4 hown hgrow=>?_)
  ·omega
  ·obtain⟨g',cap',hv2⟩:=ownsRow_succ hown
   subst hv2
   obtain⟨q5,k1,k2,k3⟩:=Zpo (x:=x) (B:=w1.heap.size) hBe.size hBe hv' hrow hw3.ext hown hgrow hb2.1
   refine Zex (b:=b2) (ha3.put (some 11) _ rfl) rfl rfl q5 (by kernel_rfl) rfl rfl ?_
   exact wpListIn_nil ⟨k1,k2,k3⟩
 case done=>
  rintro D ys W hD hp hi hK
  obtain⟨⟨v',hv',hrow,hnil⟩,hBe⟩:=hi
  obtain⟨s,hs1,hs2,hs3⟩:=ZkW hnil hrow
  obtain⟨o,m,c,hvs⟩:∃o m c,v'= .slice o m c:=by
   rcases hrow.2 with⟨h,_⟩|⟨g,cap,_,h,_⟩
   ·exact⟨_,_,_,h⟩
   ·exact⟨_,_,_,h⟩
  have f5:=FoC.mk ⟨(0,0),hv'⟩
  rw[hvs] at f5 hs1
  have hra:Rep 13 [(2, .pointer (some ⟨b2,0,none⟩))] a:=ha.sub sbB
  have hl:YlC prog W 13 [] [(2, .pointer (some ⟨b2,0,none⟩))] (.load 38 (.tmp 2)) (.slice o m c):=inferInstance
  show Code.wpIn (Fr none) 5 _ _ _ _ W
  refine wpIn_seq (wpIn_region_lit ?_)
  refine ZdI (a:=a) (L:=[]) (w0:=W) (hl.out _ _ _ _ _) hra (Own.start W) rfl rfl (fun W2 hx2=>?_)
  refine ZdI (a:=a.put (some 12) (.slice o m c)) (L:=[]) (w0:=W2) (E:=Env.put [(2, .pointer (some ⟨b2,0,none⟩))] (some 12) (.slice o m c)) (Zes rfl) (hra.put (some 12) _ rfl) (Own.start W2) rfl rfl (fun W3 hx3=>?_)
  refine wpListIn_nil ?_
  have hx:=hx2.tr hx3
  have hK3:W3.heap[D]? =some (.deferred (some [])):=(hx.block D (Zq hK)).trans hK
  have hr4:((a.put (some 12) (.slice o m c)).put (some 4) (.slice o m c)).tmps[4]? =some (.slice o m c):=((hra.put (some 12) _ rfl).put (some 4) (.slice o m c) rfl).val 4 _ rfl
  refine wpIn_ret ?_
  refine⟨by simp, .inl ⟨_,_,rfl,run_takeDeferred hK3, ?_⟩⟩
  rw[ha.defers]
  refine⟨.slice o m c, ?_,⟨⟨ys,hp⟩,s⟩,by rw[hs1],⟨⟨?_,trivial⟩,fun e he=>?_,hs2⟩⟩
  ·rw[results_tmp rfl]
   show Result.ok (Array.getD _ 4 undef) _=_
   rw[Array.getD_eq_getD_getElem?,hr4]
   rfl
  ·exact(hBe.trans (hx.bel.mono hBe.size)).trans (belowK_b (w:=w1) hwd W3 D _ _ hD hK3 rfl rfl)
  ·obtain⟨h1,h2⟩:=hs3 e he
   have h3:=(hx.block _ (Zq h2)).trans h2
   refine⟨h1,(World.putObj_heap_other (fun hd=>?_)).trans h3⟩
   rw[hd,hK3] at h3
   simp only at he
   rcases s.cases 122 with⟨-, -,x2⟩|⟨bs,cs,sp, -, -,x2, -⟩
   ·rw[x2] at he
    cases he
   ·rw[x2,Wo] at he
    subst he
    cases h3
end
section
def orL :List Int->Int
 |[]=>0
 |x::r=>if x=0 then orL r else x
theorem ZrL (xs:List Int)(m:Nat)(hm:m<xs.length):orL (xs.drop m)=if gi xs (m:Int)=0 then orL (xs.drop (m+1)) else gi xs (m:Int):=by
 rw[List.drop_eq_getElem_cons hm,orL,Zj hm]
theorem ZnN (b c n:Nat)(xs:List Int)(sp:List Value)(T:TypeId)(hn:n=xs.length)(hl:n<=1099511627776)(w:World)(hw:∃fz,w.heap[b]? =some (.cells (row (eI .i64) xs sp) T fz)):
  Calls prog 158 [.slice (some ⟨b,0,none⟩) n c].toArray w (Ret (.int .i64 (orL xs)) w):=by
 have:=FoC.mk hw
 refine Zg Tryz.func158 rfl Tryz.ntmps158 rfl ?_
 repeat(refine wkB ?_;intros)
 refine Zm (S:=Nat) (fun m=>m<=n/\orL xs=orL (xs.drop m)) (fun m=>[(3, .int .i64 0),(6, .slice (some ⟨b,0,none⟩) n c),(7, .int .i64 n),(8, .int .i64 (m:Nat))]) (fun _=>[]) (fun m=>n-m) 0 ⟨Wm _,by rw[List.drop_zero]⟩ sbB slB (fun m hm=>?_)
 obtain⟨hm,ho⟩:=hm
 repeat(refine wkB ?_;intros)
 refine Zl rfl (fun h=>?_) (fun h=>?_)
 ·have hlt:m<n:=by have:=Wa h;omega
  have hlp:(m:Int).toNat<xs.length:=by omega
  rw[ZrL xs m (by omega)] at ho
  repeat(refine wkB ?_;intros)
  by_cases h0:gi xs (m:Int)=0
  ·rw[if_pos h0] at ho
   simp only[Wc h0,Bool.not_true]
   repeat(first|(refine wkB ?_;intros)|(refine wnM ?_ ?_;(focus(exact⟨by omega,by omega⟩));intros))
   exact Zh (m+1) ⟨hlt,ho⟩ sbB slB (by omega)
  ·rw[if_neg h0] at ho
   simp only[We h0,Bool.not_false]
   repeat(refine wkB ?_;intros)
   rw[ho]
   exact rtT rfl rfl
 ·have hge:m=n:=by have:=Wb h;omega
  subst hge
  rw[hn,List.drop_length] at ho
  repeat(refine wkB ?_;intros)
  rw[ho]
  exact rtT rfl rfl
instance ZEo (w0:World)(L:List Blk)(b c n:Nat)(xs:List Int)(sp:List Value)(T:TypeId)[h:AtC w0 L b (row (eI .i64) xs sp) T]:SpecM prog w0 L 158 [.slice (some ⟨b,0,none⟩) n c] (.int .i64 (orL xs)) (n=xs.length/\n<=1099511627776):=⟨fun hp w hw=>ZnN b c n xs sp T hp.1 hp.2 w (h.out w hw)⟩
def opn (I:Ze):Int:=if I.OpenFrom then 1 else 0
instance ZI3 (I:Ze):SpecC prog 226 [vIv I] (.int .i64 (opn I)) True:=⟨fun _ w=>by
 refine Zg Tryz.func226 rfl Tryz.ntmps226 rfl ?_
 obtain⟨f,t,o,c⟩:=I
 cases o
 ·repeat(refine wkB ?_;intros)
  exact rtT rfl rfl
 ·repeat(refine wkB ?_;intros)
  exact rtT rfl rfl⟩
structure IvOk (K:Nat)(I:Ze):Prop where
 r1:I.From.R=0
 r2:I.To.R=0
 n1:I.From.Neg=false
 n2:I.To.Neg=false
 m1:M I.From.P<=K
 m2:M I.To.P<=K
theorem IvOk.mono {K K':Nat}{I:Ze}(h:IvOk K I)(hk:K<=K'):IvOk K' I:=⟨h.r1,h.r2,h.n1,h.n2,Wi h.m1 hk,Wi h.m2 hk⟩
abbrev BQ :Nat:=8589934592
def cmpU (a b:UL):Int:=orL [cq a.In.From.P b.In.From.P,Lib.compareInt (opn a.In) (opn b.In),cq a.In.To.P b.In.To.P]
instance ZGH (a b:UL):SpecC prog 225 [vUL a,vUL b] (.int .i64 (cmpU a b)) (IvOk BQ a.In/\IvOk BQ b.In):=⟨fun hp w=>by
 obtain⟨h1,h2⟩:=hp
 refine Zg Tryz.func225 rfl Tryz.ntmps225 rfl ?_
 repeat(refine wkB ?_;intros)
 rename_i b2 b3
 (refine Zfb [([0,1,2,3,4,5,6,7,8,9,10,11,12,13,14,15,16,17,18,19,20,21,22],[23,24,25])] ([⟨b3,rU b,224⟩,⟨b2,rU a,224⟩]) (h:=?_);refine wkP ?_)
 (repeat(first|refine wkH ?_|(refine tC rfl rfl ?_ ?_;focus(first|exact trivial|exact⟨⟨h1.r1,h2.r1⟩,Wi h1.m1 (by decide),Wi h2.m1 (by decide)⟩|exact⟨⟨h1.r2,h2.r2⟩,Wi h1.m2 (by decide),Wi h2.m2 (by decide)⟩))))
 repeat(first|(refine wkT ?_;intros)|(refine tC rfl rfl ?_ ?_;focus(exact⟨rfl,by decide⟩))|(refine uC rfl rfl ?_ ?_;focus(exact⟨rfl,by decide⟩))|(refine eN rfl rfl ?_ ?_;(focus(exact⟨rfl,by decide⟩));intro _;(try simp only[Wf,Wg,Wh])))
 repeat(refine wkB ?_;intros)
 exact rtT rfl rfl⟩
def swp (xs:List UL)(j:Nat):List UL:=(xs.set (j+1) (gi xs (j:Int))).set j (gi xs ((j+1:Nat):Int))
def dwn (xs:List UL):Nat->List UL
 |0=>xs
 |j+1=>if cmpU (gi xs ((j+1:Nat):Int)) (gi xs (j:Int))<0 then dwn (swp xs j) j else xs
def srt (xs:List UL):Nat->List UL
 |0=>xs
 |i+1=>dwn (srt xs i) (i+1)
theorem Zh7 (xs:List UL)(j:Nat):(swp xs j).length=xs.length:=by simp[swp]
theorem Zmi {xs:List UL}{j:Nat}(h:j+1<xs.length){u:UL}(hu:u∈swp xs j):u∈xs:=by
 unfold swp at hu
 rcases List.mem_or_eq_of_mem_set hu with h1|h1
 ·rcases List.mem_or_eq_of_mem_set h1 with h2|h2
  ·exact h2
  ·rw[h2,Zj (by omega)]
   exact List.getElem_mem _
 ·rw[h1,Zj h]
  exact List.getElem_mem _
theorem Zmu :∀(j:Nat)(xs:List UL),(dwn xs j).length=xs.length
 |0,_=>rfl
 |j+1,xs=>by
  rw[dwn]
  split
  ·rw[Zmu j,Zh7]
  ·rfl
theorem ZmO :∀(j:Nat)(xs:List UL),j<xs.length->∀u∈dwn xs j,u∈xs
 |0,_,_,_,h=>h
 |j+1,xs,hj,u,h=>by
  rw[dwn] at h
  split at h
  ·exact Zmi hj (ZmO j _ (by rw[Zh7];omega) u h)
  ·exact h
theorem ZeM (xs:List UL):∀i,(srt xs i).length=xs.length
 |0=>rfl
 |i+1=>by rw[srt,Zmu,ZeM xs i]
theorem ZhL (xs:List UL):∀i,i<xs.length->∀u∈srt xs i,u∈xs
 |0,_,_,h=>h
 |i+1,hi,u,h=>by
  rw[srt] at h
  exact ZhL xs i (by omega) u (ZmO _ _ (by rw[ZeM];exact hi) u h)
theorem ZrU (w0 w:World)(L1:List Blk)(b c n:Nat)(xs:List UL)(sp:List Value)(T:TypeId)(hn:xs.length=n)(hl:n<=1048576)(hok:∀u∈xs,IvOk BQ u.In)(hw:Own w0 (⟨b,row rU xs sp,T⟩::L1) w):
  Calls prog 309 [.slice (some ⟨b,0,none⟩) n c, .int .i64 0, .int .i64 n,vFn 225].toArray w (RetX w0 Unit (fun _=> .tuple #[]) (fun _=>⟨b,row rU (srt xs (n-1)) sp,T⟩::L1)):=by
 refine ZY Tryz.func309 rfl Tryz.ntmps309 rfl hw ?_
 repeat(refine wkB ?_;intros)
 refine Zm (S:=Nat) (fun m=>m<=n-1) (fun m=>[(0, .slice (some ⟨b,0,none⟩) n c),(1, .int .i64 0),(2, .int .i64 n),(3,vFn 225),(8, .int .i64 ((m+1:Nat)))]) (fun m=>⟨b,row rU (srt xs m) sp,T⟩::L1) (fun m=>n-1-m) 0 (Wm _) sbB slB (fun m hm=>?_)
 have hsl:=ZeM xs m
 repeat(refine wkB ?_;intros)
 refine Zl rfl (fun h=>?_) (fun h=>?_)
 ·have hlt:m+1<n:=by have:=Wa h;omega
  have hmem:=ZhL xs m (by omega)
  repeat(refine wkB ?_;intros)
  refine Zm (S:=Nat×List UL) (fun s=>dwn s.2 s.1=srt xs (m+1)/\s.2.length=n/\s.1<=m+1/\∀u∈s.2,IvOk BQ u.In) (fun s=>[(0, .slice (some ⟨b,0,none⟩) n c),(1, .int .i64 0),(2, .int .i64 n),(3,vFn 225),(8, .int .i64 ((m+1:Nat))),(9, .int .i64 ((s.1:Nat)))]) (fun s=>⟨b,row rU s.2 sp,T⟩::L1) (fun s=>s.1) (m+1,srt xs m)
   ⟨rfl,by show(srt xs m).length=n;omega,Wl _,fun u hu=>hok u (hmem u hu)⟩ sbB slB (fun s hs=>?_)
  obtain⟨j,ys⟩:=s
  obtain⟨g1,g2,g3,g4⟩:=hs
  simp only at g1 g2 g3 g4⊢
  repeat(refine wkB ?_;intros)
  rcases j with _|j
  ·(refine jD 17 17 (h:=?_);(repeat(refine wkH ?_));refine Zn ?_;(repeat(refine Z4 ?_;intro _));refine Zr ?_)
   repeat(refine wkB ?_;intros)
   exact Zh (m+1) (by omega) sbB (by rw[<-g1];exact Wj _) (by omega)
  ·have hj1:((j:Int)).toNat<ys.length:=by omega
   have hj2:(((j+1:Nat):Int)).toNat<ys.length:=by omega
   have e1:((j+1:Nat):Int)-1=(j:Int):=by omega
   have o1:=g4 _ (by rw[Zj (show j<ys.length by omega)];exact List.getElem_mem _:gi ys (j:Int)∈ys)
   have o2:=g4 _ (by rw[Zj (show j+1<ys.length by omega)];exact List.getElem_mem _:gi ys ((j+1:Nat):Int)∈ys)
   rw[dwn] at g1
   refine jD 17 17 (h:=?_)
   (repeat(refine wkH ?_))
   simp only[Wc (show(0:Int)<((j+1:Nat):Int) by omega),e1]
   (repeat(refine wkH ?_))
   simp only[e1]
   (repeat(first|refine wkH ?_|(refine tC rfl rfl ?_ ?_;focus(exact⟨o2,o1⟩))))
   refine Zn ?_
   refine Zr ?_
   repeat(refine wkB ?_;intros)
   by_cases hc:cmpU (gi ys ((j+1:Nat):Int)) (gi ys (j:Int))<0
   ·rw[if_pos hc] at g1
    simp only[Wc hc]
    repeat(refine wkB ?_;intros)
    (refine Zfc [(true,[0,1,2,3,4,5,6,7,8]),(false,[9]),(true,[10,11,12]),(false,[13]),(true,[14])] [15,16,17] (h:=?_);refine wkS ?_)
    (repeat(refine wkH ?_))
    simp only[e1]
    refine Zn ?_
    refine eR rfl ?_ ?_
    ·omega
    refine uS rfl rfl ?_ ?_
    ·omega
    refine eR rfl ?_ ?_
    ·rw[List.length_set];omega
    refine Zba ?_
    simp only[Int.toNat_natCast]
    repeat(first|(refine wkB ?_;intros)|(refine wnM ?_ ?_;(focus(exact⟨by omega,by omega⟩));intros))
    simp only[e1]
    exact Zh (j,swp ys j) ⟨g1,by rw[Zh7];exact g2,by omega,fun u hu=>g4 u (Zmi (by omega) hu)⟩ sbB slB (by show j<j+1;omega)
   ·rw[if_neg hc] at g1
    simp only[We hc]
    repeat(first|(refine wkB ?_;intros)|(refine wnM ?_ ?_;(focus(exact⟨by omega,by omega⟩));intros))
    exact Zh (m+1) (by omega) sbB (by rw[<-g1];exact Wj _) (by omega)
 ·have hge:m=n-1:=by have:=Wb h;omega
  subst hge
  repeat(refine wkB ?_;intros)
  exact Zaj rfl (fun w hw=>⟨(),rfl,hw⟩)
abbrev SrtS (xs:List UL)(s:SlS rU 36 xs):Type:={s':SlS rU 36 (srt xs (xs.length-1)) // vSl s'=vSl s}
theorem Zqc (w0 w:World)(L L1:List Blk)(xs:List UL)(s:SlS rU 36 xs)(T:TypeId)[hd:OwnS T s L L1](hl:xs.length<=1048576)(hok:∀u∈xs,IvOk BQ u.In)(hw:Own w0 L w):
  Calls prog 309 [vSl s, .int .i64 0, .int .i64 xs.length,vFn 225].toArray w (RetX w0 (SrtS xs s) (fun _=> .tuple #[]) (fun s'=>mS T s'.1++L1)):=by
 have hw1:=hw.perm hd.out
 rcases s.cases T with⟨rfl,hv,hm⟩|⟨b,c,sp,h1,hv,hm,hne⟩
 ·suffices h:Calls prog 309 [.slice none 0 0, .int .i64 0, .int .i64 (([]:List UL).length:Nat),vFn 225].toArray w (RetX w0 (SrtS [] s) (fun _=> .tuple #[]) (fun s'=>mS T s'.1++L1)) by
   rw[<-hv] at h
   exact h
  refine ZY Tryz.func309 rfl Tryz.ntmps309 rfl hw1 ?_
  repeat(refine wkB ?_;intros)
  refine Zm (S:=Unit) (fun _=>True) (fun _=>[(2, .int .i64 (([]:List UL).length:Nat)),(8, .int .i64 1)]) (fun _=>mS T s++L1) (fun _=>0) () trivial sbB slB (fun _ _=>?_)
  repeat(refine wkB ?_;intros)
  simp only[We (show¬(1:Int)<((([]:List UL).length:Nat):Int) by simp)]
  repeat(refine wkB ?_;intros)
  exact Zaj rfl (fun w hw=>⟨⟨s,rfl⟩,rfl,hw⟩)
 ·suffices h:Calls prog 309 [.slice (some ⟨b,0,none⟩) xs.length c, .int .i64 0, .int .i64 xs.length,vFn 225].toArray w (RetX w0 (SrtS xs s) (fun _=> .tuple #[]) (fun s'=>mS T s'.1++L1)) by
   rw[<-hv] at h
   exact h
  rw[hm] at hw1
  have hsl:=ZeM xs (xs.length-1)
  refine(ZrU w0 w L1 b c xs.length xs sp T rfl hl hok hw1).mono fun e w' ⟨_,he,hw'⟩=>?_
  exact⟨⟨SlS.at_ b c sp (by rw[hsl];exact h1) (fun h0=>hne (List.length_eq_zero_iff.1 (by rw[h0,Wx] at hsl;exact hsl.symm))),by rw[hv];show Value.slice _ (srt xs (xs.length-1)).length c=_;rw[hsl]⟩,he,hw'⟩
instance ZJ3 (w0:World)(L L1:List Blk)(xs:List UL)(s:SlS rU 36 xs)(T:TypeId)[hd:OwnS T s L L1]:SpecX prog w0 L 309 [vSl s, .int .i64 0, .int .i64 xs.length,vFn 225] (SrtS xs s) (fun _=> .tuple #[]) (fun s'=>mS T s'.1++L1) (xs.length<=1048576/\∀u∈xs,IvOk BQ u.In):=⟨fun hp w hw=>Zqc w0 w L L1 xs s T hp.1 hp.2 hw⟩
theorem Zl0 (w0 w:World)(L L1:List Blk)(xs:List UL)(s:SlS rU 36 xs)(T:TypeId)[hd:OwnS T s L L1](hl:xs.length<=19)(hok:∀u∈xs,IvOk BQ u.In)(hw:Own w0 L w):
  Calls prog 273 [vSl s, .int .i64 xs.length,vFn 225].toArray w (RetX w0 (SrtS xs s) (fun _=> .tuple #[]) (fun s'=>mS T s'.1++L1)):=by
 refine ZY Tryz.func273 rfl Tryz.ntmps273 rfl hw ?_
 repeat(refine wkB ?_;intros)
 refine Zm (S:=Unit) (fun _=>True) (fun _=>[(0,vSl s),(1, .int .i64 xs.length),(2,vFn 225),(6, .int .i64 20),(7, .int .i64 0),(8, .int .i64 20)]) (fun _=>L) (fun _=>0) () trivial sbB slB (fun _ _=>?_)
 repeat(refine wkB ?_;intros)
 simp only[We (show¬(20:Int)<=(xs.length:Int) by omega)]
 repeat(refine wkB ?_;intros)
 refine sZ rfl rfl ?_ ?_
 ·exact⟨by omega,hok⟩
 intro s'
 repeat(refine wkB ?_;intros)
 refine Zm (S:=Unit) (fun _=>True) (fun _=>[(1, .int .i64 xs.length),(6, .int .i64 20)]) (fun _=>mS T s'.1++L1) (fun _=>0) () trivial sbB slB (fun _ _=>?_)
 repeat(refine wkB ?_;intros)
 simp only[We (show¬(20:Int)<(xs.length:Int) by omega)]
 repeat(refine wkB ?_;intros)
 exact Zaj rfl (fun w hw=>⟨s',rfl,hw⟩)
instance ZAn (w0:World)(L L1:List Blk)(xs:List UL)(s:SlS rU 36 xs)(T:TypeId)[hd:OwnS T s L L1]:SpecX prog w0 L 273 [vSl s, .int .i64 xs.length,vFn 225] (SrtS xs s) (fun _=> .tuple #[]) (fun s'=>mS T s'.1++L1) (xs.length<=19/\∀u∈xs,IvOk BQ u.In):=⟨fun hp w hw=>Zl0 w0 w L L1 xs s T hp.1 hp.2 hw⟩
theorem Zhd (w0 w:World)(L L1:List Blk)(xs:List UL)(s:SlS rU 36 xs)(T:TypeId)[hd:OwnS T s L L1](hl:xs.length<=19)(hok:∀u∈xs,IvOk BQ u.In)(hw:Own w0 L w):
  Calls prog 224 [vSl s,vFn 225].toArray w (RetX w0 (SrtS xs s) (fun _=> .tuple #[]) (fun s'=>mS T s'.1++L1)):=by
 refine ZY Tryz.func224 rfl Tryz.ntmps224 rfl hw ?_
 repeat(refine wkB ?_;intros)
 refine sZ rfl rfl ?_ ?_
 ·exact⟨hl,hok⟩
 intro s'
 repeat(refine wkB ?_;intros)
 exact Zaj rfl (fun w hw=>⟨s',rfl,hw⟩)
instance ZuX (w0:World)(L L1:List Blk)(xs:List UL)(s:SlS rU 36 xs)(T:TypeId)[hd:OwnS T s L L1]:SpecX prog w0 L 224 [vSl s,vFn 225] (SrtS xs s) (fun _=> .tuple #[]) (fun s'=>mS T s'.1++L1) (xs.length<=19/\∀u∈xs,IvOk BQ u.In):=⟨fun hp w hw=>Zhd w0 w L L1 xs s T hp.1 hp.2 hw⟩
end
section
def fldE (x:Za):List Int:=[x.From,x.To,x.Sent,x.Received,x.Least]
theorem Zss {a b:Za}(h:fldE a=fldE b):a=b:=by
 obtain⟨a1,a2,a3,a4,a5⟩:=a
 obtain⟨b1,b2,b3,b4,b5⟩:=b
 simp only[fldE,List.cons.injEq,and_true] at h
 obtain⟨rfl,rfl,rfl,rfl,rfl⟩:=h
 rfl
def cmpEx (a b:Za):Int:=lexC (fldE a) (fldE b)
abbrev ExOk (_:Za):Prop:=True
theorem ZtB (a1 a2 a3 a4 a5 b1 b2 b3 b4 b5:Int):orL [Lib.compareInt a1 b1,Lib.compareInt a2 b2,Lib.compareInt a3 b3,Lib.compareInt a4 b4,Lib.compareInt a5 b5]=lexC [a1,a2,a3,a4,a5] [b1,b2,b3,b4,b5]:=by
 simp only[orL,Zi8]
 have e:lexC [] []=0:=rfl
 rw[e]
 repeat' split
 all_goals first|rfl|omega
instance ZFI (a b:Za):SpecC prog 207 [.agg (Zf a), .agg (Zf b)] (.int .i64 (cmpEx a b)) (ExOk a/\ExOk b):=⟨fun _ w=>by
 have he:cmpEx a b=orL [Lib.compareInt a.From b.From,Lib.compareInt a.To b.To,Lib.compareInt a.Sent b.Sent,Lib.compareInt a.Received b.Received,Lib.compareInt a.Least b.Least]:=(ZtB _ _ _ _ _ _ _ _ _ _).symm
 rw[he]
 refine Zg Tryz.func207 rfl Tryz.ntmps207 rfl ?_
 repeat(refine wkB ?_;intros)
 rename_i b2 b3
 (refine Zfb [([0,1,2,3,4,5,6,7,8,9,10,11,12,13,14,15,16,17,18,19,20,21,22,23,24],[25,26,27])] ([⟨b3,Zf b,122⟩,⟨b2,Zf a,122⟩]) (h:=?_);refine wkP ?_)
 (repeat(refine wkH ?_))
 repeat(first|(refine wkT ?_;intros)|(refine tC rfl rfl ?_ ?_;focus(exact⟨rfl,by decide⟩))|(refine uC rfl rfl ?_ ?_;focus(exact⟨rfl,by decide⟩))|(refine eN rfl rfl ?_ ?_;(focus(exact⟨rfl,by decide⟩));intro _;(try simp only[Wf,Wg,Wh])))
 repeat(refine wkB ?_;intros)
 exact rtT rfl rfl⟩
end
section
def swpEx (xs:List Za)(j:Nat):List Za:=(xs.set (j+1) (gi xs (j:Int))).set j (gi xs ((j+1:Nat):Int))
def dwnEx (xs:List Za):Nat->List Za
 |0=>xs
 |j+1=>if cmpEx (gi xs ((j+1:Nat):Int)) (gi xs (j:Int))<0 then dwnEx (swpEx xs j) j else xs
def srtEx (xs:List Za):Nat->List Za
 |0=>xs
 |i+1=>dwnEx (srtEx xs i) (i+1)
theorem ZfF (xs:List Za)(j:Nat):(swpEx xs j).length=xs.length:=by simp[swpEx]
theorem ZiG {xs:List Za}{j:Nat}(h:j+1<xs.length){u:Za}(hu:u∈swpEx xs j):u∈xs:=by
 unfold swpEx at hu
 rcases List.mem_or_eq_of_mem_set hu with h1|h1
 ·rcases List.mem_or_eq_of_mem_set h1 with h2|h2
  ·exact h2
  ·rw[h2,Zj (by omega)]
   exact List.getElem_mem _
 ·rw[h1,Zj h]
  exact List.getElem_mem _
theorem Ziy :∀(j:Nat)(xs:List Za),(dwnEx xs j).length=xs.length
 |0,_=>rfl
 |j+1,xs=>by
  rw[dwnEx]
  split
  ·rw[Ziy j,ZfF]
  ·rfl
theorem ZiX :∀(j:Nat)(xs:List Za),j<xs.length->∀u∈dwnEx xs j,u∈xs
 |0,_,_,_,h=>h
 |j+1,xs,hj,u,h=>by
  rw[dwnEx] at h
  split at h
  ·exact ZiG hj (ZiX j _ (by rw[ZfF];omega) u h)
  ·exact h
theorem Zds (xs:List Za):∀i,(srtEx xs i).length=xs.length
 |0=>rfl
 |i+1=>by rw[srtEx,Ziy,Zds xs i]
theorem Zi6 (xs:List Za):∀i,i<xs.length->∀u∈srtEx xs i,u∈xs
 |0,_,_,h=>h
 |i+1,hi,u,h=>by
  rw[srtEx] at h
  exact Zi6 xs i (by omega) u (ZiX _ _ (by rw[Zds];exact hi) u h)
theorem Zof (w0 w:World)(L1:List Blk)(b c n:Nat)(xs:List Za)(sp:List Value)(T:TypeId)(hn:xs.length=n)(hl:n<=1048576)(hok:∀u∈xs,ExOk u)(hw:Own w0 (⟨b,row Zf xs sp,T⟩::L1) w):
  Calls prog 324 [.slice (some ⟨b,0,none⟩) n c, .int .i64 0, .int .i64 n,vFn 207].toArray w (RetX w0 Unit (fun _=> .tuple #[]) (fun _=>⟨b,row Zf (srtEx xs (n-1)) sp,T⟩::L1)):=by
 refine ZY Tryz.func324 rfl Tryz.ntmps324 rfl hw ?_
 repeat(refine wkB ?_;intros)
 refine Zm (S:=Nat) (fun m=>m<=n-1) (fun m=>[(0, .slice (some ⟨b,0,none⟩) n c),(1, .int .i64 0),(2, .int .i64 n),(3,vFn 207),(8, .int .i64 ((m+1:Nat)))]) (fun m=>⟨b,row Zf (srtEx xs m) sp,T⟩::L1) (fun m=>n-1-m) 0 (Wm _) sbB slB (fun m hm=>?_)
 have hsl:=Zds xs m
 repeat(refine wkB ?_;intros)
 refine Zl rfl (fun h=>?_) (fun h=>?_)
 ·have hlt:m+1<n:=by have:=Wa h;omega
  have hmem:=Zi6 xs m (by omega)
  repeat(refine wkB ?_;intros)
  refine Zm (S:=Nat×List Za) (fun s=>dwnEx s.2 s.1=srtEx xs (m+1)/\s.2.length=n/\s.1<=m+1/\∀u∈s.2,ExOk u) (fun s=>[(0, .slice (some ⟨b,0,none⟩) n c),(1, .int .i64 0),(2, .int .i64 n),(3,vFn 207),(8, .int .i64 ((m+1:Nat))),(9, .int .i64 ((s.1:Nat)))]) (fun s=>⟨b,row Zf s.2 sp,T⟩::L1) (fun s=>s.1) (m+1,srtEx xs m)
   ⟨rfl,by show(srtEx xs m).length=n;omega,Wl _,fun u hu=>hok u (hmem u hu)⟩ sbB slB (fun s hs=>?_)
  obtain⟨j,ys⟩:=s
  obtain⟨g1,g2,g3,g4⟩:=hs
  simp only at g1 g2 g3 g4⊢
  repeat(refine wkB ?_;intros)
  rcases j with _|j
  ·(refine jD 17 17 (h:=?_);(repeat(refine wkH ?_));refine Zn ?_;(repeat(refine Z4 ?_;intro _));refine Zr ?_)
   repeat(refine wkB ?_;intros)
   exact Zh (m+1) (by omega) sbB (by rw[<-g1];exact Wj _) (by omega)
  ·have hj1:((j:Int)).toNat<ys.length:=by omega
   have hj2:(((j+1:Nat):Int)).toNat<ys.length:=by omega
   have e1:((j+1:Nat):Int)-1=(j:Int):=by omega
   have o1:=g4 _ (by rw[Zj (show j<ys.length by omega)];exact List.getElem_mem _:gi ys (j:Int)∈ys)
   have o2:=g4 _ (by rw[Zj (show j+1<ys.length by omega)];exact List.getElem_mem _:gi ys ((j+1:Nat):Int)∈ys)
   rw[dwnEx] at g1
   refine jD 17 17 (h:=?_)
   (repeat(refine wkH ?_))
   simp only[Wc (show(0:Int)<((j+1:Nat):Int) by omega),e1]
   (repeat(refine wkH ?_))
   simp only[e1]
   (repeat(first|refine wkH ?_|(refine tC rfl rfl ?_ ?_;focus(exact⟨o2,o1⟩))))
   refine Zn ?_
   refine Zr ?_
   repeat(refine wkB ?_;intros)
   by_cases hc:cmpEx (gi ys ((j+1:Nat):Int)) (gi ys (j:Int))<0
   ·rw[if_pos hc] at g1
    simp only[Wc hc]
    repeat(refine wkB ?_;intros)
    (refine Zfc [(true,[0,1,2,3,4,5,6,7,8]),(false,[9]),(true,[10,11,12]),(false,[13]),(true,[14])] [15,16,17] (h:=?_);refine wkS ?_)
    (repeat(refine wkH ?_))
    simp only[e1]
    refine Zn ?_
    refine eR rfl ?_ ?_
    ·omega
    refine uS rfl rfl ?_ ?_
    ·omega
    refine eR rfl ?_ ?_
    ·rw[List.length_set];omega
    refine Zba ?_
    simp only[Int.toNat_natCast]
    repeat(first|(refine wkB ?_;intros)|(refine wnM ?_ ?_;(focus(exact⟨by omega,by omega⟩));intros))
    simp only[e1]
    exact Zh (j,swpEx ys j) ⟨g1,by rw[ZfF];exact g2,by omega,fun u hu=>g4 u (ZiG (by omega) hu)⟩ sbB slB (by show j<j+1;omega)
   ·rw[if_neg hc] at g1
    simp only[We hc]
    repeat(first|(refine wkB ?_;intros)|(refine wnM ?_ ?_;(focus(exact⟨by omega,by omega⟩));intros))
    exact Zh (m+1) (by omega) sbB (by rw[<-g1];exact Wj _) (by omega)
 ·have hge:m=n-1:=by have:=Wb h;omega
  subst hge
  repeat(refine wkB ?_;intros)
  exact Zaj rfl (fun w hw=>⟨(),rfl,hw⟩)
abbrev SrtSEx (xs:List Za)(s:SlS Zf 5 xs):Type:={s':SlS Zf 5 (srtEx xs (xs.length-1)) // vSl s'=vSl s}
theorem Zll (w0 w:World)(L L1:List Blk)(xs:List Za)(s:SlS Zf 5 xs)(T:TypeId)[hd:OwnS T s L L1](hl:xs.length<=1048576)(hok:∀u∈xs,ExOk u)(hw:Own w0 L w):
  Calls prog 324 [vSl s, .int .i64 0, .int .i64 xs.length,vFn 207].toArray w (RetX w0 (SrtSEx xs s) (fun _=> .tuple #[]) (fun s'=>mS T s'.1++L1)):=by
 have hw1:=hw.perm hd.out
 rcases s.cases T with⟨rfl,hv,hm⟩|⟨b,c,sp,h1,hv,hm,hne⟩
 ·suffices h:Calls prog 324 [.slice none 0 0, .int .i64 0, .int .i64 (([]:List Za).length:Nat),vFn 207].toArray w (RetX w0 (SrtSEx [] s) (fun _=> .tuple #[]) (fun s'=>mS T s'.1++L1)) by
   rw[<-hv] at h
   exact h
  refine ZY Tryz.func324 rfl Tryz.ntmps324 rfl hw1 ?_
  repeat(refine wkB ?_;intros)
  refine Zm (S:=Unit) (fun _=>True) (fun _=>[(2, .int .i64 (([]:List Za).length:Nat)),(8, .int .i64 1)]) (fun _=>mS T s++L1) (fun _=>0) () trivial sbB slB (fun _ _=>?_)
  repeat(refine wkB ?_;intros)
  simp only[We (show¬(1:Int)<((([]:List Za).length:Nat):Int) by simp)]
  repeat(refine wkB ?_;intros)
  exact Zaj rfl (fun w hw=>⟨⟨s,rfl⟩,rfl,hw⟩)
 ·suffices h:Calls prog 324 [.slice (some ⟨b,0,none⟩) xs.length c, .int .i64 0, .int .i64 xs.length,vFn 207].toArray w (RetX w0 (SrtSEx xs s) (fun _=> .tuple #[]) (fun s'=>mS T s'.1++L1)) by
   rw[<-hv] at h
   exact h
  rw[hm] at hw1
  have hsl:=Zds xs (xs.length-1)
  refine(Zof w0 w L1 b c xs.length xs sp T rfl hl hok hw1).mono fun e w' ⟨_,he,hw'⟩=>?_
  exact⟨⟨SlS.at_ b c sp (by rw[hsl];exact h1) (fun h0=>hne (List.length_eq_zero_iff.1 (by rw[h0,Wx] at hsl;exact hsl.symm))),by rw[hv];show Value.slice _ (srtEx xs (xs.length-1)).length c=_;rw[hsl]⟩,he,hw'⟩
instance ZD0 (w0:World)(L L1:List Blk)(xs:List Za)(s:SlS Zf 5 xs)(T:TypeId)[hd:OwnS T s L L1]:SpecX prog w0 L 324 [vSl s, .int .i64 0, .int .i64 xs.length,vFn 207] (SrtSEx xs s) (fun _=> .tuple #[]) (fun s'=>mS T s'.1++L1) (xs.length<=1048576/\∀u∈xs,ExOk u):=⟨fun hp w hw=>Zll w0 w L L1 xs s T hp.1 hp.2 hw⟩
end
section
theorem Zom (w0 w:World)(L L1:List Blk)(xs:List Za)(s:SlS Zf 5 xs)(T:TypeId)(lim:Int)[hd:OwnS T s L L1](hl:xs.length<=12)(hok:∀u∈xs,ExOk u)(hw:Own w0 L w):
  Calls prog 303 [vSl s, .int .i64 0, .int .i64 xs.length, .int .i64 lim,vFn 207].toArray w (RetX w0 (SrtSEx xs s) (fun _=> .tuple #[]) (fun s'=>mS T s'.1++L1)):=by
 refine ZY Tryz.func303 rfl Tryz.ntmps303 rfl hw ?_
 repeat(refine wkB ?_;intros)
 refine Zm (S:=Unit) (fun _=>True) (fun _=>[(0,vSl s),(1, .int .i64 0),(2, .int .i64 xs.length),(3, .int .i64 lim),(4,vFn 207),(10, .bool true),(11, .bool true)]) (fun _=>L) (fun _=>0) () trivial sbB slB (fun _ _=>?_)
 repeat(refine wkB ?_;intros)
 simp only[Wc (show(xs.length:Int)-0<=12 by omega)]
 repeat(refine wkB ?_;intros)
 refine sZ rfl rfl ?_ ?_
 ·exact⟨by omega,hok⟩
 intro s'
 repeat(refine wkB ?_;intros)
 exact ZcG rfl (fun w hw=>⟨s',rfl,hw⟩)
instance ZEg (w0:World)(L L1:List Blk)(xs:List Za)(s:SlS Zf 5 xs)(T:TypeId)(lim:Int)[hd:OwnS T s L L1]:SpecX prog w0 L 303 [vSl s, .int .i64 0, .int .i64 xs.length, .int .i64 lim,vFn 207] (SrtSEx xs s) (fun _=> .tuple #[]) (fun s'=>mS T s'.1++L1) (xs.length<=12/\∀u∈xs,ExOk u):=⟨fun hp w hw=>Zom w0 w L L1 xs s T lim hp.1 hp.2 hw⟩
theorem ZlV (w0 w:World)(L L1:List Blk)(xs:List Za)(s:SlS Zf 5 xs)(T:TypeId)[hd:OwnS T s L L1](hl:xs.length<=12)(hok:∀u∈xs,ExOk u)(hw:Own w0 L w):
  Calls prog 258 [vSl s,vFn 207].toArray w (RetX w0 (SrtSEx xs s) (fun _=> .tuple #[]) (fun s'=>mS T s'.1++L1)):=by
 refine ZY Tryz.func258 rfl Tryz.ntmps258 rfl hw ?_
 repeat(first|(refine wkB ?_;intros)|(refine wnM ?_ ?_;(focus(omega));intros))
 refine sZ rfl rfl ?_ ?_
 ·exact⟨hl,hok⟩
 intro s'
 repeat(refine wkB ?_;intros)
 exact Zaj rfl (fun w hw=>⟨s',rfl,hw⟩)
instance ZAx (w0:World)(L L1:List Blk)(xs:List Za)(s:SlS Zf 5 xs)(T:TypeId)[hd:OwnS T s L L1]:SpecX prog w0 L 258 [vSl s,vFn 207] (SrtSEx xs s) (fun _=> .tuple #[]) (fun s'=>mS T s'.1++L1) (xs.length<=12/\∀u∈xs,ExOk u):=⟨fun hp w hw=>ZlV w0 w L L1 xs s T hp.1 hp.2 hw⟩
end
section
class LstN (w0:World)(L:List Blk)(v:Value)(α:outParam Type)(enc:outParam (α->Array Value))(xs:outParam (List α)):Prop where
 out:∀w,Own w0 L w->ArgS w v enc xs
 nil:xs=[]->v= .slice none 0 0
instance lstNOwn {α:Type}{enc:α->Array Value}{k:Nat}{xs:List α}[he:EncC enc k](w0:World)(L L1:List Blk)(T:TypeId)(s:SlS enc k xs)[h:OwnS T s L L1]:LstN w0 L (vSl s) α enc xs:=⟨(lstOwn w0 L L1 T s).out,fun h0=>by
 rcases s.cases T with⟨-,hv, -⟩|⟨b,c,sp,h1,hv,hm,hne⟩
 ·exact hv
 ·exact absurd h0 hne⟩
instance ZCO :BsC prog 157 0 [] (row rU [] []) 224:=⟨fun w=>by kernel_rfl⟩
theorem ZoB (v:Value)(us:List UL)(w:World)(hv:ArgS w v rU us)(hn:us=[]->v= .slice none 0 0)(hl:us.length<=1048576):
  Calls prog 223 [v].toArray w (RetM (SlS rU 36 us) (fun s=>vSl s) (fun s=>mS 224 s) w):=by
 by_cases h0:us=[]
 ·obtain rfl:=hn h0
  subst h0
  refine Zg Tryz.func223 rfl Tryz.ntmps223 rfl ?_
  repeat(refine wkB ?_;intros)
  exact Zy rfl rfl (fun w hw=>⟨SlS.no,rfl,hw⟩)
 ·obtain⟨bw,ow,cw,rfl,hcw,hrow⟩:=hv.blk (k:=35) h0 []
  have hrow':∀L,RowC w L bw ow UL rU us:=fun L=>⟨fun w' hw'=>hrow.out w' (hw'.sub (Wk _))⟩
  refine Zg Tryz.func223 rfl Tryz.ntmps223 rfl ?_
  repeat(refine wkB ?_;intros)
  refine sG rfl rfl ?_ h0 ?_ ?_ ?_ ?_ ?_
  ·rfl
  ·rfl
  ·rfl
  ·decide
  ·exact⟨by omega,by omega⟩
  intro s'
  repeat(refine wkB ?_;intros)
  exact Zy rfl rfl (fun w hw=>⟨s',rfl,hw.sub suB⟩)
instance ZDY (w0:World)(L:List Blk)(v:Value)(us:List UL)[h:LstN w0 L v UL rU us]:SpecR prog w0 L 223 [v] (SlS rU 36 us) (fun s=>vSl s) (fun s=>mS 224 s) (us.length<=1048576):=⟨fun hl w hw=>ZoB v us w (h.out w hw) h.nil hl⟩
instance Ztb :CallC prog 224:=⟨by kernel_rfl⟩
def sor (us:List UL):List UL:=srt us (us.length-1)
theorem ZlW (v:Value)(us:List UL)(w:World)(hv:ArgS w v rU us)(hn:us=[]->v= .slice none 0 0)(hl:us.length<=19)(hok:∀u∈us,IvOk BQ u.In):
  Calls prog 174 [v].toArray w (RetM (SlS rU 36 (sor us)) (fun s=>vSl s) (fun s=>mS 224 s) w):=by
 have:∀L,LstN w L v UL rU us:=fun L=>⟨fun w' hw'=>hv.to hw'.ext,hn⟩
 refine Zg Tryz.func174 rfl Tryz.ntmps174 rfl ?_
 repeat(first|(refine wkB ?_;intros)|(refine wnM ?_ ?_;(focus(omega));intros))
 rename_i s
 refine sZ rfl rfl ?_ ?_
 ·exact⟨hl,hok⟩
 intro s'
 repeat(refine wkB ?_;intros)
 exact Zy rfl rfl (fun w hw=>⟨s'.1,by show Ending.returned (vSl s)=Ending.returned (vSl s'.1);rw[s'.2],hw.sub suB⟩)
instance ZBH (w0:World)(L:List Blk)(v:Value)(us:List UL)[h:LstN w0 L v UL rU us]:SpecR prog w0 L 174 [v] (SlS rU 36 (sor us)) (fun s=>vSl s) (fun s=>mS 224 s) (us.length<=19/\∀u∈us,IvOk BQ u.In):=⟨fun hp w hw=>ZlW v us w (h.out w hw) h.nil hp.1 hp.2⟩
end
section
section
variable {P : Program} {α : Type} {enc : α -> Array Value} {k : Nat} {xs ys : List α}
instance ldVS {T e:TypeId}{s:SlS enc k xs}[h:UndC P T (.slice e)]:LdC P T #[vSl s] 0 (vSl s):=⟨ZC (by simp[oneB,h.out]) rfl⟩
theorem Zeo (s:SlS enc k xs):(vSl s).cells=#[vSl s]:=by
 rcases s.cases 0 with⟨-,hv, -⟩|⟨b,c,sp, -,hv, -, -⟩ <;> rw[hv] <;> rfl
theorem ZtI (s:SlS enc k xs):(vSl s).oneCell'=true:=by
 rcases s.cases 0 with⟨-,hv, -⟩|⟨b,c,sp, -,hv, -, -⟩ <;> rw[hv] <;> rfl
instance stVS {T:TypeId}{v:Value}{s:SlS enc k xs}[h:SizeC P T 1]:StC P T #[v] 0 (vSl s) #[vSl s]:=⟨by rw[Zeo];exact h.out,by rw[Zeo];rfl,by rw[Zeo];simp[ZtI],by rw[Zeo];rfl⟩
end
theorem ZhR {P:Program}{w0:World}{n:Nat}{c:Code}{Q:Exit->Act->World->Prop}{E:Env}{L:List Blk}(L':List Blk)(p:L.Perm L')(h:J P w0 n c Q E L'):J P w0 n c Q E L:=⟨fun a w ha hw=>h.out a w ha (hw.perm p)⟩
def at1 (t:Zp)(f:ZG):UL:=⟨⟨t,t,false,false⟩,f⟩
theorem ZnJ (w0 w:World)(L2:List Blk)(b:Nat)(xs:List UL)(s:SlS rU 36 xs)(t:Zp)(f:ZG)(hl:xs.length<=1048576)(hw:Own w0 (mS 224 s++⟨b,#[vSl s],157⟩::L2) w):
  Calls prog 227 [vR t,vLn f, .pointer (some ⟨b,0,none⟩)].toArray w (RetX w0 (SlS rU 36 (xs++[at1 t f])) (fun _=> .tuple #[]) (fun s'=>mS 224 s'++⟨b,#[vSl s'],157⟩::L2)):=by
 refine ZY Tryz.func227 rfl Tryz.ntmps227 rfl hw ?_
 repeat(refine wkB ?_;intros)
 refine sU rfl rfl ?_ ?_ ?_ ?_
 ·rfl
 ·rfl
 ·exact⟨by decide,by omega,by omega⟩
 intro s'
 repeat(refine wkB ?_;intros)
 exact Zaj rfl (fun w hw=>⟨s',rfl,hw.sub suB⟩)
instance ZC7 (w0:World)(L L1 L2:List Blk)(b:Nat){xs:List UL}(s:SlS rU 36 xs)(t:Zp)(f:ZG)[h1:DelC b L #[vSl s] 157 L1][h2:OwnS 224 s L1 L2]:SpecX prog w0 L 227 [vR t,vLn f, .pointer (some ⟨b,0,none⟩)] (SlS rU 36 (xs++[at1 t f])) (fun _=> .tuple #[]) (fun s'=>mS 224 s'++⟨b,#[vSl s'],157⟩::L2) (xs.length<=1048576):=⟨fun hl w hw=>
 ZnJ w0 w L2 b xs s t f hl (hw.perm ((h1.out.trans (h2.out.cons _)).trans List.perm_middle.symm))⟩
def inn1 (u:UL):UL:=⟨⟨u.In.From,u.In.To,true,true⟩,u.F⟩
def atU (u:UL):List UL:=(if u.In.OpenFrom=true then [] else [at1 u.In.From u.F])++(if u.In.From=u.In.To then [] else inn1 u::if u.In.OpenTo=true then [] else [at1 u.In.To u.F])
def atm (us:List UL):Nat->List UL
 |0=>[]
 |m+1=>atm us m++atU (gi us (m:Int))
theorem Zum (u:UL):(atU u).length<=3:=by
 unfold atU
 split <;> split <;> (try split) <;> simp
theorem Zgx (us:List UL):∀m,(atm us m).length<=3*m
 |0=>Wl _
 |m+1=>by
  have:=Zgx us m
  have:=Zum (gi us (m:Int))
  rw[atm,Wp]
  omega
theorem Zoh (v:Value)(us:List UL)(w:World)(hv:ArgS w v rU us)(hl:us.length<=65536):
  Calls prog 176 [v].toArray w (RetM (SlS rU 36 (atm us us.length)) (fun s=>vSl s) (fun s=>mS 224 s) w):=by
 refine Zg Tryz.func176 rfl Tryz.ntmps176 rfl ?_
 obtain⟨p,cp,rfl⟩:=hv.form
 repeat(refine wkB ?_;intros)
 rename_i b3
 refine Zm (S:=(xs:List UL)×Nat×SlS rU 36 xs) (fun s=>s.2.1<=us.length/\s.1=atm us s.2.1) (fun s=>[(3, .pointer (some ⟨b3,0,none⟩)),(4, .func (.func 227) #[] [.pointer (some ⟨b3,0,none⟩)].toArray),(8, .slice p us.length cp),(9, .int .i64 us.length),(10, .int .i64 (s.2.1:Nat))]) (fun s=>mS 224 s.2.2++[⟨b3,#[vSl s.2.2],157⟩]) (fun s=>us.length-s.2.1) ⟨[],0,SlS.no⟩
  ⟨Wm _,rfl⟩ sbB slB (fun s hs=>?_)
 obtain⟨xs,m,s⟩:=s
 obtain⟨hm,hxs⟩:=hs
 simp only at hm hxs⊢
 repeat(refine wkB ?_;intros)
 refine Zl rfl (fun h=>?_) (fun h=>?_)
 ·have hlt:m<us.length:=by have:=Wa h;omega
  have hne:us≠[]:=fun h0=>by rw[h0] at hlt;simp at hlt
  obtain⟨bw,ow,cw,hvw,hcw,hrow⟩:=hv.blk (k:=35) hne []
  injection hvw with e1 e2 e3
  subst e1
  subst e3
  have hrow':∀L,RowC w L bw ow UL rU us:=fun L=>⟨fun w' hw'=>hrow.out w' (hw'.sub (Wk _))⟩
  have hxl:=Zgx us m
  rw[<-hxs] at hxl
  obtain⟨u,hu⟩:∃u,u=gi us (m:Int):=⟨_,rfl⟩
  have hnx:atm us (m+1)=xs++atU u:=by rw[atm,hxs,hu]
  repeat(refine wkB ?_;intros)
  simp only[<-hu]
  rename_i b6
  refine ZhR (mS 224 s++[⟨b3,#[vSl s],157⟩,⟨b6,rU u,224⟩]) (by
   have h1:=(List.perm_append_singleton (⟨b6,rU u,224⟩:Blk) (mS 224 s++[⟨b3,#[vSl s],157⟩])).symm
   rw[List.append_assoc] at h1
   exact h1) ?_
  refine Zav (S:=(ys:List UL)×SlS rU 36 ys) (fun s'=>s'.1=xs++(if u.In.OpenFrom=true then [] else [at1 u.In.From u.F])) (fun s'=>[(6, .pointer (some ⟨b6,0,none⟩)),(3, .pointer (some ⟨b3,0,none⟩)),(4, .func (.func 227) #[] [.pointer (some ⟨b3,0,none⟩)].toArray),(8, .slice (some ⟨bw,ow,none⟩) us.length cp),(9, .int .i64 us.length),(10, .int .i64 (m:Nat))])
   (fun s'=>mS 224 s'.2++[⟨b3,#[vSl s'.2],157⟩,⟨b6,rU u,224⟩]) ?_ (fun s' hs'=>?_)
  ·rcases ho:u.In.OpenFrom with _|_
   ·repeat(refine wkB ?_;intros)
    refine sY rfl rfl ?_ ?_
    ·omega
    intro s'
    repeat(refine wkB ?_;intros)
    exact Zt ⟨_,s'⟩ rfl sbB suB
   ·repeat(refine wkB ?_;intros)
    exact Zt ⟨_,s⟩ (by rw[if_pos rfl,Wh]) sbB suB
  obtain⟨ys,s'⟩:=s'
  simp only at hs'⊢
  have hyl:ys.length<=3*m+1:=by rw[hs',Wp];split <;> simp <;> omega
  repeat(refine wkB ?_;intros)
  by_cases hi:u.In.From=u.In.To
  ·simp only[Wc hi]
   repeat(first|(refine wkB ?_;intros)|(refine wnM ?_ ?_;(focus(exact⟨by omega,by omega⟩));intros))
   exact Zh ⟨ys,m+1,s'⟩ ⟨hlt,by rw[hnx,atU,if_pos hi,Wh];exact hs'⟩ sbB suB (by show us.length-(m+1)<us.length-m;omega)
  ·simp only[We hi]
   repeat(refine wkB ?_;intros)
   refine sU rfl rfl ?_ ?_ ?_ ?_
   ·rfl
   ·rfl
   ·exact⟨by decide,by omega,by omega⟩
   intro s2
   repeat(refine wkB ?_;intros)
   rcases hc:u.In.OpenTo with _|_
   ·have e3:ys++[inn1 u]++[at1 u.In.To u.F]=atm us (m+1):=by
     rw[hnx,hs']
     unfold atU
     rw[if_neg hi,hc]
     simp
    repeat(refine wkB ?_;intros)
    refine sY rfl rfl ?_ ?_
    ·simp only[Wp,List.length_singleton];omega
    intro s3
    repeat(first|(refine wkB ?_;intros)|(refine wnM ?_ ?_;(focus(exact⟨by omega,by omega⟩));intros))
    exact Zh ⟨_,m+1,s3⟩ ⟨hlt,e3⟩ sbB suB (by show us.length-(m+1)<us.length-m;omega)
   ·have e3:ys++[inn1 u]=atm us (m+1):=by
     rw[hnx,hs']
     unfold atU
     rw[if_neg hi,hc]
     simp
    repeat(first|(refine wkB ?_;intros)|(refine wnM ?_ ?_;(focus(exact⟨by omega,by omega⟩));intros))
    exact Zh ⟨_,m+1,s2⟩ ⟨hlt,e3⟩ sbB suB (by show us.length-(m+1)<us.length-m;omega)
 ·have hge:m=us.length:=by have:=Wb h;omega
  subst hge
  subst hxs
  repeat(refine wkB ?_;intros)
  exact Zy rfl rfl (fun w hw=>⟨s,rfl,hw.sub suB⟩)
instance ZFL (w0:World)(L:List Blk)(v:Value)(us:List UL)[h:LstC w0 L v UL rU us]:SpecR prog w0 L 176 [v] (SlS rU 36 (atm us us.length)) (fun s=>vSl s) (fun s=>mS 224 s) (us.length<=65536):=⟨fun hl w hw=>Zoh v us w (h.out w hw) hl⟩
end
section
abbrev lstU (xs:List UL):UL:=gi xs ((xs.length:Int)-1)
def hld (xs:List UL)(t:Zp):Bool:=decide (0<xs.length)&&(decide ((lstU xs).In.To=t)&& !(lstU xs).In.OpenTo)
theorem ZoQ (v:Value)(xs:List UL)(t:Zp)(w:World)(hv:ArgS w v rU xs)(hl:xs.length<=1048576):
  Calls prog 178 [v,vR t].toArray w (Ret (.bool (hld xs t)) w):=by
 refine Zg Tryz.func178 rfl Tryz.ntmps178 rfl ?_
 obtain⟨p,cp,rfl⟩:=hv.form
 repeat(refine wkB ?_;intros)
 by_cases h0:0<xs.length
 ·have hne:xs≠[]:=fun h=>by rw[h] at h0;simp at h0
  obtain⟨bw,ow,cw,hvw,hcw,hrow⟩:=hv.blk (k:=35) hne []
  injection hvw with e1 e2 e3
  subst e1
  subst e3
  have hrow':∀L,RowC w L bw ow UL rU xs:=fun L=>⟨fun w' hw'=>hrow.out w' (hw'.sub (Wk _))⟩
  (refine Za9 [0,1,2,3,4,5,6,7,8,9,10,11,12,13,14,15,16,17,18,19,20,21,22] [23] (_) (h:=?_);refine wkI ?_)
  (repeat(refine wkH ?_))
  simp only[Wc (show(0:Int)<(xs.length:Int) by omega)]
  (repeat(refine wkH ?_))
  rcases h1:decide ((lstU xs).In.To=t) with _|_
  ·repeat(refine wkT ?_;intros)
   repeat(refine wkB ?_;intros)
   unfold hld
   rw[h1,Wc h0]
   exact rtT rfl rfl
  ·repeat(refine wkT ?_;intros)
   repeat(refine wkB ?_;intros)
   unfold hld
   rw[h1,Wc h0]
   exact rtT rfl rfl
 ·(refine Za9 [0,1,2,3,4,5,6,7,8,9,10,11,12,13,14,15,16,17,18,19,20,21,22] [23] (_) (h:=?_);refine wkI ?_)
  (repeat(refine wkH ?_))
  simp only[We (show¬(0:Int)<(xs.length:Int) by omega)]
  (repeat(refine wkH ?_))
  repeat(refine wkT ?_;intros)
  repeat(refine wkB ?_;intros)
  unfold hld
  rw[We h0]
  exact rtT rfl rfl
instance ZIq (w0:World)(L:List Blk)(v:Value)(xs:List UL)(t:Zp)[h:LstC w0 L v UL rU xs]:SpecM prog w0 L 178 [v,vR t] (.bool (hld xs t)) (xs.length<=1048576):=⟨fun hl w hw=>ZoQ v xs t w (h.out w hw) hl⟩
abbrev vLines :Value:= .iface 211 (.agg #[])
instance ZBB :MethC prog 211 (.agg #[]) "Same" 419 (.agg #[]):=⟨fun w=>by kernel_rfl⟩
instance Zze :MethC prog 211 (.agg #[]) "Equal" 417 (.agg #[]):=⟨fun w=>by kernel_rfl⟩
instance Zxa :MethC prog 211 (.agg #[]) "Reduce" 418 (.agg #[]):=⟨fun w=>by kernel_rfl⟩
instance ZDW :NahC prog 211 (.agg #[]) "Same" :=⟨fun w=>by kernel_rfl⟩
instance ZAM :NahC prog 211 (.agg #[]) "Equal" :=⟨fun w=>by kernel_rfl⟩
instance ZAt :NifC prog 211:=⟨fun v w=>by kernel_rfl⟩
instance ZEd :PtrC prog 280:=⟨by kernel_rfl⟩
end
end Go.Vt
