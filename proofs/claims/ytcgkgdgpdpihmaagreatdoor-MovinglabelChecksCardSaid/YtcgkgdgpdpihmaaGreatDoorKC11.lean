/- For any up to 12 units whose ends have up to 20 bytes, and for any decoded moving label (up to 8 stretches), Check returns OK or the first error. Conditions: none. (part 11 of 28.) Conditions: those that each statement names. -/
import Derived.Test.YtcgkgdgpdpihmaaGreatDoorProg
import Derived.Maps.RangeRun
import Derived.Test.YtcgkgdgpdpihmaaGreatDoorKC4
import Derived.Test.YtcgkgdgpdpihmaaGreatDoorKC9
import Derived.Test.YtcgkgdgpdpihmaaGreatDoorKC10
set_option linter.unusedSimpArgs false
set_option linter.unusedVariables false
set_option maxHeartbeats 2000000
set_option maxRecDepth 100000
set_option linter.unusedSectionVars false
namespace Go.Vt
open Go.RowKit
section
variable {P : Program} {w0 : World} {n : Nat} {ops : Array Oper} {L : List Blk} {E : Env} {Q Q' : Exit -> Act -> World -> Prop}
theorem Zd8 (hq:∀e a w,Q e a w->Q' e a w)(h:LetsOut Q):LetsOut Q':=by
 obtain⟨a,w,h⟩:=h
 exact⟨a,w,hq _ _ _ h⟩
theorem ZkJ {o:Oper}{a:Act}{w:World}{K K':Act->World->Prop}(hk:∀a w,K a w->K' a w)(hq:∀e a w,Q e a w->Q' e a w)(hh:o.wp P a w K Q):o.wp P a w K' Q':=by
 unfold Oper.wp at*
 generalize (execOp a.eval o).run P w=r at*
 cases r with
 |ok x w'=>
  cases x <;> simp only[Oper.upon] at hh⊢
  case value v=>exact hk _ _ hh
  case skip=>exact hk _ _ hh
  case defer d=>exact hk _ _ hh
  case enter f args=>
   refine Calls.mono hh fun e w'' he=>?_
   cases e with
   |returned v=>exact hk _ _ he
   |panicked c=>exact hq _ _ _ he
   |outgrown=>exact Zd8 hq he
  case row r args=>exact Rows.mono hh fun _ _ he=>hk _ _ he
 |halt x w'=>
  cases x <;> simp only[Oper.upon] at hh⊢
  case panic v=>exact hq _ _ _ hh
theorem ZaW (hq:∀e a w,Q e a w->Q' e a w):∀(l:List Oper)(a:Act)(w:World),wpList P ops Q l a w->wpList P ops Q' l a w
 |[],a,w,h=>hq _ _ _ h
 |o::l,a,w,h=>by
  unfold wpList at*
  split
  ·rename_i hw
   rw[if_pos hw] at h
   rcases h with h|h
   ·exact .inl (ZkJ (ZaW hq l) hq h)
   ·exact .inr ⟨h.1,Zd8 hq h.2⟩
  ·rename_i hw
   rw[if_neg hw] at h
   exact ZaW hq l _ _ h
theorem Zdz {S:Type}(I:S->Prop)(Es:S->Env)(Ls:S->List Blk){l:List Oper}{y:Code}(h1:JO P w0 n ops (MidQ w0 n I Es Ls (fun _ _=>True) Q) l E L)(h2:∀s,I s->J P w0 n y Q (Es s) (Ls s)):JO P w0 n ops (Then P y Q) l E L:=⟨fun a w ha hw=>by
 refine ZaW (fun e a' w' hq=>?_) l a w (h1.out a w ha hw)
 cases e with
 |normal=>obtain⟨⟨s,hs,hr,ho⟩,_⟩:=hq;exact(h2 s hs).out a' w' hr ho
 |_=>exact hq⟩
theorem ZU {id:Nat}(hq:∀e a w,Q e a w->Q' e a w):∀e a w,Exit.inBlock id Q e a w->Exit.inBlock id Q' e a w:=fun e a w h=>by
 cases e with
 |exit j=>
  simp only[Exit.inBlock] at h⊢
  split
  ·rename_i hj
   rw[if_pos hj] at h
   exact hq _ _ _ h
  ·rename_i hj
   rw[if_neg hj] at h
   exact hq _ _ _ h
 |_=>exact hq _ _ _ h
theorem ZO {S:Type}{I:S->Prop}{Es:S->Env}{Ls:S->List Blk}{y:Code}(h2:∀s,I s->J P w0 n y Q (Es s) (Ls s)):∀e a w,MidQ w0 n I Es Ls (fun _ _=>True) Q e a w->Then P y Q e a w:=fun e a w hq=>by
 cases e with
 |normal=>obtain⟨⟨s,hs,hr,ho⟩,_⟩:=hq;exact(h2 s hs).out a w hr ho
 |_=>exact hq
theorem Zad {S:Type}{id:Nat}(I:S->Prop)(Es:S->Env)(Ls:S->List Blk){x y:Code}(h1:J P w0 n x (Exit.inBlock id (MidQ w0 n I Es Ls (fun _ _=>True) Q)) E L)(h2:∀s,I s->J P w0 n y Q (Es s) (Ls s)):J P w0 n x (Exit.inBlock id (Then P y Q)) E L:=⟨fun a w ha hw=>wp_mono (h1.out a w ha hw) (ZU (ZO h2))⟩
end
end Go.Vt
namespace Go.Vt
open Go.RowKit Go.Proofs
open Go.Proofs.Tryz (prog)
section
theorem SlS.like {α:Type}{enc:α->Array Value}{k:Nat}{xs ys:List α}(s:SlS enc k xs)(h:ys=xs):∃s':SlS enc k ys,vSl s'=vSl s/\∀T,mS T s'=mS T s:=by
 subst h
 exact⟨s,rfl,fun _=>rfl⟩
theorem ZeI {P:Program}{S T ty:TypeId}{i:TypeInfo}{p:Option Addr}{n c:Nat}{w:World}(ht:P.underlying S=some (.slice T))(hi:P.info? T=some i)(h:(p=none/\n=0/\c=0)\/(∃b,p=some ⟨b,0,none⟩/\n<=c)):
  (Builtin.append_ #[S,S] ty #[.slice p n c, .slice none 0 0]).run P w= .ok (.slice p n c) w:=by
 rcases h with⟨rfl,rfl,rfl⟩|⟨b,rfl,hnc⟩
 ·simp[Builtin.append_,run_underlying ht,sizeOf,typeInfo,hi,Builtin.lenOf,Builtin.firstCells]
 ·simp[Builtin.append_,run_underlying ht,sizeOf,typeInfo,hi,Builtin.lenOf,Builtin.firstCells,hnc,storeCells]
end
section
theorem Zee {P:Program}{S T ty:TypeId}{i:TypeInfo}{p:Option Addr}{n c:Nat}{a:Addr}{c2:Nat}{w:World}(ht:P.underlying S=some (.slice T))(hi:P.info? T=some i)(h:(p=none/\n=0/\c=0)\/(∃b,p=some ⟨b,0,none⟩/\n<=c)):
  (Builtin.append_ #[S,S] ty #[.slice p n c, .slice (some a) 0 c2]).run P w= .ok (.slice p n c) w:=by
 rcases h with⟨rfl,rfl,rfl⟩|⟨b,rfl,hnc⟩
 ·simp[Builtin.append_,run_underlying ht,sizeOf,typeInfo,hi,Builtin.lenOf,Builtin.firstCells,loadCells,loadCellsFrom,storeCells,Result.andThen]
 ·simp[Builtin.append_,run_underlying ht,sizeOf,typeInfo,hi,Builtin.lenOf,Builtin.firstCells,hnc,storeCells,loadCells,loadCellsFrom,Result.andThen]
end
end Go.Vt
namespace Go.Vt
open Go.RowKit
section
variable {P : Program} {w0 : World} {n : Nat} {ops : Array Oper} {L L' Lw : List Blk} {E : Env}
variable {Q : Exit -> Act -> World -> Prop} {v : Value}
inductive Tq where
 |fin
 |v (hs:List Nat) (t:Tq)
 |no
 |br (i:Nat) (t:Tq) (u:Tq)
def Tq.alts :Tq->List Nat
 | .br i _ u=>i::u.alts
 |_=>[]
def Tq.ch :Tq->Bool
 | .no=>true
 | .br _ _ _=>true
 |_=>false
def tqB (ops:Array Oper):Tq->List Nat->Array Bool->Bool
 | .fin,pre,listed=>pre.isEmpty&&(Region.ready .any ops listed).isEmpty
 | .v hs t,pre,listed=>pre.isEmpty&&lexF ops (tqB ops t []) hs listed
 | .no,pre,listed=> !pre.isEmpty&&decide (Region.ready .any ops listed=pre)
 | .br i t u,pre,listed=>tqB ops t [] (listed.setIfInBounds i true)&&tqB ops u (pre++[i]) listed
def tqC (k:Nat):Tq->Nat->Bool
 | .fin,N=>decide (N=0)
 | .v hs t,N=>decide (hs.length<=N)&&tqC k t (N-hs.length)
 | .no,_=>true
 | .br i t u,N=>decide (i<k)&&(decide (0<N)&&(tqC k t (N-1)&&tqC k u N))
def tqA (ops:Array Oper)(t:Tq):Bool:=Region.noSelect ops&&(tqC ops.size t ops.size&&tqB ops t [] (Array.replicate ops.size false))
def AQ (P:Program)(w0:World)(l:List Oper)(Lw:List Blk)(F:List Blk->Act->Prop):Tq->List Blk->Act->Prop
 | .fin,L,a=>F L a
 | .v hs t,L,a=>AH P w0 Lw l.toArray (fun a1=>AQ P w0 l Lw F t L a1) (picks l hs) a
 | .no,_,_=>True
 | .br i t u,L,a=>EC P w0 l.toArray [] Lw (fun L1 a1=>AQ P w0 l Lw F t L1 a1) [i] L a/\AQ P w0 l Lw F u L a
def JQ (P:Program)(w0:World)(n:Nat)(l:List Oper)(Lw:List Blk)(K:Env->List Blk->Prop):Tq->Env->List Blk->Prop
 | .fin,E,L=>K E L
 | .v hs t,E,L=>JH P w0 n Lw l.toArray (fun E1=>JQ P w0 n l Lw K t E1 L) (picks l hs) E
 | .no,_,_=>True
 | .br i t u,E,L=>JE P w0 n l.toArray Lw (fun E1 L1=>JQ P w0 n l Lw K t E1 L1) (picks l [i]) E L/\JQ P w0 n l Lw K u E L
theorem ZdI {l:List Oper}{K:Env->List Blk->Prop}{F:List Blk->Act->Prop}(hK:∀E L a,Rep n E a->K E L->F L a):∀(t:Tq)(N:Nat)(E:Env)(L:List Blk)(a:Act),tqC l.length t N=true->Rep n E a->JQ P w0 n l Lw K t E L->AQ P w0 l Lw F t L a
 | .fin,_,E,L,a,_,ha,h=>hK E L a ha h
 | .no,_,E,L,a,_,ha,h=>trivial
 | .v hs t,N,E,L,a,hc,ha,h=>by
  simp only[tqC,Wq,decide_eq_true_eq] at hc
  exact Zbo (n:=n) (fun E1 a1 ha1 h1=>ZdI hK t _ E1 L a1 hc.2 ha1 h1) _ _ _ ha h
 | .br i t u,N,E,L,a,hc,ha,h=>by
  simp only[tqC,Wq,decide_eq_true_eq] at hc
  exact⟨ZaL (n:=n) (Lj:=Lw) (fun E1 L1 a1 ha1 h1=>ZdI hK t _ E1 L1 a1 hc.2.2.1 ha1 h1) [i] E L a (by simpa using hc.1) (fun _ _=>rfl) ha h.1,ZdI hK u _ E L a hc.2.2.2 ha h.2⟩
def StQ (P:Program)(w0:World)(l:List Oper)(Lw:List Blk)(F:List Blk->Act->Prop)(N:Nat)(listed:Array Bool)(L:List Blk)(a:Act)(q:Nat):Prop:=
 ∃o,l.toArray[q]? =some o/\q<l.length/\Eff P w0 Lw l.toArray L o a fun L' u=>wpK P w0 l.toArray (List.range l.length) Lw F N (listed.setIfInBounds q true) [] L' (a.put o.dst u)
theorem ZcZ {l:List Oper}{F:List Blk->Act->Prop}(hsel:Region.noSelect l.toArray=true):∀(t:Tq),
  (∀(N:Nat)(listed:Array Bool)(L:List Blk)(a:Act),tqC l.length t N=true->tqB l.toArray t [] listed=true->Weak w0 Lw L->AQ P w0 l Lw F t L a->wpK P w0 l.toArray (List.range l.length) Lw F N listed [] L a)/\
  (∀(N:Nat)(pre:List Nat)(listed:Array Bool)(L:List Blk)(a:Act),t.ch=true->tqC l.length t (N+1)=true->tqB l.toArray t pre listed=true->Weak w0 Lw L->AQ P w0 l Lw F t L a->Region.ready .any l.toArray listed=pre++t.alts/\∀q∈t.alts,StQ P w0 l Lw F N listed L a q)
 | .fin=>⟨fun N listed L a hc hB hw h=>by
   simp only[tqC,decide_eq_true_eq] at hc
   subst hc
   exact⟨rfl,by simpa [tqB] using hB,h⟩,fun _ _ _ _ _ hch=>by cases hch⟩
 | .no=>⟨fun N listed L a hc hB hw h=>by simp[tqB] at hB,fun N pre listed L a _ _ hB _ _=>by
   simp only[tqB,Wq,decide_eq_true_eq] at hB
   exact⟨by rw[hB.2];simp[Tq.alts],fun q hq=>by cases hq⟩⟩
 | .v hs t=>⟨fun N listed L a hc hB hw h=>by
   simp only[tqC,Wq,decide_eq_true_eq] at hc
   simp only[tqB,Wq] at hB
   have:=Zct (k:=tqB l.toArray t []) (G:=fun a1=>AQ P w0 l Lw F t L a1) (N:=N-hs.length) (es:=[]) (As:=List.range l.length) (F:=F) (fun listed a1 hb hG=>(ZcZ hsel t).1 _ listed L a1 hc.2 hb hw hG) hsel hw hs listed a hB.2 h
   rw[show hs.length+(N-hs.length)=N by omega] at this
   exact this,fun _ _ _ _ _ hch=>by cases hch⟩
 | .br i t u=>by
  have chain:∀(N:Nat)(pre:List Nat)(listed:Array Bool)(L:List Blk)(a:Act),tqC l.length (.br i t u) (N+1)=true->tqB l.toArray (.br i t u) pre listed=true->Weak w0 Lw L->AQ P w0 l Lw F (.br i t u) L a->Region.ready .any l.toArray listed=pre++(Tq.br i t u).alts/\∀q∈(Tq.br i t u).alts,StQ P w0 l Lw F N listed L a q:=fun N pre listed L a hc hB hw h=>by
   simp only[tqC,Wq,decide_eq_true_eq,Nat.add_sub_cancel] at hc
   simp only[tqB,Wq] at hB
   have hch:u.ch=true:=by
    have:=hB.2
    cases u <;> simp[tqB,Tq.ch] at this⊢
   obtain⟨k1,k2⟩:=(ZcZ hsel u).2 N (pre++[i]) listed L a hch hc.2.2.2 hB.2 hw h.2
   refine⟨by rw[k1];simp[Tq.alts],fun q hq=>?_⟩
   rcases List.mem_cons.1 hq with h1|h1
   ·subst h1
    obtain⟨o,ho,hE⟩:=h.1
    exact⟨o,ho,hc.1,Eff.mono hE fun L' u' hw' hK=>(ZcZ hsel t).1 _ _ _ _ hc.2.2.1 hB.1 hw' hK⟩
   ·exact k2 q h1
  refine⟨fun N listed L a hc hB hw h=>?_,fun N pre listed L a _ hc hB hw h=>chain N pre listed L a hc hB hw h⟩
  cases N with
  |zero=>simp[tqC] at hc
  |succ N=>
   obtain⟨k1,k2⟩:=chain N [] listed L a hc hB hw h
   rw[Wg] at k1
   refine⟨by rw[k1];simp[Tq.alts],fun q hq=>?_⟩
   rw[k1] at hq
   obtain⟨o,ho,hl,hE⟩:=k2 q hq
   exact⟨o,ho, .inr ⟨[], .inr ⟨by simpa using hl,rfl⟩,hE⟩⟩
theorem Zkp {id:Nat}{l:List Oper}(t:Tq)(Lw:List Blk)(hm:P.follows .mixedOrders=true:=by exact mixed)(hB:tqA l.toArray t=true:=by kernel_rfl)(hL:Lw.Sublist L:=by first|exact Wj _|exact Wk _|exact sbl|(repeat(first|exact Wj _|exact Wk _|refine List.Sublist.cons_cons _ ?_|refine List.Sublist.cons _ ?_|refine List.Sublist.trans ?_ (List.sublist_append_right _ _))))
  (h:JQ P w0 n l Lw (fun E2 L2=>JX w0 n .normal Q E2 L2) t E L):J P w0 n (.region id l.toArray true) Q E L:=by
 refine⟨fun a w ha hw=>?_⟩
 simp only[tqA,Wq] at hB
 obtain⟨hsel,hc,hlex⟩:=hB
 refine wp_region_any hm ?_
 have hc':tqC l.length t l.toArray.size=true:=by simpa using hc
 have H:=(ZcZ (P:=P) (F:=fun L a=>∀w,Own w0 L w->Q .normal a w) hsel t).1 _ _ L a hc' hlex (Z8 hL) (ZdI (n:=n) (fun E2 L2 a2 ha2 hx w hw=>hx.out a2 w ha2 hw) t _ E L a hc' ha h)
 exact ZaY (P:=P) (Q:=Q) (fun L a w hF hw=>hF w hw) _ _ _ _ _ w.drew (hw.to (Ext.drew w)) H
end
class SbpC (A L:List Blk):Prop where
 out:∃L',L.Perm (A++L')
instance sbpNil (L:List Blk):SbpC [] L:=⟨L, .refl _⟩
instance sbpCons (b:Nat)(cs:Array Value)(T:TypeId)(A L L1:List Blk)[h:DelC b L cs T L1][k:SbpC A L1]:SbpC (⟨b,cs,T⟩::A) L:=⟨by
 obtain⟨L',hp⟩:=k.out
 exact⟨L',h.out.trans (hp.cons _)⟩⟩
theorem Zbg {w0:World}{n:Nat}{Q:Exit->Act->World->Prop}{E:Env}{L:List Blk}{S:Type}{I:S->Prop}{Es:S->Env}{Ls:S->List Blk}(s:S)(hs:I s)(hE:Sub E (Es s))(hL:SbpC (Ls s) L):JX w0 n .normal (MidQ w0 n I Es Ls (fun _ _=>True) Q) E L:=⟨fun a w ha hw=>by
 obtain⟨L',hp⟩:=hL.out
 exact(Zj (L:=Ls s++L') s hs hE (List.sublist_append_left _ _)).out a w ha (hw.perm hp)⟩
theorem wkQ {P Q:Prop}(k:Q)(h:Wr Q->P:=by intro hq;simp only[JQ,picks,List.getElem?_cons_succ,List.getElem?_cons_zero];exact hq.out):P:=h ⟨k⟩
end Go.Vt
namespace Go.Vt
open Go.RowKit Go.Proofs
open Go.Proofs.Tryz (prog)
section
structure FlS {α:Type}(enc:α->Array Value)(k:Nat)(xs:List α) where
 s:Option (Nat×Nat×List Value)
 nil:s=none->xs=[]
 ok:∀t,s=some t->xs.length<=t.2.1/\t.2.2.length=(t.2.1-xs.length)*k
section
variable {α : Type} {enc : α -> Array Value} {k : Nat} {xs : List α}
def vF (s:FlS enc k xs):Value:=vO xs.length s.s
def mF (T:TypeId)(s:FlS enc k xs):List Blk:=mO enc T xs s.s
theorem FlS.cases (T:TypeId)(s:FlS enc k xs):(xs=[]/\vF s= .slice none 0 0/\mF T s=[])\/∃b c sp,(xs.length<=c/\sp.length=(c-xs.length)*k)/\vF s= .slice (some ⟨b,0,none⟩) xs.length c/\mF T s=[⟨b,row enc xs sp,T⟩]:=by
 obtain⟨s,h1,h2⟩:=s
 cases s with
 |none=>
  have h0:=h1 rfl
  subst h0
  exact .inl ⟨rfl,rfl,rfl⟩
 |some t=>exact .inr ⟨t.1,t.2.1,t.2.2,h2 t rfl,rfl,rfl⟩
theorem SlS.fl {ys:List α}(s:SlS enc k xs)(h:xs=ys):∃s':FlS enc k ys,vF s'=vSl s/\∀T,mF T s'=mS T s:=by
 subst h
 exact⟨⟨s.s,s.nil.1,s.ok⟩,rfl,fun _=>rfl⟩
end
section
variable {P : Program} {w0 : World} {n : Nat} {ops : Array Oper} {L L1 : List Blk} {E : Env}
variable {Q : Exit -> Act -> World -> Prop} {rest : List Oper}
variable {ty : TypeId} {pos : String} {aft : Array Edge} {gd : Option (Nat × Bool)} {t : Tmp} {x y : Operand}
instance Zv0 {α:Type}{enc:α->Array Value}{k:Nat}{xs:List α}{S e:TypeId}{s:FlS enc k xs}[hx:IsC (evl E x) (vF s)][hu:UndC P S (.slice e)]:YlC P w0 n L E (.call ⟨.builtin .len,#[x],#[S]⟩) (.int .i64 xs.length):=⟨fun d ty pos aft gd=>by
 rcases s.cases 0 with⟨rfl,hv, -⟩|⟨b,c,sp,h1,hv, -⟩
 ·have:IsC (evl E x) (.slice none 0 0):=⟨by rw[hx.out,hv]⟩
  exact(Zc6 (P:=P) (w0:=w0) (n:=n) (L:=L) (E:=E) (x:=x) (S:=S) (e:=e) (p:=none) (l:=0) (c:=0)).out d ty pos aft gd
 ·have:IsC (evl E x) (.slice (some ⟨b,0,none⟩) xs.length c):=⟨by rw[hx.out,hv]⟩
  exact(Zc6 (P:=P) (w0:=w0) (n:=n) (L:=L) (E:=E) (x:=x) (S:=S) (e:=e) (p:=some ⟨b,0,none⟩) (l:=xs.length) (c:=c)).out d ty pos aft gd⟩
instance Zwv {e s b l c i:Nat}{z1:Operand}[IsC (evl E x) (.slice (some ⟨b,0,none⟩) l c)][hy:IsC (evl E z1) (.int .i64 (i:Nat))]{T:TypeId}[h:UndC P T (.slice e)][hs:SizeC P e s]:YsC P w0 n L E (.slice T x (some z1) none none) (.slice (some ⟨b,i*s,none⟩) (l-i) (c-i)) (i<=l/\l<=c/\i<c):=⟨fun hi d ty pos aft gd=>
 Z4 (fun _=>Instr.sliceAt T (.slice (some ⟨b,0,none⟩) l c) (some (.int .i64 (i:Nat))) none none) (fun a ha=>by simp only[execOp,ha.ev (isE (x:=x)),Option.map_none,Option.map_some,ha.ev (isE (x:=z1))]) (fun a w _ _=>by
  have h3:¬c=i:=by omega
  simp[Instr.sliceAt,Instr.slice,run_underlying h.out,Instr.sliceBounds,Instr.sliceBound,asIntOf,Z5 hs.out,hi.1,hi.2.1,h3,Zai])⟩
instance ZuZ {e s b l c i:Nat}{z1:Operand}[IsC (evl E x) (.slice (some ⟨b,0,none⟩) l c)][hy:IsC (evl E z1) (.int .i64 (i:Nat))]{T:TypeId}[h:UndC P T (.slice e)][hs:SizeC P e s]:YsC P w0 n L E (.slice T x none (some z1) none) (.slice (some ⟨b,0,none⟩) i c) (i<=c/\l<=c/\0<c):=⟨fun hi d ty pos aft gd=>
 Z4 (fun _=>Instr.sliceAt T (.slice (some ⟨b,0,none⟩) l c) none (some (.int .i64 (i:Nat))) none) (fun a ha=>by simp only[execOp,ha.ev (isE (x:=x)),Option.map_none,Option.map_some,ha.ev (isE (x:=z1))]) (fun a w _ _=>by
  have h3:¬c=0:=by omega
  simp[Instr.sliceAt,Instr.slice,run_underlying h.out,Instr.sliceBounds,Instr.sliceBound,asIntOf,Z5 hs.out,hi.1,hi.2.1,h3,Zai])⟩
theorem ZgJ {zc:Array Value}{m:Nat}(h1:zc.all (·.oneCell')=true):∀u∈(Builtin.zeroCells zc m).toList,u.oneCell'=true:=fun u hu=>by
 simp only[Builtin.zeroCells,Array.toList_map,List.mem_map] at hu
 obtain⟨i,hi,rfl⟩:=hu
 have hlt:i<m*zc.size:=by simpa using hi
 have h0:0<zc.size:=by
  rcases Nat.eq_zero_or_pos zc.size with h|h
  ·rw[h,Nat.mul_zero] at hlt;cases hlt
  ·exact h
 have hm:i % zc.size<zc.size:=Nat.mod_lt _ h0
 rw[getElem!_pos zc _ hm]
 exact Array.all_eq_true_iff_forall_mem.1 h1 _ (Array.getElem_mem hm)
theorem sClr {α:Type}{enc:α->Array Value}{S T:TypeId}{b c2 i m k:Nat}{ys:List α}{sp:List Value}{z:Value}{zc:Array Value}
  [hx:IsC (evl E x) (.slice (some ⟨b,i*k,none⟩) m c2)] [hd:DelC b L (row enc ys sp) T L1] [hT:UndC P S (.slice T)] [hz:ZeroC P T z zc] [he:EncC enc k]
  (hg:guardB ops E gd=some true) (hm:i+m=ys.length) (hm0:0<m) (hzk:zc.size=k) (hz1:zc.all (·.oneCell')=true)
  (h:∀zs:List Value,zs.length=m*k->JO P w0 n ops Q rest E (⟨b,row enc (ys.take i) (zs++sp),T⟩::L1)):JO P w0 n ops Q (⟨none, .call ⟨.builtin .clear,#[x],#[S]⟩,ty,pos,aft,gd⟩::rest) E L:=by
 refine Zc9 (L':={zs:List Value // zs.length=m*k}) (o:=⟨none, .call ⟨.builtin .clear,#[x],#[S]⟩,ty,pos,aft,gd⟩) hg rfl (fun _=> .tuple #[]) (fun s=>⟨b,row enc (ys.take i) (s.1++sp),T⟩::L1) (fun a w ha hw=>?_) (fun s=>h s.1 s.2)
 have hwp:=hw.perm hd.out
 have hb:=(hwp.mem _ (.head _)).2
 have hzs:(Builtin.zeroCells z.cells m).toList.length=m*k:=by rw[Array.length_toList,size_zeroCells,hz.cells,hzk]
 have hrl:=ZX (enc:=enc) (k:=k) ys
 have hrt:=ZX (enc:=enc) (k:=k) (ys.take i)
 have htl:(ys.take i).length=i:=by rw[Wt];omega
 rw[htl] at hrt
 have hmk:ys.length*k=i*k+m*k:=by rw[<-hm,Nat.add_mul]
 have hsz:(row enc ys sp).size=ys.length*k+sp.length:=by simp[row,hrl]
 obtain⟨w',hr,ht⟩:=ZaT (P:=P) (b:=b) (off:=i*k) (Builtin.zeroCells z.cells m).toList 0 _ w hb (by rw[hsz,hzs];omega) (ZgJ (by rw[hz.cells];exact hz1))
 have hspl:spl (row enc ys sp) (i*k+0) (Builtin.zeroCells z.cells m).toList=row enc (ys.take i) ((Builtin.zeroCells z.cells m).toList++sp):=by
  apply Array.ext_getElem?
  intro j
  rw[Zb5 _ _ _ _ (by rw[hsz,hzs];omega),Nat.add_zero,hzs]
  have hall:(rowL enc ys)=rowL enc (ys.take i)++rowL enc (ys.drop i):=by rw[<-Zda,List.take_append_drop]
  simp only[row,List.getElem?_toArray]
  split
  ·rename_i hj
   rw[List.getElem?_append_right (by omega),hrt,List.getElem?_append_left (by rw[hzs];omega)]
  ·rename_i hj
   rcases Nat.lt_or_ge j (i*k) with h1|h1
   ·rw[hall,List.append_assoc,List.getElem?_append_left (by omega),List.getElem?_append_left (by omega)]
   ·rw[List.getElem?_append_right (by omega),List.getElem?_append_right (by omega),hrl,hrt,List.getElem?_append_right (by rw[hzs];omega),hzs]
    congr 1
    omega
 rw[hspl] at ht
 refine⟨⟨_,hzs⟩,w', .inl ?_,hwp.turn .here ht⟩
 have h1:(#[x]:Array Operand).map a.eval=#[.slice (some ⟨b,i*k,none⟩) m c2]:=by simp[ha.ev (isE (x:=x))]
 obtain⟨m',rfl⟩:∃m',m=m'+1:=⟨m-1,by omega⟩
 have hr':(Builtin.clear_ #[S] ty #[.slice (some ⟨b,i*k,none⟩) (m'+1) c2]).run P w= .ok (.tuple #[]) w':=by
  obtain⟨ti,hti,hz0⟩:∃i,P.info? T=some i/\i.zero=some z:=Option.bind_eq_some_iff.1 hz.out
  simp[Builtin.clear_,run_underlying hT.out,zeroValue,typeInfo,hti,hz0,hr,Result.andThen]
 have h2:∀cs:Array Bool,(builtin .clear #[S] ty cs #[.slice (some ⟨b,i*k,none⟩) (m'+1) c2]).run P w= .ok (.value (.tuple #[])) w':=fun cs=>by
  show Sem.run P (do pure (Next.value (<-Builtin.clear_ #[S] ty #[.slice (some ⟨b,i*k,none⟩) (m'+1) c2])):Sem Next) w=_
  rw[Sem.run_bind,hr']
  rfl
 simp only[execOp,resolve,h1,Sem.run_bind,Sem.run_pure,Result.andThen,invoke]
 exact h2 _
end
instance (priority :=50) osAny {α:Type}{enc:α->Array Value}{k:Nat}{xs:List α}(T:TypeId)(s:SlS enc k xs)(A L L1:List Blk)[h:OwnS T s L L1]:OwnS T s (A++L) (A++L1):=⟨by
 refine(h.out.append_left A).trans ?_
 rw[<-List.append_assoc,<-List.append_assoc]
 exact List.perm_append_comm.append_right _⟩
class BmC (M L:List Blk)(L1:outParam (List Blk)):Prop where
 out:L.Perm (M++L1)
instance (priority :=high) bmHere (M L:List Blk):BmC M (M++L) L:=⟨.refl _⟩
instance (priority :=high) bmHere0 (M:List Blk):BmC M M []:=⟨by rw[Wh]⟩
instance (priority :=low) bmThere (M:List Blk)(e:Blk)(L L1:List Blk)[h:BmC M L L1]:BmC M (e::L) (e::L1):=⟨(h.out.cons e).trans List.perm_middle.symm⟩
instance (priority :=low) bmSkip (M A L L1:List Blk)[h:BmC M L L1]:BmC M (A++L) (A++L1):=⟨by
 refine(h.out.append_left A).trans ?_
 rw[<-List.append_assoc,<-List.append_assoc]
 exact List.perm_append_comm.append_right _⟩
theorem Zpl {w0:World}{n:Nat}{x:Exit}{Q:Exit->Act->World->Prop}{E:Env}{L L' M:List Blk}(hs:L'.Sublist L)(hp:L'.Perm M)(h:JX w0 n x Q E M):JX w0 n x Q E L:=⟨fun a w ha hw=>h.out a w ha ((hw.sub hs).perm hp)⟩
abbrev vSlc (s:Sl):Value:= .slice s.a s.len s.cap
theorem ZoA (a b:Rat):(a-b).num.sign=cq a b:=by
 unfold cq
 split
 ·rename_i h
  exact Int.sign_eq_neg_one_iff_neg.2 (by
   have h3:¬0<=(a-b).num:=fun h1=>by
    have:=Rat.num_nonneg.1 h1
    grind
   omega)
 ·split
  ·rename_i h1 h2
   refine Int.sign_eq_one_iff_pos.2 ?_
   have h3:0<=(a-b).num:=Rat.num_nonneg.2 (by grind)
   have h4:(a-b).num≠0:=fun h0=>by
    have:=Rat.num_eq_zero.1 h0
    grind
   omega
  ·rename_i h1 h2
   have:a=b:=by grind
   subst this
   rw[show a-a=0 by grind]
   rfl
theorem ZA {α:Type}[Inhabited α]{xs:List α}{i:Int}(h:i.toNat<xs.length):gi xs i∈xs:=by
 rw[Zbk h]
 exact List.getElem_mem _
theorem SlS.turn {α:Type}{enc:α->Array Value}{k:Nat}{xs ys:List α}(T:TypeId)(h:xs=ys)(s:SlS enc k xs):∃s':SlS enc k ys,vSl s'=vSl s/\mS T s'=mS T s:=by
 subst h
 exact⟨s,rfl,rfl⟩
theorem SlS.put {α:Type}{enc:α->Array Value}{k n b c:Nat}{ys:List α}{sp:List Value}(T:TypeId)(hn:ys.length=n)(h:n<=c/\sp.length=(c-n)*k)(h0:0<n):∃s':SlS enc k ys,vSl s'= .slice (some ⟨b,0,none⟩) n c/\mS T s'=[⟨b,row enc ys sp,T⟩]:=by
 subst hn
 exact⟨SlS.at_ b c sp h (fun h1=>by rw[h1] at h0;simp at h0),rfl,rfl⟩
theorem Zhh {w0:World}{n:Nat}{Q:Exit->Act->World->Prop}{E:Env}{L:List Blk}{S:Type}{I:S->Prop}{Es:S->Env}{Ls:S->List Blk}{mu:S->Nat}{s:S}(t:S)(ht:I t)(hE:Sub E (Es t))(hL:SbpC (Ls t) L)(hmu:mu t<mu s):JX w0 n .normal (LoopQ w0 n I Es Ls mu s Q) E L:=⟨fun a w ha hw=>by
 obtain⟨L',hp⟩:=hL.out
 exact(Zg (L:=Ls t) t ht hE (Wj _) hmu).out a w ha ((hw.perm hp).sub (List.sublist_append_left _ _))⟩
theorem ArgS.lst {α:Type}{w:World}{v:Value}{enc:α->Array Value}{xs:List α}(h:ArgS w v enc xs)(L:List Blk):LstC w L v α enc xs:=⟨fun w' hw'=>h.to hw'.ext⟩
end
section
theorem ZhX (a:Addr)(x y:Nat):(a.add x).add y=a.add (x+y):=by
 simp only[Addr.add]
 by_cases h1:x=0
 ·subst h1
  simp
 ·by_cases h2:y=0
  ·subst h2
   simp[h1]
  ·have h3:¬x+y=0:=by omega
   simp[h1,h2,Nat.add_assoc]
def dropA (p:Option Addr)(c k s:Nat):Option Addr:=if c=k then p else p.map (·.add (k*s))
section
variable {P : Program} {w0 : World} {n : Nat} {L : List Blk} {E : Env} {x z1 : Operand} {T : TypeId}
instance (priority :=low) ZAy {e s l c k:Nat}{p:Option Addr}[IsC (evl E x) (.slice p l c)][hy:IsC (evl E z1) (.int .i64 (k:Nat))][h:UndC P T (.slice e)][hs:SizeC P e s]:YsC P w0 n L E (.slice T x none (some z1) none) (.slice p k c) (k<=c/\l<=c):=⟨fun hi d ty pos aft gd=>
 Z4 (fun _=>Instr.sliceAt T (.slice p l c) none (some (.int .i64 (k:Nat))) none) (fun a ha=>by simp only[execOp,ha.ev (isE (x:=x)),Option.map_none,Option.map_some,ha.ev (isE (x:=z1))]) (fun a w _ _=>by
  have h3:(if c=0 then p else p.map (·.add (0*s)))=p:=by
   split
   ·rfl
   ·cases p
    ·rfl
    ·simp[Addr.add]
  simp only[Nat.zero_mul] at h3
  simp[Instr.sliceAt,Instr.slice,run_underlying h.out,Instr.sliceBounds,Instr.sliceBound,asIntOf,Z5 hs.out,hi.1,hi.2,h3])⟩
instance (priority :=low) ZzQ {e s l c k:Nat}{p:Option Addr}[IsC (evl E x) (.slice p l c)][hy:IsC (evl E z1) (.int .i64 (k:Nat))][h:UndC P T (.slice e)][hs:SizeC P e s]:YsC P w0 n L E (.slice T x (some z1) none none) (.slice (dropA p c k s) (l-k) (c-k)) (k<=l/\l<=c):=⟨fun hi d ty pos aft gd=>
 Z4 (fun _=>Instr.sliceAt T (.slice p l c) (some (.int .i64 (k:Nat))) none none) (fun a ha=>by simp only[execOp,ha.ev (isE (x:=x)),Option.map_none,Option.map_some,ha.ev (isE (x:=z1))]) (fun a w _ _=>by
  simp[Instr.sliceAt,Instr.slice,run_underlying h.out,Instr.sliceBounds,Instr.sliceBound,asIntOf,Z5 hs.out,hi.1,hi.2,dropA])⟩
end
theorem ArgS.take {α:Type}{enc:α->Array Value}{xs:List α}{w:World}{p:Option Addr}{n c:Nat}(h:ArgS w (.slice p n c) enc xs)(k:Nat)(hk:k<=xs.length):ArgS w (.slice p k c) enc (xs.take k):=by
 have hl:(xs.take k).length=k:=by rw[Wt];omega
 rcases h.out with⟨h1,h2⟩|⟨a,c',h1,h2,h3⟩
 ·subst h2
  injection h1 with e1 e2 e3
  subst e1 e3
  have:k=0:=by simpa using hk
  subst this
  exact⟨.inl ⟨rfl,rfl⟩⟩
 ·injection h1 with e1 e2 e3
  subst e1 e3
  refine⟨.inr ⟨a,c,by rw[hl],by omega,fun i f k' u hi hs hu=>?_⟩⟩
  rw[List.getElem_take] at hu
  exact h3 i f k' u (by omega) hs hu
theorem ArgS.drop {α:Type}{enc:α->Array Value}{s:Nat}[he:EncC enc s]{xs:List α}{w:World}{p:Option Addr}{n c:Nat}(h:ArgS w (.slice p n c) enc xs)(k:Nat)(hk:k<=n):ArgS w (.slice (dropA p c k s) (n-k) (c-k)) enc (xs.drop k):=by
 rcases h.out with⟨h1,h2⟩|⟨a,c',h1,h2,h3⟩
 ·subst h2
  injection h1 with e1 e2 e3
  subst e1 e2 e3
  have:k=0:=by omega
  subst this
  refine⟨.inl ⟨?_,rfl⟩⟩
  unfold dropA
  rfl
 ·injection h1 with e1 e2 e3
  subst e1 e2 e3
  have hl:(xs.drop k).length=xs.length-k:=List.length_drop
  by_cases hc:c=k
  ·have hd:xs.drop k=[]:=List.drop_of_length_le (by omega)
   rw[hd]
   refine⟨.inr ⟨a,c-k, ?_,by simp,fun i f k' u hi=>absurd hi (by simp)⟩⟩
   unfold dropA
   rw[if_pos hc,show xs.length-k=0 by omega]
   rfl
  ·refine⟨.inr ⟨a.add (k*s),c-k, ?_,by omega,fun i f k' u hi hs hu=>?_⟩⟩
   ·unfold dropA
    rw[if_neg hc,hl]
    rfl
   ·rw[List.getElem_drop] at hu
    have hks:k'=s:=by
     have hi':k+i<xs.length:=by omega
     rw[<-hs xs[k+i],he.size xs[k+i]]
    subst hks
    have:=h3 (k+i) f k' u (by omega) hs hu
    rw[Nat.add_mul,Nat.add_assoc] at this
    have e:(a.add (k*k')).add (i*k'+f)=a.add (k*k'+(i*k'+f)):=ZhX a _ _
    rw[e]
    exact this
class OwnF {α:Type}{enc:α->Array Value}{k:Nat}{xs:List α}(T:TypeId)(s:FlS enc k xs)(L:List Blk)(L1:outParam (List Blk)):Prop where
 out:L.Perm (mF T s++L1)
section
variable {α : Type} {enc : α -> Array Value} {k : Nat} {xs : List α}
instance (priority :=high) ofHere (T:TypeId)(s:FlS enc k xs)(L:List Blk):OwnF T s (mF T s++L) L:=⟨.refl _⟩
instance (priority :=low) ofThere (T:TypeId)(s:FlS enc k xs)(e:Blk)(L L1:List Blk)[h:OwnF T s L L1]:OwnF T s (e::L) (e::L1):=⟨(h.out.cons e).trans List.perm_middle.symm⟩
instance (priority :=low) ofSkip (T:TypeId)(s:FlS enc k xs)(A L L1:List Blk)[h:OwnF T s L L1]:OwnF T s (A++L) (A++L1):=⟨by
 refine(h.out.append_left A).trans ?_
 rw[<-List.append_assoc,<-List.append_assoc]
 exact List.perm_append_comm.append_right _⟩
theorem FlS.like (s:FlS enc k xs){ys:List α}(h:ys=xs):∃s':FlS enc k ys,vF s'=vF s/\∀T,mF T s'=mF T s:=by
 subst h
 exact⟨s,rfl,fun _=>rfl⟩
def FlS.em (b:Nat):FlS enc k []:=⟨some (b,0,[]),(fun h=>by cases h),fun t ht=>by injection ht with ht;subst ht;exact⟨Wl _,by simp⟩⟩
theorem FlS.em_m (b:Nat)(T:TypeId):mF T (FlS.em b:FlS enc k [])=[⟨b,row enc [] [],T⟩]:=rfl
instance (priority :=low) ofDel (T:TypeId)(b:Nat)(L L1:List Blk)[h:DelC b L (row enc [] []) T L1]:OwnF T (FlS.em b:FlS enc k []) L L1:=⟨h.out⟩
theorem FlS.sl (s:FlS enc k xs)(h:xs≠[]):∃s':SlS enc k xs,vSl s'=vF s/\∀T,mS T s'=mF T s:=by
 rcases s.cases 0 with⟨h0, -, -⟩|⟨b,c,sp,h1,h2, -⟩
 ·exact absurd h0 h
 ·obtain⟨s,h3,h4⟩:=s
  cases s with
  |none=>exact absurd (h3 rfl) h
  |some t=>exact⟨SlS.at_ t.1 t.2.1 t.2.2 (h4 t rfl) h,rfl,fun _=>rfl⟩
end
section
variable {P : Program} {w0 : World} {n : Nat} {ops : Array Oper} {L L1 : List Blk} {E : Env}
variable {Q : Exit -> Act -> World -> Prop} {rest : List Oper}
variable {ty : TypeId} {pos : String} {aft : Array Edge} {gd : Option (Nat × Bool)} {t : Tmp} {x y : Operand}
variable {α : Type} {enc : α -> Array Value} {S T : TypeId} {k B : Nat} {xs ys : List α} {v : Value} {z : Value} {zc : Array Value} {s : FlS enc (k + 1) xs}
variable [hx : IsC (evl E x) (vF s)] [hy : IsC (evl E y) v] [hl : LstC w0 L v α enc ys] [hd : OwnF T s L L1] [hT : UndC P S (.slice T)] [hz : ZeroC P T z zc] [he : EncC enc (k + 1)] [hk : SizeC P T (k + 1)] [hB : BytesC P T B]
include hx hy hd hl hT hz he hk hB
theorem Zgk (hzk:zc.size=k+1)(hb:(xs.length+ys.length)*B<=140737488355328/\xs.length+ys.length<=9223372036854775807)(a:Act)(w:World)(ha:Rep n E a)(hw:Own w0 L w):
  ∃s':FlS enc (k+1) (xs++ys),∃w',(execOp a.eval ⟨some t, .call ⟨.builtin .append,#[x,y],#[S,S]⟩,ty,pos,aft,gd⟩).run P w= .ok (.value (vF s')) w'/\Own w0 (mF T s'++L1) w':=by
 have hp:=hw.perm hd.out
 have hlen:(xs++ys).length=xs.length+ys.length:=Wp
 have hv:=hl.out w hw
 by_cases h0:ys=[]
 ·subst h0
  obtain⟨s',e1,e2⟩:=s.like (Wh xs)
  obtain⟨i,hi, -⟩:=Zce hk.out
  refine⟨s',w, ?_,by rw[e2];exact hp⟩
  rw[e1]
  have hx':Env.ev E x=some (vF s):=by rw[<-ZbC,hx.out]
  have hy':Env.ev E y=some v:=by rw[<-ZbC,hy.out]
  refine ZbK (d:=some t) (pos:=pos) (aft:=aft) (gd:=gd) ha hx' hy' ?_
  rcases hv.out with⟨hv0, -⟩|⟨a2,c2,hv0, -, -⟩
  ·rw[hv0]
   rcases s.cases T with⟨-,hv, -⟩|⟨b,c,sp,h1,hv, -⟩
   ·rw[hv]
    exact ZeI hT.out hi (.inl ⟨rfl,rfl,rfl⟩)
   ·rw[hv]
    exact ZeI hT.out hi (.inr ⟨b,rfl,h1.1⟩)
  ·rw[hv0]
   rcases s.cases T with⟨-,hv, -⟩|⟨b,c,sp,h1,hv, -⟩
   ·rw[hv]
    exact Zee hT.out hi (.inl ⟨rfl,rfl,rfl⟩)
   ·rw[hv]
    exact Zee hT.out hi (.inr ⟨b,rfl,h1.1⟩)
 ·obtain⟨b2,o2,c2,hv2,hc2,hrow⟩:=hv.blk (k:=k) h0 []
  obtain⟨cs2,T2,fz,hf,hcell⟩:=hrow.out w (Own.start w)
  have hm:0<ys.length:=List.length_pos_iff.2 h0
  have hne:xs++ys≠[]:=fun h0=>by rw[h0,Wx] at hlen;omega
  have hy':Env.ev E y=some (.slice (some ⟨b2,o2,none⟩) ys.length c2):=by rw[<-ZbC,hy.out,hv2]
  have hcs:∀j v,(rowL enc ys)[j]? =some v->cs2[o2+j]? =some v:=fun j v hv=>by
   have hj:j<ys.length*(k+1):=by
    rw[<-ZX (enc:=enc) (k:=k+1) ys]
    rcases Nat.lt_or_ge j (rowL enc ys).length with h|h
    ·exact h
    ·rw[List.getElem?_eq_none h] at hv;cases hv
   have hi:j / (k+1)<ys.length:=Nat.div_lt_of_lt_mul (by rw[Nat.mul_comm];exact hj)
   have hf:j % (k+1)<k+1:=Nat.mod_lt _ (Nat.succ_pos _)
   have e:j / (k+1)*(k+1)+j % (k+1)=j:=by rw[Nat.mul_comm];exact Nat.div_add_mod j (k+1)
   have hg:=Ze7 (enc:=enc) (k:=k+1) ys (j / (k+1)) (j % (k+1)) hi hf
   rw[e,hv] at hg
   have:=(hcell _ _ (k+1) v hi he.size hg.symm).1
   rw[Nat.add_assoc,e] at this
   exact this
  rcases s.cases T with⟨rfl,hv,hm0⟩|⟨b,c,sp,h1,hv,hm1⟩
  ·have hx':Env.ev E x=some (.slice none 0 0):=by rw[<-ZbC,hx.out,hv]
   rw[hm0,Wg] at hp
   obtain⟨s,w',hr,ho⟩:=ZeL (L:=L1) (ty:=ty) (b2:=b2) (off2:=o2) (m:=ys.length) (c2:=c2) (news:=rowL enc ys) hT.out hz.out hz.cells hk.out hB.out hzk hp ⟨T2,fz,hf⟩ (by rw[ZX (k:=k+1)]) hcs hm (by simpa using hb.1) (by simpa using hb.2)
   refine⟨⟨some s.1,(fun h=>by cases h),fun t ht=>by injection ht with ht;subst ht;rw[Wg];exact s.2⟩,w', ?_,ho⟩
   have h3:=ZbK (d:=some t) (pos:=pos) (aft:=aft) (gd:=gd) ha hx' hy' hr
   rw[h3]
   rfl
  ·have hx':Env.ev E x=some (.slice (some ⟨b,0,none⟩) xs.length c):=by rw[<-ZbC,hx.out,hv]
   rw[hm1] at hp
   obtain⟨s,w',hr,ho⟩:=Zga (L1:=L1) (ty:=ty) (b:=b) (len:=xs.length) (c:=c) (b2:=b2) (off2:=o2) (m:=ys.length) (c2:=c2) (xs:=rowL enc xs) (sp:=sp) (news:=rowL enc ys) hT.out hz.out hz.cells hk.out hB.out hzk hp (.refl _) (ZX xs) h1.2 h1.1 ⟨T2,fz,hf⟩ (by rw[ZX (k:=k+1)]) hcs (Zgc ys) hb.1 hb.2
   refine⟨⟨some s.1,(fun h=>by cases h),fun t ht=>by injection ht with ht;subst ht;rw[hlen];exact s.2⟩,w', ?_, ?_⟩
   ·have h3:=ZbK (d:=some t) (pos:=pos) (aft:=aft) (gd:=gd) ha hx' hy' hr
    rw[h3]
    show _=Result.ok (Next.value (Value.slice _ (xs++ys).length _)) w'
    rw[hlen]
   ·show Own w0 (⟨s.1.1,row enc (xs++ys) s.1.2.2,T⟩::L1) w'
    rw[row,Zda]
    exact ho
theorem sVF (hg:guardB ops E gd=some true)(hd':Nat.blt t n=true)(hzk:zc.size=k+1)(hb:(xs.length+ys.length)*B<=140737488355328/\xs.length+ys.length<=9223372036854775807)
  (h:∀s':FlS enc (k+1) (xs++ys),JO P w0 n ops Q rest ((t,vF s')::E) (mF T s'++L1)):JO P w0 n ops Q (⟨some t, .call ⟨.builtin .append,#[x,y],#[S,S]⟩,ty,pos,aft,gd⟩::rest) E L:=
 Zc9 (L':=FlS enc (k+1) (xs++ys)) (o:=⟨some t, .call ⟨.builtin .append,#[x,y],#[S,S]⟩,ty,pos,aft,gd⟩) hg hd' (fun s=>vF s) (fun s=>mF T s++L1)
  (fun a w ha hw=>by
   obtain⟨s,w',hr,ho⟩:=Zgk (hx:=hx) (hy:=hy) (hl:=hl) (hd:=hd) (hT:=hT) (hz:=hz) (he:=he) (hk:=hk) (hB:=hB) hzk hb a w ha hw
   exact⟨s,w', .inl hr,ho⟩) h
theorem eVF {K:Env->List Blk->Prop}{Lw:List Blk}(hg:guardB ops E gd=some true)(hd':Nat.blt t n=true)[hw:SblC Lw L1](hzk:zc.size=k+1)(hb:(xs.length+ys.length)*B<=140737488355328/\xs.length+ys.length<=9223372036854775807)
  (h:∀s':FlS enc (k+1) (xs++ys),JE P w0 n ops Lw K rest ((t,vF s')::E) (mF T s'++L1)):JE P w0 n ops Lw K (⟨some t, .call ⟨.builtin .append,#[x,y],#[S,S]⟩,ty,pos,aft,gd⟩::rest) E L:=
 Zds (S:=FlS enc (k+1) (xs++ys)) (o:=⟨some t, .call ⟨.builtin .append,#[x,y],#[S,S]⟩,ty,pos,aft,gd⟩) hg hd' (fun s=>vF s) (fun s=>mF T s++L1)
  (fun a w ha hw=>by
   obtain⟨s,w',hr,ho⟩:=Zgk (hx:=hx) (hy:=hy) (hl:=hl) (hd:=hd) (hT:=hT) (hz:=hz) (he:=he) (hk:=hk) (hB:=hB) hzk hb a w ha hw
   exact⟨s,w', .inl hr,ho⟩) (fun _=>Z8 (hw.out.trans (List.sublist_append_right _ _))) h
end
end
section
def tkV (m:Nat):Value->Value
 | .slice p _ c=> .slice p m c
 |v=>v
theorem hcap {α:Type}{enc:α->Array Value}{xs:List α}{w:World}{p:Option Addr}{c:Nat}(hv:ArgS w (.slice p xs.length c) enc xs):xs.length<=c:=by
 rcases hv.out with⟨h1,h2⟩|⟨a,c',h1,h2, -⟩
 ·rw[h2];exact Wm _
 ·injection h1 with _ _ e;omega
set_option maxHeartbeats 4000000 in
theorem ZkS (v:Value)(xs:List Int)(w:World)(hv:ArgS w v (eI .i64) xs)(hl:xs.length<=1125899906842624):
  Calls prog 169 [v].toArray w (Ret (tkV (tzN xs xs.length) v) w):=by
 obtain⟨p,cp,rfl⟩:=hv.form
 have hcp:=hcap hv
 refine Zb Tryz.func169 rfl Tryz.ntmps169 rfl ?_
 repeat(refine wkB ?_;intros)
 refine Zad (S:=Nat) (fun k=>k<=xs.length/\k=tzN xs xs.length) (fun k=>[(0, .slice p xs.length cp),(3, .int .i64 (k:Nat))]) (fun _=>[]) ?_ (fun k hk=>?_)
 ·refine Zq (S:=Nat) (fun k=>k<=xs.length/\tzN xs k=tzN xs xs.length) (fun k=>[(0, .slice p xs.length cp),(3, .int .i64 (k:Nat))]) (fun _=>[]) (fun k=>k) xs.length ⟨Wl _,rfl⟩ sbB slB (fun k hk=>?_)
  obtain⟨hk,hpos⟩:=hk
  rcases k with _|j
  ·repeat(refine wkB ?_;intros)
   exact Zj 0 ⟨Wm _,hpos⟩ sbB slB
  ·have hlt:j<xs.length:=hk
   obtain⟨bw,ow,rfl,hrow'⟩:=hv.opn (k:=0) hlt
   have e1:((j+1:Nat):Int)-1=(j:Int):=by omega
   rw[tzN] at hpos
   repeat(refine wkB ?_;intros)
   simp only[Wc (show(0:Int)<((j+1:Nat):Int) by omega)]
   repeat(refine wkB ?_;intros)
   simp only[e1]
   repeat(refine wkB ?_;intros)
   by_cases c1:gi xs (j:Int)=0
   ·rw[if_pos c1] at hpos
    simp only[Wc c1]
    repeat(refine wkB ?_;intros)
    try simp only[e1]
    exact Zg j ⟨Nat.le_of_lt hlt,hpos⟩ sbB slB (Nat.lt_succ_self _)
   ·rw[if_neg c1] at hpos
    simp only[We c1]
    repeat(refine wkB ?_;intros)
    exact Zj (j+1) ⟨hk,hpos⟩ sbB slB
 ·obtain⟨hk,hpos⟩:=hk
  repeat(refine wkB ?_;intros)
  rw[hpos]
  exact rtT rfl rfl
instance Zxu (w0:World)(L:List Blk)(v:Value)(xs:List Int)[h:LstC w0 L v Int (eI .i64) xs]:SpecM prog w0 L 169 [v] (tkV (tzN xs xs.length) v) (xs.length<=1125899906842624):=⟨fun hl w hw=>ZkS v xs w (h.out w hw) hl⟩
theorem SlS.trim {xs:List Int}(s:SlS (eI .i64) 1 xs)(h:D8 xs):∃f:FlS (eI .i64) 1 (dI (vgI xs).toNat),vF f=tkV (tzN xs xs.length) (vSl s)/\∀T,mF T f=mS T s:=by
 have h1:=Zfa xs xs.length
 have h2:=Zjc h
 have hlen:=congrArg List.length h2
 rw[Wt,Nat.min_eq_left h1] at hlen
 obtain⟨t,hn,hk⟩:=s
 cases t with
 |none=>
  have h0:=hn.1 rfl
  subst h0
  refine⟨⟨none,fun _=>rfl,fun t ht=>by cases ht⟩, ?_,fun T=>rfl⟩
  rfl
 |some t=>
  obtain⟨k1,k2⟩:=hk t rfl
  refine⟨⟨some (t.1,t.2.1,((xs.drop (tzN xs xs.length)).map fun x=>Value.int .i64 x)++t.2.2),(fun h=>by cases h),fun t' ht=>?_⟩, ?_,fun T=>?_⟩
  ·injection ht with ht
   subst ht
   show(dI (vgI xs).toNat).length<=t.2.1/\(((xs.drop (tzN xs xs.length)).map fun x=>Value.int .i64 x)++t.2.2).length=(t.2.1-(dI (vgI xs).toNat).length)*1
   rw[Wp,Ws,List.length_drop]
   omega
  ·show Value.slice (some ⟨t.1,0,none⟩) (dI (vgI xs).toNat).length t.2.1=_
   rw[<-hlen]
   rfl
  ·show [(⟨t.1,row (eI .i64) (dI (vgI xs).toNat) _,T⟩:Blk)]=[⟨t.1,row (eI .i64) xs t.2.2,T⟩]
   have e:row (eI .i64) (dI (vgI xs).toNat) (((xs.drop (tzN xs xs.length)).map fun x=>Value.int .i64 x)++t.2.2)=row (eI .i64) xs t.2.2:=by
    rw[<-h2]
    unfold row
    congr 1
    rw[<-List.append_assoc]
    congr 1
    conv=>rhs;rw[<-List.take_append_drop (tzN xs xs.length) xs]
    unfold rowL
    rw[List.flatMap_append]
    congr 1
    generalize xs.drop (tzN xs xs.length)=ys
    induction ys with
    |nil=>rfl
    |cons y ys ih=>rw[List.map_cons,List.flatMap_cons,ih];rfl
   rw[e]
end
section
def bI (s:ByteArray):List Int:=s.data.toList.reverse.map fun b=>(b.toNat:Int)
theorem ZmP (s:ByteArray):(bI s).length=s.size:=by
 unfold bI
 rw[Ws,List.length_reverse]
 rfl
theorem Zu6 (s:ByteArray):D8 (bI s):=fun d hd=>by
 obtain⟨b, -,rfl⟩:=List.mem_map.1 hd
 have:=UInt8.toNat_lt b
 omega
theorem ZrB (n:Nat):bI (mag n)=dI n:=by
 unfold bI mag dI
 simp
theorem Zrz {s:ByteArray}{k:Nat}(h:k<s.size):∃u:UInt8,s[(((s.size:Int)-1-(k:Int))).toNat]? =some u/\gi (bI s) (k:Int)=(u.toNat:Int):=by
 have e:((s.size:Int)-1-(k:Int)).toNat=s.size-1-k:=by omega
 have hd:s.data.toList.length=s.size:=rfl
 refine⟨s.data.toList[s.size-1-k]'(by omega), ?_, ?_⟩
 ·rw[e]
  show s.data[s.size-1-k]? =_
  rw[Array.getElem?_eq_getElem (show s.size-1-k<s.data.size by have:s.data.size=s.size:=rfl;omega)]
  simp
 ·rw[Zw (by rw[ZmP];exact h)]
  unfold bI
  rw[List.getElem_map,List.getElem_reverse]
  rfl
def bN (s:ByteArray):Nat:=(vgI (bI s)).toNat
theorem Zde (n:Nat):bN (mag n)=n:=by
 unfold bN
 rw[ZrB,ZaB]
 rfl
set_option maxHeartbeats 4000000 in
theorem Zh6 (x:ZN)(w:World)(hl:x.Mag.size<=1099511627776):
  Calls prog 158 [.agg (Zt x)].toArray w (RetM (FlS (eI .i64) 1 (dI (bN x.Mag))) (fun s=>vF s) (fun s=>mF 3 s) w):=by
 have hbl:=ZmP x.Mag
 have hb8:=Zu6 x.Mag
 refine Zb Tryz.func158 rfl Tryz.ntmps158 rfl ?_
 repeat(refine wkB ?_;intros)
 rename_i b1
 rw[show(x.Mag.size:Int)-1=(x.Mag.size:Int)-1-((0:Nat):Int) by omega]
 refine Zq (S:=(k:Nat)×SlS (eI .i64) 1 ((bI x.Mag).take k)) (fun q=>q.1<=x.Mag.size) (fun q=>[(1, .pointer (some ⟨b1,0,none⟩)),(3,vSl q.2),(4, .int .i64 ((x.Mag.size:Int)-1-(q.1:Nat)))]) (fun q=>mS 3 q.2++[⟨b1,Zt x,31⟩]) (fun q=>x.Mag.size-q.1) ⟨0,SlS.no⟩ (Wm _) sbB suB (fun q hk=>?_)
 obtain⟨k,o⟩:=q
 simp only at hk⊢
 have hol:((bI x.Mag).take k).length=k:=by rw[Wt];omega
 repeat(refine wkB ?_;intros)
 refine Zk rfl (fun h=>?_) (fun h=>?_)
 ·have hlt:k<x.Mag.size:=by have:=Wa h;omega
  obtain⟨u,hu,hg⟩:=Zrz hlt
  have hu8:=UInt8.toNat_lt u
  have hnx:(bI x.Mag).take (k+1)=(bI x.Mag).take k++[(u.toNat:Int)]:=by rw[Wn (by omega),<-hg,Zw (by omega)]
  have e1:(x.Mag.size:Int)-1-(k:Nat)-1=(x.Mag.size:Int)-1-((k+1:Nat):Int):=by omega
  repeat(refine wkB ?_;intros)
  refine jq (ZaX rfl rfl (by omega) hu) rfl rfl ?_
  repeat(refine wkB ?_;intros)
  refine sU rfl rfl ?_ ?_ ?_ ?_
  ·rfl
  ·rfl
  ·exact⟨by decide,by omega,by omega⟩
  intro o'
  repeat(first|(refine wkB ?_;intros)|(refine wnM ?_ ?_;(focus(exact⟨by omega,by omega⟩));intros))
  obtain⟨o3,f1,f2⟩:=SlS.turn 3 hnx.symm o'
  simp only[e1]
  exact Zg ⟨k+1,o3⟩ hlt (by simp only[f1];exact sbB) (by simp only[f2];exact suB) (by show x.Mag.size-(k+1)<x.Mag.size-k;omega)
 ·obtain rfl:k=x.Mag.size:=by have:=Wb h;omega
  obtain⟨o3,f1,f2⟩:=SlS.turn 3 (show(bI x.Mag).take x.Mag.size=bI x.Mag by rw[List.take_of_length_le (by omega)]) o
  rw[<-f1,<-f2]
  have hl':(bI x.Mag).length<=1125899906842624:=by omega
  repeat(first|(refine wkB ?_;intros)|(refine wnM ?_ ?_;(focus(exact hl'));intros))
  obtain⟨f,g1,g2⟩:∃f:FlS (eI .i64) 1 (dI (bN x.Mag)),vF f=tkV (tzN (bI x.Mag) (bI x.Mag).length) (vSl o3)/\∀T,mF T f=mS T o3:=o3.trim hb8
  exact ZB rfl rfl (fun w hw=>⟨f,by show Ending.returned _=Ending.returned (vF f);rw[g1],by show Own _ (mF _ f) _;rw[g2];exact hw.sub suB⟩)
instance Zur (w0:World)(L:List Blk)(x:ZN):SpecR prog w0 L 158 [.agg (Zt x)] (FlS (eI .i64) 1 (dI (bN x.Mag))) (fun s=>vF s) (fun s=>mF 3 s) (x.Mag.size<=1099511627776):=⟨fun hl w _=>Zh6 x w hl⟩
set_option maxHeartbeats 4000000 in
theorem Zmv (v1 v2:Value)(m n:Nat)(w:World)(h1:ArgS w v1 (eI .i64) (dI m))(h2:ArgS w v2 (eI .i64) (dI n))(hl:(dI m).length<=1125899906842624/\(dI n).length<=1125899906842624):
  Calls prog 125 [v1,v2].toArray w (Ret (.int .i64 (Lib.compareInt (m:Int) n)) w):=by
 have hc:=ZrM m n
 obtain⟨p,cp,rfl⟩:=h1.form
 obtain⟨q,cq',rfl⟩:=h2.form
 generalize dI m=xs at*
 generalize dI n=ys at*
 refine Zb Tryz.func125 rfl Tryz.ntmps125 rfl ?_
 repeat(refine wkB ?_;intros)
 by_cases hne:xs.length=ys.length
 ·rw[if_neg (fun h=>h hne)] at hc
  simp only[Wc (show((xs.length:Nat):Int)=(ys.length:Nat) by omega),Bool.not_true]
  repeat(refine wkB ?_;intros)
  rw[show(xs.length:Int)-1=(xs.length:Int)-1-((0:Nat):Int) by omega]
  refine Zq (S:=Nat) (fun k=>k<=xs.length/\cmD xs ys (xs.length-k)=cmD xs ys xs.length) (fun k=>[(0, .slice p xs.length cp),(1, .slice q ys.length cq'),(5, .int .i64 ((xs.length:Int)-1-(k:Nat)))]) (fun _=>[]) (fun k=>xs.length-k) 0 ⟨Wm _,rfl⟩ sbB slB (fun k hk=>?_)
  obtain⟨hk,hpos⟩:=hk
  repeat(refine wkB ?_;intros)
  refine Zk rfl (fun h=>?_) (fun h=>?_)
  ·have hlt:k<xs.length:=by have:=Wa h;omega
   have hx0:xs≠[]:=fun h0=>by rw[h0] at hlt;simp at hlt
   have hy0:ys≠[]:=fun h0=>by rw[h0,Wx] at hne;omega
   obtain⟨bw,ow,cw,hvw,hcw,hrow⟩:=h1.blk (k:=0) hx0 []
   injection hvw with x1 x2 x3
   subst x1 x3
   obtain⟨bv,ov,cv,hvv,hcv,hrow2⟩:=h2.blk (k:=0) hy0 []
   injection hvv with x1 x2 x3
   subst x1 x3
   have hr1:∀L,RowC w L bw ow Int (eI .i64) xs:=fun L=>⟨fun w' hw'=>hrow.out w' (hw'.sub (Wk _))⟩
   have hr2:∀L,RowC w L bv ov Int (eI .i64) ys:=fun L=>⟨fun w' hw'=>hrow2.out w' (hw'.sub (Wk _))⟩
   have e0:(xs.length:Int)-1-(k:Nat)=((xs.length-1-k:Nat):Int):=by omega
   have e1:(xs.length:Int)-1-(k:Nat)-1=(xs.length:Int)-1-((k+1:Nat):Int):=by omega
   have hst:cmD xs ys (xs.length-k)=if gi xs ((xs.length:Int)-1-(k:Nat))<gi ys ((xs.length:Int)-1-(k:Nat)) then-1 else if gi ys ((xs.length:Int)-1-(k:Nat))<gi xs ((xs.length:Int)-1-(k:Nat)) then 1 else cmD xs ys (xs.length-(k+1)):=by
    rw[show xs.length-k=(xs.length-(k+1))+1 by omega,cmD,e0,show xs.length-1-k=xs.length-(k+1) by omega]
   rw[hst] at hpos
   repeat(refine wkB ?_;intros)
   refine jD 9 9 (h:=?_)
   (repeat(refine wkH ?_))
   refine Zo ?_
   refine Zs ?_
   by_cases c1:gi xs ((xs.length:Int)-1-(k:Nat))<gi ys ((xs.length:Int)-1-(k:Nat))
   ·rw[if_pos c1] at hpos
    simp only[Wc c1]
    repeat(refine wkB ?_;intros)
    rw[hpos,hc]
    exact rtT rfl rfl
   ·rw[if_neg c1] at hpos
    simp only[We c1]
    repeat(refine wkB ?_;intros)
    refine jD 9 9 (h:=?_)
    (repeat(refine wkH ?_))
    refine Zo ?_
    refine Zs ?_
    by_cases c2:gi ys ((xs.length:Int)-1-(k:Nat))<gi xs ((xs.length:Int)-1-(k:Nat))
    ·rw[if_pos c2] at hpos
     simp only[Wc c2]
     repeat(refine wkB ?_;intros)
     rw[hpos,hc]
     exact rtT rfl rfl
    ·rw[if_neg c2] at hpos
     simp only[We c2]
     repeat(first|(refine wkB ?_;intros)|(refine wnM ?_ ?_;(focus(exact⟨by omega,by omega⟩));intros))
     simp only[e1]
     exact Zg (k+1) ⟨hlt,hpos⟩ sbB slB (by omega)
  ·have h0:xs.length-k=0:=by have:=Wb h;omega
   rw[h0,cmD] at hpos
   repeat(refine wkB ?_;intros)
   rw[<-hc,<-hpos]
   exact rtT rfl rfl
 ·rw[if_pos hne] at hc
  simp only[We (show¬((xs.length:Nat):Int)=(ys.length:Nat) by omega),Bool.not_false]
  repeat(refine wkB ?_;intros)
  by_cases c:xs.length<ys.length
  ·rw[if_pos c] at hc
   simp only[Wc (show((xs.length:Nat):Int)<(ys.length:Nat) by omega)]
   repeat(refine wkB ?_;intros)
   rw[<-hc]
   exact rtT rfl rfl
  ·rw[if_neg c] at hc
   simp only[We (show¬((xs.length:Nat):Int)<(ys.length:Nat) by omega)]
   repeat(refine wkB ?_;intros)
   rw[<-hc]
   exact rtT rfl rfl
instance Zz0 (w0:World)(L:List Blk)(v1 v2:Value)(m n:Nat)[h1:LstC w0 L v1 Int (eI .i64) (dI m)][h2:LstC w0 L v2 Int (eI .i64) (dI n)]:SpecM prog w0 L 125 [v1,v2] (.int .i64 (Lib.compareInt (m:Int) n)) ((dI m).length<=1125899906842624/\(dI n).length<=1125899906842624):=⟨fun hl w hw=>Zmv v1 v2 m n w (h1.out w hw) (h2.out w hw) hl⟩
end
end Go.Vt
