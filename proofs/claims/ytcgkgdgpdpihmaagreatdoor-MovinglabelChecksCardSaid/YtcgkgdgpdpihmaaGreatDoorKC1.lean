/- For any up to 12 units whose ends have up to 20 bytes, and for any decoded moving label (up to 8 stretches), Check returns OK or the first error. Conditions: none. (part 1 of 28.) Conditions: those that each statement names. -/
import Derived.Lib.Bytealg
import Derived.Lib.Small
import Derived.Lib.BitFns
import Derived.Below
import Derived.StillTail
import Derived.Laws.Rows
import Derived.KernelRfl
import Derived.WalkKit
set_option linter.unusedSimpArgs false
set_option linter.unusedVariables false
set_option maxHeartbeats 2000000
namespace Go.Vt
def leF :Nat->Nat->List UInt8
 |0,_=>[]
 |f+1,n=>if n=0 then [] else UInt8.ofNat (n % 256)::leF f (n / 256)
def le (n:Nat):List UInt8:=leF n n
def vle :List UInt8->Nat
 |[]=>0
 |b::l=>b.toNat+256*vle l
theorem ZgZ :∀(f g n:Nat),n<=f->n<=g->leF f n=leF g n
  |0,0,_,_,_=>rfl
  | 0, g + 1, n, h, _ => by have : n = 0 := by omega
                            subst this;simp[leF]
  | f + 1, 0, n, _, h => by have : n = 0 := by omega
                            subst this;simp[leF]
  |f+1,g+1,n,h1,h2=>by
    simp only[leF]
    split
    · rfl
    · rw[ZgZ f g (n / 256) (by omega) (by omega)]
theorem Zdv :le 0=[]:=rfl
theorem Za1 {n:Nat}(h:n≠0):le n=UInt8.ofNat (n % 256)::le (n / 256):=by
 unfold le
 obtain⟨m,rfl⟩:=Nat.exists_eq_succ_of_ne_zero h
 rw[leF,if_neg h,ZgZ m _ _ (by omega) (Nat.le_refl _)]
theorem toNat_ofNat (n:Nat):(UInt8.ofNat (n % 256)).toNat=n % 256:=by simp
theorem Zfo :∀n,vle (le n)=n:=by
 intro n
 induction n using Nat.strongRecOn with
 |_ n ih=>
  by_cases h:n=0
  ·subst h;rfl
  ·rw[Za1 h,vle,ih (n / 256) (by omega),toNat_ofNat]
   omega
def Top (l:List UInt8):Prop:=∀b,l.getLast? =some b->b≠0
theorem Znl :∀n,Top (le n):=by
 intro n
 induction n using Nat.strongRecOn with
 |_ n ih=>
  by_cases h:n=0
  ·subst h;intro b hb;simp[Zdv] at hb
  ·intro b hb
   rw[Za1 h] at hb
   by_cases h2:n / 256=0
   ·rw[h2,Zdv] at hb
    simp only[List.getLast?_singleton,Option.some.injEq] at hb
    subst hb
    intro h0
    have:=congrArg UInt8.toNat h0
    rw[toNat_ofNat] at this
    simp at this
    omega
   ·rw[Za1 h2,List.getLast?_cons_cons,<-Za1 h2] at hb
    exact ih _ (by omega) b hb
theorem Zp1 {l:List UInt8}(h:Top l)(hl:l≠[]):vle l≠0:=by
 induction l with
 |nil=>exact absurd rfl hl
 |cons b l ih=>
  intro h0
  simp only[vle] at h0
  by_cases hn:l=[]
  ·subst hn
   have:=h b rfl
   apply this
   apply UInt8.toNat_inj.1
   simp[vle] at h0
   simpa using h0
  ·exact ih (fun c hc=>h c (by
    cases l with
    |nil=>exact absurd rfl hn
    |cons x y=>rw[List.getLast?_cons_cons];exact hc)) hn (by omega)
theorem Zlx {l:List UInt8}(h:Top l):le (vle l)=l:=by
 induction l with
 |nil=>rfl
 |cons b l ih=>
  have ht:Top l:=fun c hc=>h c (by
   cases l with
   |nil=>simp at hc
   |cons x y=>rw[List.getLast?_cons_cons];exact hc)
  have hne:=Zp1 h (by simp)
  rw[Za1 hne]
  have hb:b.toNat<256:=UInt8.toNat_lt b
  simp only[vle] at hne⊢
  have h1:(b.toNat+256*vle l) % 256=b.toNat:=by omega
  have h2:(b.toNat+256*vle l) / 256=vle l:=by omega
  rw[h1,h2,ih ht]
  congr 1
  apply UInt8.toNat_inj.1
  simp
theorem Zdo (l:List UInt8):vle l<256 ^ l.length:=by
 induction l with
 |nil=>simp[vle]
 |cons b l ih=>
  have hb:b.toNat<256:=UInt8.toNat_lt b
  simp only[vle,List.length_cons,Nat.pow_succ]
  omega
theorem Zcs (l m:List UInt8):vle (l++m)=vle l+256 ^ l.length*vle m:=by
 induction l with
 |nil=>simp[vle]
 |cons b l ih=>
  simp only[List.cons_append,vle,ih,List.length_cons,Nat.pow_succ,Nat.mul_add]
  rw[Nat.mul_comm (256 ^ l.length) 256,Nat.mul_assoc]
  omega
theorem ZlC {n k:Nat}:(le n).length<=k↔n<256 ^ k:=by
 induction k generalizing n with
 |zero=>
  simp only[Nat.le_zero_eq,Nat.pow_zero,Nat.lt_one_iff,List.length_eq_zero_iff]
  constructor
  ·intro h;rw[<-Zfo n,h];rfl
  ·intro h;subst h;rfl
 |succ k ih=>
  by_cases h:n=0
  ·subst h;simp[Zdv,Nat.pow_pos]
  ·rw[Za1 h,List.length_cons,Nat.add_le_add_iff_right,ih,Nat.pow_succ]
   omega
theorem Zhg :∀(i n:Nat),i<(le n).length->(le n)[i]? =some (UInt8.ofNat (n / 256 ^ i % 256)):=by
 intro i
 induction i with
 |zero=>
  intro n h
  have hn:n≠0:=by intro h0;subst h0;simp[Zdv] at h
  rw[Za1 hn];simp
 |succ i ih=>
  intro n h
  have hn:n≠0:=by intro h0;subst h0;simp[Zdv] at h
  rw[Za1 hn] at h⊢
  simp only[List.length_cons] at h
  simp only[List.getElem?_cons_succ]
  rw[ih _ (by omega),Nat.div_div_eq_div_mul,Nat.pow_succ,Nat.mul_comm]
def mag (n:Nat):ByteArray:=⟨(le n).reverse.toArray⟩
def vmag (s:ByteArray):Nat:=vle s.data.toList.reverse
def Can (s:ByteArray):Prop:=Top s.data.toList.reverse
theorem Zb9 (n:Nat):vmag (mag n)=n:=by simp[vmag,mag,Zfo]
theorem Zkc (n:Nat):Can (mag n):=by simpa [Can,mag] using Znl n
theorem ZoW {s:ByteArray}(h:Can s):mag (vmag s)=s:=by
 unfold mag vmag
 rw[Zlx h]
 simp
theorem ZdF :mag 0=ByteArray.empty:=rfl
theorem Zdn {m n:Nat}:mag m=mag n↔m=n:=⟨fun h=>by rw[<-Zb9 m,<-Zb9 n,h],fun h=>by rw[h]⟩
theorem Z7 {n:Nat}:mag n=ByteArray.empty↔n=0:=by rw[<-ZdF,Zdn]
theorem ZbF (n:Nat):(mag n).size=(le n).length:=by simp[mag,ByteArray.size]
theorem Z2 {n k:Nat}:(mag n).size<=k↔n<256 ^ k:=by rw[ZbF,ZlC]
theorem ZiC {l:List UInt8}(h:Top l.reverse):mag (vle l.reverse)=⟨l.toArray⟩:=by
 unfold mag
 rw[Zlx h]
 simp
theorem ZjA :∀(a b:List UInt8),a.length=b.length->Lib.compareBytes a b=Lib.compareInt (vle a.reverse) (vle b.reverse)
 |[],[],_=>by simp[Lib.compareBytes,Lib.compareInt]
 |[],_::_,h=>by simp at h
 |_::_,[],h=>by simp at h
 |x::a,y::b,h=>by
  have hl:a.length=b.length:=by simpa using h
  simp only[List.reverse_cons,Zcs,List.length_reverse,vle,Nat.mul_zero,Nat.add_zero,Lib.compareBytes]
  have ha:=Zdo a.reverse
  have hb:=Zdo b.reverse
  rw[List.length_reverse] at ha hb
  rw[<-hl] at hb⊢
  by_cases hxy:x<y
  ·rw[if_pos hxy]
   have h1:x.toNat+1<=y.toNat:=UInt8.lt_iff_toNat_lt.1 hxy
   have h2:256 ^ a.length*(x.toNat+1)<=256 ^ a.length*y.toNat:=Nat.mul_le_mul_left _ h1
   rw[Nat.mul_add,Nat.mul_one] at h2
   unfold Lib.compareInt
   rw[if_pos (by omega)]
  ·rw[if_neg hxy]
   by_cases hyx:y<x
   ·rw[if_pos hyx]
    have h1:y.toNat+1<=x.toNat:=UInt8.lt_iff_toNat_lt.1 hyx
    have h2:256 ^ a.length*(y.toNat+1)<=256 ^ a.length*x.toNat:=Nat.mul_le_mul_left _ h1
    rw[Nat.mul_add,Nat.mul_one] at h2
    unfold Lib.compareInt
    rw[if_neg (by omega),if_pos (by omega)]
   ·rw[if_neg hyx,ZjA a b hl]
    have:x=y:=by
     apply UInt8.toNat_inj.1
     have h1:¬x.toNat<y.toNat:=fun h=>hxy (UInt8.lt_iff_toNat_lt.2 h)
     have h2:¬y.toNat<x.toNat:=fun h=>hyx (UInt8.lt_iff_toNat_lt.2 h)
     omega
    subst this
    unfold Lib.compareInt
    split
    ·rw[if_pos (by omega)]
    ·split
     ·rw[if_neg (by omega),if_pos (by omega)]
     ·rw[if_neg (by omega),if_neg (by omega)]
theorem ZqW (a b:Nat):(if Lib.compareInt (mag a).size (mag b).size≠0 then Lib.compareInt (mag a).size (mag b).size else Lib.compareBytes (mag a).data.toList (mag b).data.toList)=Lib.compareInt a b:=by
 have hlt:∀x y:Nat,(mag x).size<(mag y).size->x<y:=fun x y h=>by
  have h1:x<256 ^ (mag x).size:=Z2.1 (Nat.le_refl _)
  have h2:¬y<256 ^ (mag x).size:=fun h2=>by
   have:=Z2.2 h2
   omega
  omega
 by_cases h1:(mag a).size<(mag b).size
 ·have h2:=hlt _ _ h1
  have e1:Lib.compareInt (mag a).size (mag b).size= -1:=by unfold Lib.compareInt;rw[if_pos (by omega)]
  rw[e1]
  unfold Lib.compareInt
  rw[if_pos (by omega),if_pos (by omega)]
 ·by_cases h3:(mag b).size<(mag a).size
  ·have h2:=hlt _ _ h3
   have e1:Lib.compareInt (mag a).size (mag b).size=1:=by unfold Lib.compareInt;rw[if_neg (by omega),if_pos (by omega)]
   rw[e1]
   unfold Lib.compareInt
   rw[if_pos (by omega),if_neg (by omega),if_pos (by omega)]
  ·have e1:Lib.compareInt (mag a).size (mag b).size=0:=by unfold Lib.compareInt;rw[if_neg (by omega),if_neg (by omega)]
   have hsz:(mag a).data.toList.length=(mag b).data.toList.length:=by
    have e2:(mag a).size=(mag b).size:=by omega
    exact e2
   rw[e1,if_neg (by simp),ZjA _ _ hsz]
   have ea:vle (mag a).data.toList.reverse=a:=Zb9 a
   have eb:vle (mag b).data.toList.reverse=b:=Zb9 b
   rw[ea,eb]
theorem Zdg :∀(f x:Nat),x<2 ^ f->(x=0/\Lib.bitLenAux f x=0)\/(x≠0/\1<=Lib.bitLenAux f x/\2 ^ (Lib.bitLenAux f x-1)<=x/\x<2 ^ Lib.bitLenAux f x)
 |0,x,h=>by
  have:x=0:=by simpa using h
  exact .inl ⟨this,rfl⟩
 |f+1,x,h=>by
  simp only[Lib.bitLenAux]
  by_cases h0:x=0
  ·simp[h0]
  ·rw[if_neg h0]
   refine .inr ⟨h0,by omega, ?_⟩
   have hx:x / 2<2 ^ f:=by rw[Nat.pow_succ] at h;omega
   rcases Zdg f (x / 2) hx with⟨h1,h2⟩|⟨h1,h2,h3,h4⟩
   ·rw[h2]
    simp only[Nat.add_zero,Nat.sub_self,Nat.pow_zero,Nat.pow_one]
    omega
   ·obtain⟨k,hk⟩:∃k,Lib.bitLenAux f (x / 2)=k+1:=⟨Lib.bitLenAux f (x / 2)-1,by omega⟩
    rw[hk] at h3 h4⊢
    simp only[Nat.add_sub_cancel] at h3
    rw[show 1+(k+1)-1=k+1 by omega,show 1+(k+1)=k+1+1 by omega]
    rw[Nat.pow_succ] at h4
    rw[Nat.pow_succ,Nat.pow_succ]
    rw[Nat.pow_succ]
    omega
theorem Zcd {x:Nat}(h:x<2 ^ 64)(h0:x≠0):1<=Lib.bitLen x/\2 ^ (Lib.bitLen x-1)<=x/\x<2 ^ Lib.bitLen x:=by
 rcases Zdg 64 x h with h1|h1
 ·exact absurd h1.1 h0
 ·exact h1.2
theorem Zmj {x:Nat}(h:x<2 ^ 64):Lib.bitLen x<=64:=by
 by_cases h0:x=0
 ·subst h0;decide
 ·have:=Zcd h h0
  rcases Nat.lt_or_ge 64 (Lib.bitLen x) with h1|h1
  ·have h2:(2:Nat) ^ 64<=2 ^ (Lib.bitLen x-1):=Nat.pow_le_pow_right (by omega) (by omega)
   omega
  ·exact h1
theorem ZnD {x:Nat}(h:x<2 ^ 64)(h0:x≠0):(mag x).size=(Lib.bitLen x+7) / 8:=by
 obtain⟨h1,h2,h3⟩:=Zcd h h0
 have p:∀k,256 ^ k=2 ^ (8*k):=fun k=>by rw[show(256:Nat)=2 ^ 8 by rfl,<-Nat.pow_mul]
 apply Nat.le_antisymm
 ·rw[Z2,p]
  exact Nat.lt_of_lt_of_le h3 (Nat.pow_le_pow_right (by omega) (by omega))
 ·rcases Nat.lt_or_ge (mag x).size ((Lib.bitLen x+7) / 8) with h4|h4
  ·have h5:x<256 ^ ((Lib.bitLen x+7) / 8-1):=Z2.1 (by omega)
   rw[p] at h5
   have h6:(2:Nat) ^ (8*((Lib.bitLen x+7) / 8-1))<=2 ^ (Lib.bitLen x-1):=Nat.pow_le_pow_right (by omega) (by omega)
   omega
  ·exact h4
end Go.Vt
namespace Go.Vt
theorem Wa {p:Prop}[Decidable p](h:decide p=true):p:=of_decide_eq_true h
theorem Wb {p:Prop}[Decidable p](h:decide p=false):¬p:=of_decide_eq_false h
theorem Wc {p:Prop}[Decidable p](h:p):decide p=true:=decide_eq_true h
theorem We {p:Prop}[Decidable p](h:¬p):decide p=false:=decide_eq_false h
theorem Wf {α:Type _}{a:α}{as bs:List α}:(a::as)++bs=a::(as++bs):=rfl
theorem Wg {α:Type _}(as:List α):[]++as=as:=rfl
theorem Wh {α:Type _}(as:List α):as++[]=as:=List.append_nil as
theorem Wi {n m k:Nat}(h:n<=m)(g:m<=k):n<=k:=Nat.le_trans h g
theorem Wj {α:Type _}(l:List α):l.Sublist l:=List.Sublist.refl l
theorem Wk {α:Type _}(l:List α):[].Sublist l:=List.nil_sublist l
theorem Wl (n:Nat):n<=n:=Nat.le_refl n
theorem Wm (n:Nat):0<=n:=Nat.zero_le n
theorem Wn {α:Type _}{i:Nat}{l:List α}(h:i<l.length):l.take (i+1)=l.take i++[l[i]]:=List.take_succ_eq_append_getElem h
theorem Wo {α:Type _}{a b:α}:a∈[b]↔a=b:=List.mem_singleton
theorem Wp {α:Type _}{as bs:List α}:(as++bs).length=as.length+bs.length:=List.length_append
theorem Wq (a b:Bool):((a&&b)=true)=(a=true/\b=true):=Bool.and_eq_true a b
theorem Ws {α β:Type _}{as:List α}(f:α->β):(as.map f).length=as.length:=List.length_map f
theorem Wt {α:Type _}{i:Nat}{l:List α}:(l.take i).length=min i l.length:=List.length_take
theorem Wu {α:Type _}{a:α}{as:List α}:(a::as).length=as.length+1:=rfl
theorem Wv {α:Type _}{a:α}{s t:List α}:a∈s++t↔a∈s\/a∈t:=List.mem_append
theorem Ww {α:Type _}{a b:α}{l:List α}:a∈b::l↔a=b\/a∈l:=List.mem_cons
theorem Wx {α:Type _}:([]:List α).length=0:=rfl
open Go.RowKit
structure Ext (w w':World):Prop where
 bel:Below w.heap.size w w'
 dr:w.drawn<=w'.drawn
theorem Ext.size {w w':World}(h:Ext w w'):w.heap.size<=w'.heap.size:=h.bel.size
theorem Ext.block {w w':World}(h:Ext w w'):∀k,k<w.heap.size->w'.heap[k]? =w.heap[k]? :=h.bel.block
theorem Ext.refl (w:World):Ext w w:=⟨Below.refl _ _,Wl _⟩
theorem Ext.tr {a b c:World}(h:Ext a b)(k:Ext b c):Ext a c:=⟨h.bel.trans (k.bel.mono h.size),Wi h.dr k.dr⟩
theorem Ext.alloc (w:World)(o:Obj):Ext w (w.alloc o):=⟨(Below.refl _ _).alloc (Wl _) o,Wl _⟩
theorem Ext.drew (w:World):Ext w w.drew:=⟨(Below.refl _ _).drew,Nat.le_succ _⟩
abbrev Env :=List (Nat×Value)
def Env.find :Env->Nat->Option Value
 |[],_=>none
 |(k,v)::E,n=>cond (Nat.beq k n) (some v) (Env.find E n)
def Env.ev (E:Env):Operand->Option Value
 | .tmp t=>Env.find E t
 | .const v=>some v
 | .global g=>some (.pointer (some ⟨g,0,none⟩))
 | .func f=>some (.func (.func f) #[] #[])
def Env.put (E:Env)(d:Option Tmp)(v:Value):Env:=
 match d with
 |some d=>(d,v)::E
 |none=>E
structure Rep (n:Nat)(E:Env)(a:Act):Prop where
 size:a.tmps.size=n
 defers:a.defers=[]
 val:∀k v,Env.find E k=some v->a.tmps[k]? =some v
theorem Rep.ev {n:Nat}{E:Env}{a:Act}(h:Rep n E a){x:Operand}{v:Value}(hx:Env.ev E x=some v):a.eval x=v:=by
 cases x with
 |tmp t=>
  have:=h.val t v hx
  simp[Act.eval,this]
 |const u=>simpa [Env.ev,Act.eval] using hx
 |global g=>simpa [Env.ev,Act.eval] using hx
 |func f=>simpa [Env.ev,Act.eval] using hx
def dstOk (n:Nat)(d:Option Tmp):Bool:=
 match d with
 |some d=>Nat.blt d n
 |none=>true
theorem Rep.put {n:Nat}{E:Env}{a:Act}(h:Rep n E a)(d:Option Tmp)(v:Value)(hd:dstOk n d=true):Rep n (Env.put E d v) (a.put d v):=by
 cases d with
 |none=>exact h
 |some d=>
  refine⟨by simpa [Act.put] using h.size,by simpa [Act.put] using h.defers,fun k u hk=>?_⟩
  have hlt:d<a.tmps.size:=by rw[h.size];simpa [dstOk,Nat.blt_eq] using hd
  by_cases hdk:d=k
  ·subst hdk
   simp only[Env.put,Env.find,Nat.beq_refl,cond_true,Option.some.injEq] at hk
   subst hk
   simp[Act.put,hlt]
  ·have hb:Nat.beq d k=false:=by
    cases hq:Nat.beq d k with
    |false=>rfl
    |true=>exact absurd (Nat.eq_of_beq_eq_true hq) hdk
   simp only[Env.put,Env.find,hb,cond_false] at hk
   simp only[Act.put,Array.getElem?_setIfInBounds_ne hdk]
   exact h.val k u hk
def Sub (E F:Env):Prop:=∀k v,Env.find F k=some v->Env.find E k=some v
theorem Zz {E:Env}:Sub E []:=fun k v h=>by simp[Env.find] at h
theorem Zu {E F:Env}{k:Nat}{v:Value}(h:Env.find E k=some v)(hs:Sub E F):Sub E ((k,v)::F):=by
 intro j u hj
 by_cases hjk:k=j
 ·subst hjk
  simp only[Env.find,Nat.beq_refl,cond_true,Option.some.injEq] at hj
  subst hj
  exact h
 ·have hb:Nat.beq k j=false:=by
   cases hq:Nat.beq k j with
   |false=>rfl
   |true=>exact absurd (Nat.eq_of_beq_eq_true hq) hjk
  simp only[Env.find,hb,cond_false] at hj
  exact hs j u hj
theorem ZmX {E F:Env}{k:Nat}{v v':Value}(h:Env.find E k=some v')(hv:v'=v)(hs:Sub E F):Sub E ((k,v)::F):=Zu (hv▸h) hs
theorem Rep.sub {n:Nat}{E F:Env}{a:Act}(h:Rep n E a)(hs:Sub E F):Rep n F a:=⟨h.size,h.defers,fun k v hk=>h.val k v (hs k v hk)⟩
inductive Cs where
 |cells (a:Array Value)
 |obj (o:Obj)
instance : Coe (Array Value) Cs:=⟨Cs.cells⟩
structure Blk where
 b:Nat
 cs:Cs
 T:TypeId
@[reducible] def Blk.obj (e : Blk) : Obj := match e with
 |⟨_, .cells a,T⟩=> .cells a T (0,0)
 |⟨_, .obj o,_⟩=>o
theorem sbB {E F:Env}(h:Sub E F:=by repeat(first|exact Zz|refine Zu rfl ?_|refine ZmX rfl (by congr 1;omega) ?_)):Sub E F:=h
theorem slB {A B:List Blk}(h:A.Sublist B:=by repeat(first|exact Wj _|exact Wk _|refine List.Sublist.cons_cons _ ?_|refine List.Sublist.cons _ ?_)):A.Sublist B:=h
theorem suB {A B:List Blk}(h:A.Sublist B:=by repeat(first|exact Wj _|exact Wk _|exact List.sublist_append_left _ _|refine List.Sublist.append_left ?_ _|refine List.Sublist.cons_cons _ ?_|refine List.Sublist.cons _ ?_|refine List.Sublist.trans ?_ (List.sublist_append_right _ _))):A.Sublist B:=h
structure Own (w0:World)(L:List Blk)(w:World):Prop where
 ext:Ext w0 w
 mem:∀e∈L,w0.heap.size<=e.b/\w.heap[e.b]? =some e.obj
 nd:(L.map (·.b)).Nodup
theorem Own.start (w:World):Own w [] w:=⟨Ext.refl _,fun _ h=>by simp at h,by simp⟩
theorem Zae {w:World}{b:Nat}{o:Obj}(h:w.heap[b]? =some o):b<w.heap.size:=by
 rcases Nat.lt_or_ge b w.heap.size with h'|h'
 ·exact h'
 ·simp[Array.getElem?_eq_none h'] at h
theorem Own.lt {w0 w:World}{L:List Blk}(h:Own w0 L w){e:Blk}(he:e∈L):e.b<w.heap.size:=Zae (h.mem e he).2
theorem Own.to {w0 w w':World}{L:List Blk}(h:Own w0 L w)(k:Ext w w'):Own w0 L w':=
 ⟨h.ext.tr k,fun e he=>⟨(h.mem e he).1,by rw[k.block _ (h.lt he)];exact(h.mem e he).2⟩,h.nd⟩
theorem Own.sub {w0 w:World}{L M:List Blk}(h:Own w0 L w)(hs:M.Sublist L):Own w0 M w:=
 ⟨h.ext,fun e he=>h.mem e (hs.subset he),h.nd.sublist (hs.map _)⟩
theorem Own.more {w0 w w':World}{L:List Blk}(h:Own w0 L w)(k:Ext w w'){e:Blk}(hb:w.heap.size<=e.b)(hc:w'.heap[e.b]? =some e.obj):Own w0 (e::L) w':=by
 have h':=h.to k
 refine⟨h'.ext,fun x hx=>?_, ?_⟩
 ·rcases List.mem_cons.1 hx with rfl|hx
  ·exact⟨Wi h.ext.size hb,hc⟩
  ·exact h'.mem x hx
 ·simp only[List.map_cons,List.nodup_cons]
  refine⟨fun hm=>?_,h.nd⟩
  obtain⟨y,hy,hyb⟩:=List.mem_map.1 hm
  have:=h.lt hy
  omega
theorem Own.alloc {w0 w:World}{L:List Blk}(h:Own w0 L w)(cs:Array Value)(T:TypeId):Own w0 (⟨w.heap.size,cs,T⟩::L) (w.alloc (.cells cs T)):=
 h.more (e:=⟨w.heap.size,cs,T⟩) (Ext.alloc _ _) (Wl _) (heap_alloc_new _ _)
inductive Upd (b:Nat)(cs:Cs)(T:TypeId)(cs':Cs):List Blk->List Blk->Prop where
 |here {L:List Blk}:Upd b cs T cs' (⟨b,cs,T⟩::L) (⟨b,cs',T⟩::L)
 |there {e:Blk} {L L':List Blk}:Upd b cs T cs' L L'->Upd b cs T cs' (e::L) (e::L')
theorem Upd.mem {b:Nat}{cs cs':Cs}{T:TypeId}{L L':List Blk}(h:Upd b cs T cs' L L'):(⟨b,cs,T⟩:Blk)∈L:=by
 induction h with
 |here=>exact .head _
 |there _ ih=>exact .tail _ ih
theorem Upd.mem' {b:Nat}{cs cs':Cs}{T:TypeId}{L L':List Blk}(h:Upd b cs T cs' L L')(hn:(L.map (·.b)).Nodup):∀e∈L',e=⟨b,cs',T⟩\/(e∈L/\e.b≠b):=by
 induction h with
 |here=>
  intro e he
  rcases List.mem_cons.1 he with rfl|he
  ·exact .inl rfl
  ·refine .inr ⟨.tail _ he,fun hb=>?_⟩
   simp only[List.map_cons,List.nodup_cons] at hn
   exact hn.1 (List.mem_map.2 ⟨e,he,hb⟩)
 |there h ih=>
  intro e he
  simp only[List.map_cons,List.nodup_cons] at hn
  rcases List.mem_cons.1 he with rfl|he
  ·refine .inr ⟨.head _,fun hb=>?_⟩
   exact hn.1 (List.mem_map.2 ⟨_,h.mem,hb.symm⟩)
  ·rcases ih hn.2 e he with h1|h1
   ·exact .inl h1
   ·exact .inr ⟨.tail _ h1.1,h1.2⟩
theorem Upd.map {b:Nat}{cs cs':Cs}{T:TypeId}{L L':List Blk}(h:Upd b cs T cs' L L'):L'.map (·.b)=L.map (·.b):=by
 induction h with
 |here=>rfl
 |there _ ih=>simp only[List.map_cons,ih]
structure TurnedO (b:Nat)(o:Obj)(w w':World):Prop where
 os:w'.os=w.os
 tape:w'.tape=w.tape
 output:w'.output=w.output
 size:w'.heap.size=w.heap.size
 dr:w'.drawn=w.drawn
 block:∀k,k≠b->w'.heap[k]? =w.heap[k]?
 here:w'.heap[b]? =some o
abbrev Turned (b:Nat)(cs':Array Value)(T:TypeId)(w w':World):Prop:=TurnedO b (.cells cs' T (0,0)) w w'
theorem Own.turnO {w0 w w':World}{L L':List Blk}{b:Nat}{cs cs':Cs}{T:TypeId}(h:Own w0 L w)(hu:Upd b cs T cs' L L')(ht:TurnedO b (Blk.obj ⟨b,cs',T⟩) w w'):Own w0 L' w':=by
 have hb:=(h.mem _ hu.mem).1
 refine⟨⟨h.ext.bel.trans ⟨ht.os,ht.tape,ht.output,by rw[ht.size];exact Wl _,fun k hk=>ht.block k (by simp at hb;omega)⟩,by rw[ht.dr];exact h.ext.dr⟩,fun e he=>?_,by rw[hu.map];exact h.nd⟩
 rcases hu.mem' h.nd e he with rfl|⟨h1,h2⟩
 ·exact⟨hb,ht.here⟩
 ·exact⟨(h.mem e h1).1,by rw[ht.block _ h2];exact(h.mem e h1).2⟩
theorem Own.turn {w0 w w':World}{L L':List Blk}{b:Nat}{cs cs':Array Value}{T:TypeId}(h:Own w0 L w)(hu:Upd b cs T cs' L L')(ht:Turned b cs' T w w'):Own w0 L' w':=h.turnO hu ht
section
variable {P : Program} {w0 : World} {n : Nat} {ops : Array Oper} {L : List Blk} {E : Env}
def calmUpon (P:Program)(w:World)(v:Value):Result Next->Prop
 | .ok (.value u) w'=>u=v/\Ext w w'
 | .ok .skip w'=>v=undef/\Ext w w'
 | .ok (.enter f args) w'=>w'=w/\Calls P f args w (fun e w''=>e= .returned v/\Ext w w'')
 |_=>False
def calm (P:Program)(o:Oper)(a:Act)(w:World)(v:Value):Prop:=calmUpon P w v ((execOp a.eval o).run P w)
structure Yl (P:Program)(w0:World)(n:Nat)(L:List Blk)(E:Env)(o:Oper)(v:Value):Prop where
 out:∀a w,Rep n E a->Own w0 L w->calm P o a w v
theorem Zcv {o:Oper}{a:Act}{w:World}{v:Value}{K:Act->World->Prop}{Q:Exit->Act->World->Prop}(hc:calm P o a w v)
  (h:∀w',Ext w w'->K (a.put o.dst v) w'):o.wp P a w K Q:=by
 unfold calm at hc
 unfold Oper.wp
 generalize (execOp a.eval o).run P w=r at*
 cases r with
 |ok x w'=>
  cases x <;> simp only[calmUpon] at hc <;> simp only[Oper.upon]
  case value u=>obtain⟨rfl,hx⟩:=hc;exact h _ hx
  case skip=>obtain⟨rfl,hx⟩:=hc;exact h _ hx
  case enter f args=>
   obtain⟨rfl,hx⟩:=hc
   exact hx.mono fun e w'' ⟨he,hw⟩=>by subst he;exact h _ hw
 |halt x w'=>simp only[calmUpon] at hc
def guardB (ops:Array Oper)(E:Env):Option (Nat×Bool)->Option Bool
 |none=>some true
 |some (j,want)=>
  match(ops[j]?).bind (·.dst) with
  |some t=>match Env.find E t with
   |some (.bool b)=>some (b==want)
   |some (.tuple _)=>some false
   |_=>none
  |none=>none
theorem ZaO {a:Act}{o:Oper}{b:Bool}(ha:Rep n E a)(h:guardB ops E o.guard=some b):Region.wanted o (yielded ops a.tmps)=b:=by
 unfold Region.wanted
 cases hg:o.guard with
 |none=>simp only[hg,guardB,Option.some.injEq] at h;exact h
 |some jw=>
  obtain⟨j,want⟩:=jw
  simp only[hg,guardB] at h
  unfold yielded
  split at h
  ·rename_i t ht
   split at h
   ·rename_i c hc
    have:=ha.val t _ hc
    simp only[Option.some.injEq] at h
    subst h
    simp[ht,this]
   ·rename_i c hc
    have:=ha.val t _ hc
    simp only[Option.some.injEq] at h
    subst h
    simp[ht,this]
   ·cases h
  ·cases h
structure JO (P:Program)(w0:World)(n:Nat)(ops:Array Oper)(Q:Exit->Act->World->Prop)(l:List Oper)(E:Env)(L:List Blk):Prop where
 out:∀a w,Rep n E a->Own w0 L w->wpList P ops Q l a w
structure J (P:Program)(w0:World)(n:Nat)(c:Code)(Q:Exit->Act->World->Prop)(E:Env)(L:List Blk):Prop where
 out:∀a w,Rep n E a->Own w0 L w->c.wp P Q a w
structure JX (w0:World)(n:Nat)(e:Exit)(Q:Exit->Act->World->Prop)(E:Env)(L:List Blk):Prop where
 out:∀a w,Rep n E a->Own w0 L w->Q e a w
variable {Q : Exit -> Act -> World -> Prop} {o : Oper} {rest : List Oper} {v : Value}
theorem ZsJ (h:JX w0 n .normal Q E L):JO P w0 n ops Q [] E L:=⟨fun a w ha hw=>wpList_nil (h.out a w ha hw)⟩
theorem Zyp (hy:Yl P w0 n L E o v)(hg:guardB ops E o.guard=some true)(hd:dstOk n o.dst=true)(h:JO P w0 n ops Q rest (Env.put E o.dst v) L):JO P w0 n ops Q (o::rest) E L:=by
 refine⟨fun a w ha hw=>?_⟩
 refine wpList_step fun K hK=>?_
 rw[if_pos (ZaO ha hg)]
 exact Zcv (hy.out a w ha hw) fun w' hx=>hK _ _ (h.out _ _ (ha.put _ _ hd) (hw.to hx))
theorem Zqq (hg:guardB ops E o.guard=some false)(hd:dstOk n o.dst=true)(h:JO P w0 n ops Q rest (Env.put E o.dst undef) L):JO P w0 n ops Q (o::rest) E L:=by
 refine⟨fun a w ha hw=>?_⟩
 refine wpList_step fun K hK=>?_
 rw[if_neg (by rw[ZaO ha hg];simp)]
 exact hK _ _ (h.out _ _ (ha.put _ _ hd) hw)
theorem Zc9 {L':Type}(hg:guardB ops E o.guard=some true)(hd:dstOk n o.dst=true)(val:L'->Value)(mem:L'->List Blk)
  (hy:∀a w,Rep n E a->Own w0 L w->∃s w',((execOp a.eval o).run P w= .ok (.value (val s)) w'\/((execOp a.eval o).run P w= .ok .skip w'/\val s=undef))/\Own w0 (mem s) w')
  (h:∀s,JO P w0 n ops Q rest (Env.put E o.dst (val s)) (mem s)):JO P w0 n ops Q (o::rest) E L:=by
 refine⟨fun a w ha hw=>?_⟩
 refine wpList_step fun K hK=>?_
 rw[if_pos (ZaO ha hg)]
 obtain⟨s,w',hr,hw'⟩:=hy a w ha hw
 unfold Oper.wp
 rcases hr with hr|⟨hr,hs⟩
 ·rw[hr]
  exact hK _ _ ((h s).out _ _ (ha.put _ _ hd) hw')
 ·rw[hr]
  have:=(h s).out _ _ (ha.put _ _ hd) hw'
  rw[hs] at this
  exact hK _ _ this
theorem Zht {S:Type}{f:FuncId}{args:Array Value}(hg:guardB ops E o.guard=some true)(hd:dstOk n o.dst=true)(val:S->Value)(mem:S->List Blk)
  (hr:∀a w,Rep n E a->(execOp a.eval o).run P w= .ok (.enter f args) w)
  (hc:∀w,Own w0 L w->Calls P f args w fun e w'=>∃s,e= .returned (val s)/\Own w0 (mem s) w')
  (h:∀s,JO P w0 n ops Q rest (Env.put E o.dst (val s)) (mem s)):JO P w0 n ops Q (o::rest) E L:=by
 refine⟨fun a w ha hw=>?_⟩
 refine wpList_step fun K hK=>?_
 rw[if_pos (ZaO ha hg)]
 unfold Oper.wp
 rw[hr a w ha]
 exact(hc w hw).mono fun e w' ⟨s,he,hw'⟩=>by subst he;exact hK _ _ ((h s).out _ _ (ha.put _ _ hd) hw')
def Then (P:Program)(c:Code)(Q:Exit->Act->World->Prop):Exit->Act->World->Prop:=Exit.then (c.wp P Q) Q
theorem ZdQ {l:List Oper}{id:Nat}(h:JO P w0 n l.toArray Q l E L):J P w0 n (.region id l.toArray false) Q E L:=⟨fun a w ha hw=>wp_region_lit (h.out a w ha hw)⟩
theorem Zc2 {x y:Code}(h:J P w0 n x (Then P y Q) E L):J P w0 n (.seq x y) Q E L:=⟨fun a w ha hw=>wp_seq (h.out a w ha hw)⟩
theorem ZrU (h:JX w0 n .normal Q E L):J P w0 n .skip Q E L:=⟨fun a w ha hw=>wp_skip (h.out a w ha hw)⟩
theorem ZuX (h:JX w0 n .ret Q E L):J P w0 n .ret Q E L:=⟨fun a w ha hw=>wp_ret (h.out a w ha hw)⟩
theorem ZrE {id:Nat}(h:JX w0 n (.exit id) Q E L):J P w0 n (.exit id) Q E L:=⟨fun a w ha hw=>wp_exit (h.out a w ha hw)⟩
theorem Zqe {id:Nat}{c:Code}(h:J P w0 n c (Exit.inBlock id Q) E L):J P w0 n (.block id c) Q E L:=⟨fun a w ha hw=>wp_block (h.out a w ha hw)⟩
theorem Zk {c:Operand}{x y:Code}{t:Bool}(hc:Env.ev E c=some (.bool t))(ht:t=true->J P w0 n x Q E L)(hf:t=false->J P w0 n y Q E L):J P w0 n (.cond c x y) Q E L:=⟨fun a w ha hw=>by
 cases t with
 |true=>exact wp_cond_true (ha.ev hc) ((ht rfl).out a w ha hw)
 |false=>exact wp_cond_false (ha.ev hc) ((hf rfl).out a w ha hw)⟩
theorem Zit {c:Operand}{x y:Code}(hc:Env.ev E c=some (.bool true))(h:J P w0 n x Q E L):J P w0 n (.cond c x y) Q E L:=⟨fun a w ha hw=>wp_cond_true (ha.ev hc) (h.out a w ha hw)⟩
theorem Zdr {c:Operand}{x y:Code}(hc:Env.ev E c=some (.bool false))(h:J P w0 n y Q E L):J P w0 n (.cond c x y) Q E L:=⟨fun a w ha hw=>wp_cond_false (ha.ev hc) (h.out a w ha hw)⟩
theorem Zi9 {y:Code}(h:J P w0 n y Q E L):JX w0 n .normal (Then P y Q) E L:=⟨h.out⟩
theorem Zi4 {y:Code}(h:JX w0 n .ret Q E L):JX w0 n .ret (Then P y Q) E L:=⟨h.out⟩
theorem Zg5 {y:Code}{id:Nat}(h:JX w0 n (.exit id) Q E L):JX w0 n (.exit id) (Then P y Q) E L:=⟨h.out⟩
theorem ZoU {id:Nat}(h:JX w0 n .normal Q E L):JX w0 n .normal (Exit.inBlock id Q) E L:=⟨h.out⟩
theorem ZhQ {id:Nat}(h:JX w0 n .ret Q E L):JX w0 n .ret (Exit.inBlock id Q) E L:=⟨h.out⟩
theorem ZgN {id:Nat}(h:JX w0 n .normal Q E L):JX w0 n (.exit id) (Exit.inBlock id Q) E L:=⟨fun a w ha hw=>by
 simp only[Exit.inBlock,if_true]
 exact h.out a w ha hw⟩
theorem ZgP {id j:Nat}(hj:Nat.beq j id=false)(h:JX w0 n (.exit j) Q E L):JX w0 n (.exit j) (Exit.inBlock id Q) E L:=⟨fun a w ha hw=>by
 have:¬j=id:=fun e=>by subst e;simp at hj
 simp only[Exit.inBlock,if_neg this]
 exact h.out a w ha hw⟩
def MidQ {S:Type}(w0:World)(n:Nat)(I:S->Prop)(Es:S->Env)(Ls:S->List Blk)(K:Act->World->Prop)(Q:Exit->Act->World->Prop):Exit->Act->World->Prop
 | .normal,a,w=>(∃s,I s/\Rep n (Es s) a/\Own w0 (Ls s) w)/\K a w
 |e,a,w=>Q e a w
theorem Zfi {S:Type}(I:S->Prop)(Es:S->Env)(Ls:S->List Blk){x y:Code}(h1:J P w0 n x (MidQ w0 n I Es Ls (fun _ _=>True) Q) E L)(h2:∀s,I s->J P w0 n y Q (Es s) (Ls s)):J P w0 n (.seq x y) Q E L:=⟨fun a w ha hw=>by
 refine wp_seq (wp_mono (h1.out a w ha hw) fun e a' w' hq=>?_)
 cases e with
 |normal=>obtain⟨⟨s,hs,hr,ho⟩,_⟩:=hq;exact(h2 s hs).out a' w' hr ho
 |_=>exact hq⟩
theorem Zj {S:Type}{I:S->Prop}{Es:S->Env}{Ls:S->List Blk}(s:S)(hs:I s)(hE:Sub E (Es s))(hL:(Ls s).Sublist L):JX w0 n .normal (MidQ w0 n I Es Ls (fun _ _=>True) Q) E L:=
 ⟨fun _ _ ha hw=>⟨⟨s,hs,ha.sub hE,hw.sub hL⟩,trivial⟩⟩
theorem ZY {S:Type}(I:S->Prop)(Es:S->Env)(Ls:S->List Blk){x y:Code}(h1:J P w0 n x (MidQ w0 n I Es Ls (fun _ _=>True) Q) E L)(h2:∀s,I s->J P w0 n y Q (Es s) (Ls s)):J P w0 n x (Then P y Q) E L:=⟨fun a w ha hw=>by
 refine wp_mono (h1.out a w ha hw) fun e a' w' hq=>?_
 cases e with
 |normal=>obtain⟨⟨s,hs,hr,ho⟩,_⟩:=hq;exact(h2 s hs).out a' w' hr ho
 |_=>exact hq⟩
theorem ZkK {S:Type}{I:S->Prop}{Es:S->Env}{Ls:S->List Blk}{K:Act->World->Prop}(h:JX w0 n .ret Q E L):JX w0 n .ret (MidQ w0 n I Es Ls K Q) E L:=⟨h.out⟩
theorem ZiO {S:Type}{I:S->Prop}{Es:S->Env}{Ls:S->List Blk}{K:Act->World->Prop}{id:Nat}(h:JX w0 n (.exit id) Q E L):JX w0 n (.exit id) (MidQ w0 n I Es Ls K Q) E L:=⟨h.out⟩
theorem least (p:Nat->Prop):∀m,p m->∃k,p k/\∀j,p j->k<=j:=by
 intro m
 induction m using Nat.strongRecOn with
 |_ m ih=>
  intro hm
  by_cases h:∃j,j<m/\p j
  ·obtain⟨j,hj,hp⟩:=h
   exact ih j hj hp
  ·refine⟨m,hm,fun j hp=>?_⟩
   rcases Nat.lt_or_ge j m with hj|hj
   ·exact absurd ⟨j,hj,hp⟩ h
   ·exact hj
def LoopQ {S:Type}(w0:World)(n:Nat)(I:S->Prop)(Es:S->Env)(Ls:S->List Blk)(mu:S->Nat)(s:S)(Q:Exit->Act->World->Prop):Exit->Act->World->Prop
 | .normal,a,w=>∃t,I t/\Rep n (Es t) a/\Own w0 (Ls t) w/\mu t<mu s
 |e,a,w=>Q e a w
theorem Zq {S:Type}(I:S->Prop)(Es:S->Env)(Ls:S->List Blk)(mu:S->Nat)(s0:S){c:Code}(h0:I s0)(hE:Sub E (Es s0))(hL:(Ls s0).Sublist L)
  (round:∀s,I s->J P w0 n c (LoopQ w0 n I Es Ls mu s Q) (Es s) (Ls s)):J P w0 n (.loop c) Q E L:=by
 refine⟨fun a w ha hw=>?_⟩
 have hmin:∀(a:Act)(w:World),(∃s,I s/\Rep n (Es s) a/\Own w0 (Ls s) w)->∃s,(I s/\Rep n (Es s) a/\Own w0 (Ls s) w)/\∀t,(I t/\Rep n (Es t) a/\Own w0 (Ls t) w)->mu s<=mu t:=by
  intro a w ⟨s,hs⟩
  obtain⟨k,⟨t,ht,hk⟩,hm⟩:=least (fun k=>∃t,(I t/\Rep n (Es t) a/\Own w0 (Ls t) w)/\mu t=k) (mu s) ⟨s,hs,rfl⟩
  exact⟨t,ht,fun t' ht'=>by rw[hk];exact hm _ ⟨t',ht',rfl⟩⟩
 classical
 let pick:Act->World->Nat:=fun a w=>if h:∃s,I s/\Rep n (Es s) a/\Own w0 (Ls s) w then mu (Classical.choose (hmin a w h)) else 0
 refine wp_loop (fun a w=>∃s,I s/\Rep n (Es s) a/\Own w0 (Ls s) w) pick ⟨s0,h0,ha.sub hE,hw.sub hL⟩ fun a' w' hI=>?_
 have hsp:=Classical.choose_spec (hmin a' w' hI)
 have hr:=(round _ hsp.1.1).out a' w' hsp.1.2.1 hsp.1.2.2
 refine wp_mono hr fun e a2 w2 hq=>?_
 cases e with
 |normal=>
  obtain⟨t,ht,hr2,ho2,hlt⟩:=hq
  refine⟨⟨t,ht,hr2,ho2⟩, ?_⟩
  have hex:∃s,I s/\Rep n (Es s) a2/\Own w0 (Ls s) w2:=⟨t,ht,hr2,ho2⟩
  have h2:=(Classical.choose_spec (hmin a2 w2 hex)).2 t ⟨ht,hr2,ho2⟩
  simp only[pick,dif_pos hex,dif_pos hI]
  omega
 |_=>exact hq
theorem Zg {S:Type}{I:S->Prop}{Es:S->Env}{Ls:S->List Blk}{mu:S->Nat}{s:S}(t:S)(ht:I t)(hE:Sub E (Es t))(hL:(Ls t).Sublist L)(hmu:mu t<mu s):JX w0 n .normal (LoopQ w0 n I Es Ls mu s Q) E L:=
 ⟨fun _ _ ha hw=>⟨t,ht,ha.sub hE,hw.sub hL,hmu⟩⟩
theorem ZiS {S:Type}{I:S->Prop}{Es:S->Env}{Ls:S->List Blk}{mu:S->Nat}{s:S}(h:JX w0 n .ret Q E L):JX w0 n .ret (LoopQ w0 n I Es Ls mu s Q) E L:=⟨h.out⟩
theorem Zg2 {S:Type}{I:S->Prop}{Es:S->Env}{Ls:S->List Blk}{mu:S->Nat}{s:S}{id:Nat}(h:JX w0 n (.exit id) Q E L):JX w0 n (.exit id) (LoopQ w0 n I Es Ls mu s Q) E L:=⟨h.out⟩
theorem Own.perm {w0 w:World}{L M:List Blk}(h:Own w0 L w)(hp:L.Perm M):Own w0 M w:=
 ⟨h.ext,fun e he=>h.mem e (hp.mem_iff.2 he),(hp.map _).nodup_iff.1 h.nd⟩
theorem Zqp {e:Exit}{M:List Blk}(hp:L.Perm M)(h:JX w0 n e Q E M):JX w0 n e Q E L:=⟨fun a w ha hw=>h.out a w ha (hw.perm hp)⟩
def envOf (k:Nat):List Value->Env
 |[]=>[]
 |v::l=>(k,v)::envOf (k+1) l
theorem ZdH (l:List Value):∀k j v,Env.find (envOf k l) j=some v->k<=j/\l[j-k]? =some v:=by
 induction l with
 |nil=>intro k j v h;simp[envOf,Env.find] at h
 |cons x l ih=>
  intro k j v h
  by_cases hkj:k=j
  ·subst hkj
   simp only[envOf,Env.find,Nat.beq_refl,cond_true,Option.some.injEq] at h
   exact⟨Wl _,by simp[h]⟩
  ·have hb:Nat.beq k j=false:=by
    cases hq:Nat.beq k j with
    |false=>rfl
    |true=>exact absurd (Nat.eq_of_beq_eq_true hq) hkj
   simp only[envOf,Env.find,hb,cond_false] at h
   obtain⟨h1,h2⟩:=ih _ _ _ h
   refine⟨by omega, ?_⟩
   rw[show j-k=(j-(k+1))+1 by omega]
   simpa using h2
class EnvC (l:List Value)(E:outParam Env):Prop where out:envOf 0 l=E
instance envC0 :EnvC [] []:=⟨rfl⟩
instance envC1 (v0:Value):EnvC [v0] [(0,v0)]:=⟨rfl⟩
instance envC2 (v0 v1:Value):EnvC [v0,v1] [(0,v0),(1,v1)]:=⟨rfl⟩
instance envC3 (v0 v1 v2:Value):EnvC [v0,v1,v2] [(0,v0),(1,v1),(2,v2)]:=⟨rfl⟩
instance envC4 (v0 v1 v2 v3:Value):EnvC [v0,v1,v2,v3] [(0,v0),(1,v1),(2,v2),(3,v3)]:=⟨rfl⟩
instance envC5 (v0 v1 v2 v3 v4:Value):EnvC [v0,v1,v2,v3,v4] [(0,v0),(1,v1),(2,v2),(3,v3),(4,v4)]:=⟨rfl⟩
theorem Zb {f:FuncId}{fn:Func}{c:Code}{l:List Value}{w:World}{R:Ending->World->Prop}(hf:P.funcs[f]? =some fn)(hb:fn.body=some c)(hn:fn.ntmps=n)(hl:Nat.ble l.length n=true)[hE:EnvC l E]
  (h:J P w n c (bodyPost P fn R) E []):Calls P f l.toArray w R:=by
 rw[<-hE.out] at h
 have hl':l.length<=n:=Nat.le_of_ble_eq_true hl
 refine calls_of_wp hf hb (h.out _ _ ⟨by simp[hn];omega,rfl,fun k v hk=>?_⟩ (Own.start w))
 obtain⟨_,h2⟩:=ZdH l 0 k v hk
 have hlt:k<l.length:=by
  rcases Nat.lt_or_ge k l.length with h'|h'
  ·exact h'
  ·simp[List.getElem?_eq_none h'] at h2
 simp only[Nat.sub_zero] at h2
 rw[Array.getElem?_append_left (by simpa using hlt)]
 simpa using h2
def Ret (v:Value)(w:World)(e:Ending)(w':World):Prop:=e= .returned v/\Ext w w'
theorem Zd7 {fn:Func}{R:Ending->World->Prop}(hr:∀a w,Rep n E a->Own w0 L w->(results fn a.tmps).run P w= .ok v w)(h:∀w,Own w0 L w->R (.returned v) w):JX w0 n .ret (bodyPost P fn R) E L:=
 ⟨fun a w ha hw=>⟨ha.defers,v,hr a w ha hw,h w hw⟩⟩
theorem Zr4 {fn:Func}{R:Ending->World->Prop}(hr:∀a w,Rep n E a->Own w0 L w->(results fn a.tmps).run P w= .ok v w)(h:∀w,Own w0 L w->R (.returned v) w):JX w0 n .normal (bodyPost P fn R) E L:=
 ⟨fun a w ha hw=>⟨ha.defers,v,hr a w ha hw,h w hw⟩⟩
end
end Go.Vt
namespace Go.Vt
open Go.RowKit
section
variable {P : Program} {w0 : World} {n : Nat} {ops : Array Oper} {L : List Blk} {E : Env}
variable {Q : Exit -> Act -> World -> Prop} {rest : List Oper} {v : Value}
variable {d : Option Tmp} {ty : TypeId} {pos : String} {aft : Array Edge} {gd : Option (Nat × Bool)}
theorem Znu {o:Oper}{a:Act}{w w':World}{s:Sem Value}(he:execOp a.eval o=(do pure (.value (<-s))))(hr:s.run P w= .ok v w')(hx:Ext w w'):calm P o a w v:=by
 unfold calm
 rw[he,Sem.run_bind,hr]
 exact⟨rfl,hx⟩
theorem Z4 {o:Oper}(s:Act->Sem Value)(he:∀a,Rep n E a->execOp a.eval o=(do pure (.value (<-s a))))(hr:∀a w,Rep n E a->Own w0 L w->(s a).run P w= .ok v w):Yl P w0 n L E o v:=
 ⟨fun a w ha hw=>Znu (he a ha) (hr a w ha hw) (Ext.refl _)⟩
theorem Zek {x:Operand}(hx:Env.ev E x=some v):Yl P w0 n L E ⟨d, .move x,ty,pos,aft,gd⟩ v:=⟨fun a w ha _=>by
 unfold calm
 simp only[execOp,ha.ev hx,Sem.run_pure]
 exact⟨rfl,Ext.refl _⟩⟩
theorem Zl2 {x:Operand}(hx:Env.ev E x=some v):Yl P w0 n L E ⟨d, .assign x,ty,pos,aft,gd⟩ v:=⟨fun a w ha _=>by
 unfold calm
 simp only[execOp,ha.ev hx,Sem.run_pure]
 exact⟨rfl,Ext.refl _⟩⟩
theorem ZkN {x:Operand}{vs:Array Value}{i:Nat}(hx:Env.ev E x=some (.tuple vs))(hi:vs[i]? =some v):Yl P w0 n L E ⟨d, .extract x i,ty,pos,aft,gd⟩ v:=
 Z4 (fun _=>Instr.extract (.tuple vs) i) (fun a ha=>by simp only[execOp,ha.ev hx]) (fun a w _ _=>by simp[Instr.extract,hi])
theorem Zdt {op:BinOp}{T T':TypeId}{x y:Operand}{vx vy:Value}(hx:Env.ev E x=some vx)(hy:Env.ev E y=some vy)(hg:∀w,(eqGuard op T x y vx vy).run P w= .ok () w)(hr:∀w,(binOp op T vx vy).run P w= .ok v w):Yl P w0 n L E ⟨d, .binOp op T x y T',ty,pos,aft,gd⟩ v:=
 Z4 (fun _=>do eqGuard op T x y vx vy;binOp op T vx vy) (fun a ha=>by simp only[execOp,ha.ev hx,ha.ev hy]) (fun a w _ _=>by rw[Sem.run_bind,hg];exact hr w)
theorem Zuh {op:UnOp}{T:TypeId}{x:Operand}{vx:Value}(hx:Env.ev E x=some vx)(hr:∀w,(Op.unary op vx).run P w= .ok v w):Yl P w0 n L E ⟨d, .unOp op T x,ty,pos,aft,gd⟩ v:=
 Z4 (fun _=>Op.unary op vx) (fun a ha=>by simp only[execOp,ha.ev hx]) (fun a w _ _=>hr w)
theorem Zdf {S T:TypeId}{x:Operand}{vx:Value}(hx:Env.ev E x=some vx)(hr:∀w,(convert S T vx).run P w= .ok v w):Yl P w0 n L E ⟨d, .convert S T x,ty,pos,aft,gd⟩ v:=
 Z4 (fun _=>convert S T vx) (fun a ha=>by simp only[execOp,ha.ev hx]) (fun a w _ _=>hr w)
theorem ZnX {T:TypeId}{x:Operand}{f:Nat}{vx:Value}(hx:Env.ev E x=some vx)(hr:∀w,(Instr.fieldAt T vx f).run P w= .ok v w):Yl P w0 n L E ⟨d, .fieldAddr T x f,ty,pos,aft,gd⟩ v:=
 Z4 (fun _=>Instr.fieldAt T vx f) (fun a ha=>by simp only[execOp,ha.ev hx]) (fun a w _ _=>hr w)
theorem ZhB {T:TypeId}{x y:Operand}{vx vy:Value}(hx:Env.ev E x=some vx)(hy:Env.ev E y=some vy)(hr:∀w,(Instr.indexAt T vx vy).run P w= .ok v w):Yl P w0 n L E ⟨d, .indexAddr T x y,ty,pos,aft,gd⟩ v:=
 Z4 (fun _=>Instr.indexAt T vx vy) (fun a ha=>by simp only[execOp,ha.ev hx,ha.ev hy]) (fun a w _ _=>hr w)
theorem ZnM {T:TypeId}{x y:Operand}{vx vy:Value}(hx:Env.ev E x=some vx)(hy:Env.ev E y=some vy)(hr:∀w,(Instr.index T vx vy).run P w= .ok v w):Yl P w0 n L E ⟨d, .index T x y,ty,pos,aft,gd⟩ v:=
 Z4 (fun _=>Instr.index T vx vy) (fun a ha=>by simp only[execOp,ha.ev hx,ha.ev hy]) (fun a w _ _=>hr w)
def Env.evp (E:Env):List (Nat×Operand)->Option (List (Nat×Value))
 |[]=>some []
 |(i,x)::r=>match Env.ev E x,Env.evp E r with
  |some v,some l=>some ((i,v)::l)
  |_,_=>none
theorem Rep.evp {a:Act}(ha:Rep n E a):∀(ps:List (Nat×Operand))(l:List (Nat×Value)),Env.evp E ps=some l->ps.map (fun(i,x)=>(i,a.eval x))=l
 |[],l,h=>by simp only[Env.evp,Option.some.injEq] at h;subst h;rfl
 |(i,x)::r,l,h=>by
  simp only[Env.evp] at h
  split at h
  ·rename_i v l' hv hl
   simp only[Option.some.injEq] at h
   subst h
   simp only[List.map_cons,ha.ev hv,Rep.evp ha r l' hl]
  ·cases h
theorem Zn7 {T:TypeId}{ps:List (Nat×Operand)}{l:List (Nat×Value)}(hp:Env.evp E ps=some l)(hr:∀w,(Instr.build T l.toArray).run P w= .ok v w):Yl P w0 n L E ⟨d, .build T ps.toArray,ty,pos,aft,gd⟩ v:=
 Z4 (fun _=>Instr.build T l.toArray) (fun a ha=>by
  have:ps.toArray.map (fun(i,x)=>(i,a.eval x))=l.toArray:=by rw[<-ha.evp ps l hp];simp
  simp only[execOp,this]) (fun a w _ _=>hr w)
def aggB (P:Program)(T:TypeId)(k:Nat):Bool:=
  (match P.underlying T with
   |some (.struct _)|some (.array _ _)=>true
   |_=>false)&&((P.info? T).map (·.size)==some k)
def oneB (P:Program)(T:TypeId):Bool:=
 match P.underlying T with
 |some (.struct _)|some (.array _ _)=>false
 |some _=>true
 |none=>false
theorem Zdm {T:TypeId}{k:Nat}(h:aggB P T k=true)(w:World):(isAgg T).run P w= .ok true w:=by
 unfold aggB at h
 unfold isAgg
 rw[Sem.run_bind]
 cases hu:P.underlying T with
 |none=>simp[hu] at h
 |some dd=>
  rw[run_underlying hu w]
  cases dd <;> simp_all
theorem Zfk {T:TypeId}(h:oneB P T=true)(w:World):(isAgg T).run P w= .ok false w:=by
 unfold oneB at h
 unfold isAgg
 rw[Sem.run_bind]
 cases hu:P.underlying T with
 |none=>simp[hu] at h
 |some dd=>
  rw[run_underlying hu w]
  cases dd <;> simp_all
theorem Z5 {T:TypeId}{k:Nat}(h:(P.info? T).map (·.size)=some k)(w:World):(sizeOf T).run P w= .ok k w:=by
 cases hi:P.info? T with
 |none=>simp[hi] at h
 |some i=>
  have:i.size=k:=by simpa [hi] using h
  simp[sizeOf,typeInfo,hi,this]
theorem Zgn {T:TypeId}{k:Nat}(h:aggB P T k=true):(P.info? T).map (·.size)=some k:=by
 unfold aggB at h
 simp only[Wq,beq_iff_eq] at h
 exact h.2
def LdV (P:Program)(T:TypeId)(cs:Array Value)(off:Nat)(v:Value):Prop:=
 (∃k,aggB P T k=true/\off+k<=cs.size/\v= .agg (cs.extract off (off+k)))\/(oneB P T=true/\cs[off]? =some v)
theorem ZG {T:TypeId}{cs cs':Array Value}{off:Nat}(k:Nat)(h:aggB P T k=true:=by kernel_rfl)(hs:Nat.ble (off+k) cs.size=true:=by kernel_rfl)(hv:cs.extract off (off+k)=cs':=by kernel_rfl):LdV P T cs off (.agg cs'):=
 .inl ⟨k,h,Nat.le_of_ble_eq_true hs,by rw[hv]⟩
theorem ZD {T:TypeId}{cs:Array Value}{off:Nat}(h:oneB P T=true:=by kernel_rfl)(hv:cs[off]? =some v:=by kernel_rfl):LdV P T cs off v:= .inr ⟨h,hv⟩
theorem Zaf {w:World}{b:Nat}{cs:Array Value}{T:TypeId}{fz:Nat×Nat}(h:w.heap[b]? =some (.cells cs T fz))(off:Nat):w.cell? ⟨b,off,none⟩=cs[off]? :=by
 simp[World.cell?,h]
theorem Zai (b off k:Nat):Addr.add ⟨b,off,none⟩ k=⟨b,off+k,none⟩:=by
 unfold Addr.add
 split
 ·rename_i h;subst h;rfl
 ·rfl
theorem Zbi {w:World}{b off:Nat}{cs:Array Value}{T T0:TypeId}{fz:Nat×Nat}(h:w.heap[b]? =some (.cells cs T0 fz))(hv:LdV P T cs off v):(loadVar T ⟨b,off,none⟩).run P w= .ok v w:=by
 rcases hv with⟨k,ha,hs,rfl⟩|⟨ho,hv⟩
 ·have hl:(loadCells ⟨b,off,none⟩ (cs.extract off (off+k)).toList.length).run P w= .ok (cs.extract off (off+k)).toList.toArray w:=
   run_loadCells_list (P:=P) w ⟨b,off,none⟩ _ (fun j u hu=>by
    rw[Zai,Zaf h]
    simp only[Array.getElem?_toList] at hu
    rw[Array.getElem?_extract] at hu
    split at hu
    ·exact hu
    ·cases hu)
  have hlen:(cs.extract off (off+k)).toList.length=k:=by simp;omega
  rw[hlen,Array.toArray_toList] at hl
  simp[loadVar,Sem.run_bind,Zdm ha,Z5 (Zgn ha),hl]
 ·simp[loadVar,Sem.run_bind,Zfk ho,run_load,Zaf h,hv]
theorem ZjW {T T0:TypeId}{x:Operand}{b off:Nat}{cs:Array Value}(hx:Env.ev E x=some (.pointer (some ⟨b,off,none⟩)))(hm:(⟨b,cs,T0⟩:Blk)∈L)(hv:LdV P T cs off v):Yl P w0 n L E ⟨d, .load T x,ty,pos,aft,gd⟩ v:=
 Z4 (fun _=>loadVar T ⟨b,off,none⟩) (fun a ha=>by
  simp only[execOp,ha.ev hx,Instr.loadAt,Instr.sureAddr]
  rfl) (fun a w _ hw=>Zbi (hw.mem _ hm).2 hv)
theorem ZeQ {T T0:TypeId}{x:Operand}{b off:Nat}{cs:Array Value}{fz:Nat×Nat}(hx:Env.ev E x=some (.pointer (some ⟨b,off,none⟩)))(hm:w0.heap[b]? =some (.cells cs T0 fz))(hv:LdV P T cs off v):Yl P w0 n L E ⟨d, .load T x,ty,pos,aft,gd⟩ v:=
 Z4 (fun _=>loadVar T ⟨b,off,none⟩) (fun a ha=>by
  simp only[execOp,ha.ev hx,Instr.loadAt,Instr.sureAddr]
  rfl) (fun a w _ hw=>Zbi (fz:=fz) (by rw[hw.ext.block b (Zae hm)];exact hm) hv)
def callableB (P:Program)(f:FuncId):Bool:=
 match P.funcs[f]? with
 |some fn=> !(fn.name== "runtime.NumGoroutine")&&fn.body.isSome
 |none=>false
theorem ZcI {f:FuncId}(h:callableB P f=true)(args:Array Value)(w:World):(callFunc f args).run P w= .ok (.enter f args) w:=by
 unfold callableB at h
 cases hf:P.funcs[f]? with
 |none=>simp[hf] at h
 |some fn=>
  simp only[hf,Wq,Bool.not_eq_true'] at h
  obtain⟨h1,h2⟩:=h
  obtain⟨c,hc⟩:=Option.isSome_iff_exists.1 h2
  have h3:¬fn.name= "runtime.NumGoroutine" :=by simpa using h1
  simp[callFunc,hf,h3,hc]
def Env.evs (E:Env):List Operand->Option (List Value)
 |[]=>some []
 |x::r=>match Env.ev E x,Env.evs E r with
  |some v,some l=>some (v::l)
  |_,_=>none
theorem Rep.evs {a:Act}(ha:Rep n E a):∀(ps:List Operand)(l:List Value),Env.evs E ps=some l->ps.map a.eval=l
 |[],l,h=>by simp only[Env.evs,Option.some.injEq] at h;subst h;rfl
 |x::r,l,h=>by
  simp only[Env.evs] at h
  split at h
  ·rename_i v l' hv hl
   simp only[Option.some.injEq] at h
   subst h
   simp only[List.map_cons,ha.ev hv,Rep.evs ha r l' hl]
  ·cases h
theorem ZbX {f:FuncId}{xs:List Operand}{l:List Value}{ats:Array TypeId}{a:Act}{w:World}(hf:callableB P f=true)(ha:Rep n E a)(hl:Env.evs E xs=some l):
  (execOp a.eval ⟨d, .call ⟨.value (.func f),xs.toArray,ats⟩,ty,pos,aft,gd⟩).run P w= .ok (.enter f l.toArray) w:=by
 have h1:xs.toArray.map a.eval=l.toArray:=by rw[<-ha.evs xs l hl];simp
 simp only[execOp,resolve,h1,Act.eval,Deferred.ofValue,Sem.run_bind,Sem.run_pure,Result.andThen,invoke]
 rw[show(#[]++l.toArray:Array Value)=l.toArray from Array.empty_append,Array.append_empty]
 exact ZcI hf _ _
theorem ZfP {f:FuncId}{xs:List Operand}{l:List Value}{ats:Array TypeId}(hf:callableB P f=true)(hl:Env.evs E xs=some l)(hc:∀w,Own w0 L w->Calls P f l.toArray w (Ret v w)):
  Yl P w0 n L E ⟨d, .call ⟨.value (.func f),xs.toArray,ats⟩,ty,pos,aft,gd⟩ v:=⟨fun a w ha hw=>by
 unfold calm
 rw[ZbX hf ha hl]
 exact⟨rfl,hc w hw⟩⟩
theorem ZlI {T:TypeId}{x:Operand}(hx:Env.ev E x=some v)(hg:guardB ops E gd=some true)(hd:dstOk n d=true)
  (h:∀b,JO P w0 n ops Q rest (Env.put E d (.pointer (some ⟨b,0,none⟩))) (⟨b,v.cells,T⟩::L)):JO P w0 n ops Q (⟨d, .box T x,ty,pos,aft,gd⟩::rest) E L:=
 Zc9 (L':=Nat) (o:=⟨d, .box T x,ty,pos,aft,gd⟩) hg hd (fun b=> .pointer (some ⟨b,0,none⟩)) (fun b=>⟨b,v.cells,T⟩::L)
  (fun a w ha hw=>⟨w.heap.size,w.alloc (.cells v.cells T), .inl (by simp[execOp,ha.ev hx,Instr.box,newVar,newRow]),hw.alloc _ _⟩) h
theorem Zoo {T:TypeId}{z:Value}(hz:(P.info? T).bind (·.zero)=some z)(hg:guardB ops E gd=some true)(hd:dstOk n d=true)
  (h:∀b,JO P w0 n ops Q rest (Env.put E d (.pointer (some ⟨b,0,none⟩))) (⟨b,z.cells,T⟩::L)):JO P w0 n ops Q (⟨d, .alloc T,ty,pos,aft,gd⟩::rest) E L:=by
 cases hi:P.info? T with
 |none=>simp[hi] at hz
 |some i=>
  have hz':i.zero=some z:=by simpa [hi] using hz
  exact Zc9 (L':=Nat) (o:=⟨d, .alloc T,ty,pos,aft,gd⟩) hg hd (fun b=> .pointer (some ⟨b,0,none⟩)) (fun b=>⟨b,z.cells,T⟩::L)
   (fun a w ha hw=>⟨w.heap.size,w.alloc (.cells z.cells T), .inl (by simp[execOp,Instr.alloc,zeroValue,typeInfo,hi,hz',newVar,newRow]),hw.alloc _ _⟩) h
def spl :Array Value->Nat->List Value->Array Value
 |cs,_,[]=>cs
 |cs,k,v::vs=>spl (cs.setIfInBounds k v) (k+1) vs
theorem Zb5 :∀(vs:List Value)(cs:Array Value)(k i:Nat),k+vs.length<=cs.size->(spl cs k vs)[i]? =if k<=i/\i<k+vs.length then vs[i-k]? else cs[i]?
 |[],cs,k,i,_=>by rw[if_neg (by simp)];rfl
 |v::vs,cs,k,i,h=>by
  have h':k+(vs.length+1)<=cs.size:=h
  rw[spl,Zb5 vs _ _ _ (by simp only[Array.size_setIfInBounds];omega)]
  have hlen:(v::vs).length=vs.length+1:=rfl
  rw[hlen]
  by_cases h1:k+1<=i/\i<k+1+vs.length
  ·rw[if_pos h1,if_pos (by omega),show i-k=(i-(k+1))+1 by omega]
   simp
  ·rw[if_neg h1]
   by_cases h2:i=k
   ·subst h2
    rw[if_pos (by omega)]
    simp[show i<cs.size by omega]
   ·rw[if_neg (by omega),Array.getElem?_setIfInBounds_ne (by omega)]
theorem Zjp {cs:Array Value}{vs:Array Value}(h:vs.size=cs.size):spl cs 0 vs.toList=vs:=by
 apply Array.ext_getElem?
 intro i
 rw[Zb5 _ _ _ _ (by simp;omega)]
 simp only[Array.length_toList,Wm,true_and,Nat.zero_add,Nat.sub_zero,Array.getElem?_toList]
 split
 ·rfl
 ·rw[Array.getElem?_eq_none (by omega),Array.getElem?_eq_none (by omega)]
theorem Zld {w:World}{b k:Nat}{cs:Array Value}{T:TypeId}(h:w.heap[b]? =some (.cells cs T (0,0)))(u:Value):Turned b (cs.setIfInBounds k u) T w (w.setCell ⟨b,k,none⟩ u):=
 ⟨rfl,rfl,rfl,by simp,rfl,fun j hj=>heap_setCell_other _ _ _ _ hj,heap_setCell_same _ _ _ _ _ _ h⟩
theorem Turned.tr {b:Nat}{cs cs':Array Value}{T:TypeId}{w w1 w2:World}(h:Turned b cs T w w1)(k:Turned b cs' T w1 w2):Turned b cs' T w w2:=
 ⟨k.os.trans h.os,k.tape.trans h.tape,k.output.trans h.output,k.size.trans h.size,k.dr.trans h.dr,fun j hj=>(k.block j hj).trans (h.block j hj),k.here⟩
theorem ZaT {b off:Nat}{T:TypeId}:∀(vs:List Value)(i:Nat)(cs:Array Value)(w:World),w.heap[b]? =some (.cells cs T (0,0))->off+i+vs.length<=cs.size->(∀u∈vs,u.oneCell'=true)->
  ∃w',(storeCells ⟨b,off,none⟩ vs i).run P w= .ok () w'/\Turned b (spl cs (off+i) vs) T w w'
 |[],i,cs,w,h,_,_=>⟨w,by simp[storeCells],rfl,rfl,rfl,rfl,rfl,fun _ _=>rfl,h⟩
 |u::vs,i,cs,w,h,hs,h1=>by
  simp only[Wu] at hs
  have hlt:off+i<cs.size:=by omega
  have hc:w.cell? ⟨b,off+i,none⟩=some cs[off+i]:=by rw[Zaf h,Array.getElem?_eq_getElem hlt]
  have hf:w.frozen? ⟨b,off+i,none⟩=false:=frozen_of_row _ _ _ _ _ h
  have ht:=Zld (k:=off+i) h u
  obtain⟨w',hr,ht'⟩:=ZaT (off:=off) vs (i+1) _ _ ht.here (by simp;omega) (fun x hx=>h1 x (.tail _ hx))
  refine⟨w', ?_, ?_⟩
  ·simp only[storeCells,Sem.run_bind,Zai,run_store P w _ u _ (h1 u (.head _)),hc,hf,Bool.false_eq_true,if_false,Result.andThen]
   exact hr
  ·rw[spl]
   exact ht.tr ht'
theorem ZbY {T T0:TypeId}{x y:Operand}{b off:Nat}{cs cs':Array Value}{L':List Blk}{u:Value}(k:Nat)(hx:Env.ev E x=some (.pointer (some ⟨b,off,none⟩)))(hy:Env.ev E y=some u)(hu:Upd b cs T0 cs' L L')
  (hk:(P.info? T).map (·.size)=some k) (hsz:u.cells.size=k) (hs:Nat.ble (off+k) cs.size=true) (h1:u.cells.all (·.oneCell')=true) (hc:spl cs off u.cells.toList=cs')
  (hg:guardB ops E gd=some true) (hd:dstOk n d=true) (h:JO P w0 n ops Q rest (Env.put E d undef) L'):JO P w0 n ops Q (⟨d, .store T x y,ty,pos,aft,gd⟩::rest) E L:=by
 refine Zc9 (L':=Unit) (o:=⟨d, .store T x y,ty,pos,aft,gd⟩) hg hd (fun _=>undef) (fun _=>L') (fun a w ha hw=>?_) (fun _=>h)
 have hb:=(hw.mem _ hu.mem).2
 have hs':=Nat.le_of_ble_eq_true hs
 obtain⟨w',hr,ht⟩:=ZaT (P:=P) (b:=b) (off:=off) u.cells.toList 0 cs w hb (by simp;omega) (fun q hq=>Array.all_eq_true_iff_forall_mem.1 h1 q (Array.mem_toList_iff.1 hq))
 rw[Nat.add_zero,hc] at ht
 refine⟨(),w', .inr ⟨?_,rfl⟩,hw.turn hu ht⟩
 simp[execOp,ha.ev hx,ha.ev hy,Instr.storeAt,Instr.sureAddr,storeVar,Z5 hk,hsz,hr]
theorem ZmD {T T0:TypeId}{x y:Operand}{b:Nat}{cs cs':Array Value}{L':List Blk}(k:Nat)(hx:Env.ev E x=some (.pointer (some ⟨b,0,none⟩)))(hy:Env.ev E y=some (.agg cs'))(hu:Upd b cs T0 cs' L L')
  (hk:(P.info? T).map (·.size)=some k) (hsz:cs'.size=k) (hs:cs.size=k) (h1:cs'.all (·.oneCell')=true)
  (hg:guardB ops E gd=some true) (hd:dstOk n d=true) (h:JO P w0 n ops Q rest (Env.put E d undef) L'):JO P w0 n ops Q (⟨d, .store T x y,ty,pos,aft,gd⟩::rest) E L:=
 ZbY (u:= .agg cs') k hx hy hu hk hsz (by rw[hs];simp) h1 (Zjp (hsz.trans hs.symm)) hg hd h
theorem ZB {fn:Func}{R:Ending->World->Prop}{t:Tmp}(hres:fn.results=#[.tmp t])(ht:Env.find E t=some v)(h:∀w,Own w0 L w->R (.returned v) w):JX w0 n .ret (bodyPost P fn R) E L:=
 Zd7 (fun a w ha _=>by rw[results_tmp hres];have:=ha.val t v ht;simp[this]) h
theorem ZiZ {fn:Func}{R:Ending->World->Prop}{t:Tmp}{T T0:TypeId}{b off:Nat}{cs:Array Value}(hres:fn.results=#[.cell t T])(ht:Env.find E t=some (.pointer (some ⟨b,off,none⟩)))(hm:(⟨b,cs,T0⟩:Blk)∈L)(hv:LdV P T cs off v)
  (h:∀w,Own w0 L w->R (.returned v) w):JX w0 n .ret (bodyPost P fn R) E L:=
 Zd7 (fun a w ha hw=>by
  have h1:=ha.val t _ ht
  simp[results,hres,h1,asAddr,Zbi (hw.mem _ hm).2 hv]) h
def ResV (P:Program)(E:Env)(L:List Blk)(r:ResultVar)(v:Value):Prop:=
 match r with
 | .tmp t=>Env.find E t=some v
 | .cell t T=>∃(b off:Nat)(cs:Array Value)(T0:TypeId),Env.find E t=some (.pointer (some ⟨b,off,none⟩))/\(⟨b,cs,T0⟩:Blk)∈L/\LdV P T cs off v
theorem Zy {t:Tmp}(h:Env.find E t=some v):ResV P E L (.tmp t) v:=h
theorem ZmK {t:Tmp}{T T0:TypeId}{b off:Nat}{cs:Array Value}(h:Env.find E t=some (.pointer (some ⟨b,off,none⟩)))(hm:(⟨b,cs,T0⟩:Blk)∈L)(hv:LdV P T cs off v):ResV P E L (.cell t T) v:=⟨b,off,cs,T0,h,hm,hv⟩
theorem ZcE {a:Act}{w:World}{r:ResultVar}(ha:Rep n E a)(hw:Own w0 L w)(h:ResV P E L r v):
  (∃t,r= .tmp t/\a.tmps[t]? =some v)\/(∃t T p,r= .cell t T/\a.tmps[t]? =some (.pointer (some p))/\(loadVar T p).run P w= .ok v w):=by
 cases r with
 |tmp t=>exact .inl ⟨t,rfl,ha.val t v h⟩
 |cell t T=>
  obtain⟨b,off,cs,T0,h1,hm,hv⟩:=h
  exact .inr ⟨t,T,_,rfl,ha.val t _ h1,Zbi (hw.mem _ hm).2 hv⟩
theorem ZF {fn:Func}{R:Ending->World->Prop}{r1 r2:ResultVar}{v1 v2:Value}(hres:fn.results=#[r1,r2])(h1:ResV P E L r1 v1)(h2:ResV P E L r2 v2)(h:∀w,Own w0 L w->R (.returned (.tuple #[v1,v2])) w):JX w0 n .ret (bodyPost P fn R) E L:=
 Zd7 (fun a w ha hw=>by
  rcases ZcE ha hw h1 with⟨t,rfl,e1⟩|⟨t,T,p,rfl,e1,f1⟩ <;> rcases ZcE ha hw h2 with⟨u,rfl,e2⟩|⟨u,U,q,rfl,e2,f2⟩ <;> simp[results,hres,asAddr,Sem.run_bind, *]) h
theorem Za4 {fn:Func}{R:Ending->World->Prop}{r1 r2 r3:ResultVar}{v1 v2 v3:Value}(hres:fn.results=#[r1,r2,r3])(h1:ResV P E L r1 v1)(h2:ResV P E L r2 v2)(h3:ResV P E L r3 v3)(h:∀w,Own w0 L w->R (.returned (.tuple #[v1,v2,v3])) w):JX w0 n .ret (bodyPost P fn R) E L:=
 Zd7 (fun a w ha hw=>by
  rcases ZcE ha hw h1 with⟨t,rfl,e1⟩|⟨t,T,p,rfl,e1,f1⟩ <;> rcases ZcE ha hw h2 with⟨u,rfl,e2⟩|⟨u,U,q,rfl,e2,f2⟩ <;> rcases ZcE ha hw h3 with⟨z,rfl,e3⟩|⟨z,Z,q3,rfl,e3,f3⟩ <;> simp[results,hres,asAddr,Sem.run_bind, *]) h
theorem ZP {w:World}(hw:Own w0 L w):Ret v w0 (.returned v) w:=⟨rfl,hw.ext⟩
theorem rtT {fn:Func}{t:Tmp}(hres:fn.results=#[.tmp t])(ht:Env.find E t=some v):JX w0 n .ret (bodyPost P fn (Ret v w0)) E L:=ZB hres ht (fun w hw=>ZP hw)
end
end Go.Vt
