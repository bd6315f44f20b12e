/- For any up to 12 units whose ends have up to 20 bytes, and for any decoded moving label (up to 8 stretches), Check returns OK or the first error. Conditions: none. (part 10 of 28.) Conditions: those that each statement names. -/
import Derived.Test.YtcgkgdgpdpihmaaGreatDoorProg
import Derived.Laws.Cover3
import Derived.Laws.Pointers
import Derived.Test.YtcgkgdgpdpihmaaGreatDoorKC9
set_option linter.unusedSimpArgs false
set_option linter.unusedVariables false
set_option maxHeartbeats 2000000
set_option linter.unusedSectionVars false
set_option maxRecDepth 100000
namespace Go.Vt
open Go.RowKit
theorem Upd.app {b:Nat}{cs cs':Array Value}{T:TypeId}{L L':List Blk}(h:Upd b cs T cs' L L'):∀A:List Blk,Upd b cs T cs' (A++L) (A++L')
 |[]=>h
 |_::A=>(h.app A).there
instance (priority :=low) updSkip (b:Nat)(cs':Array Value)(A L L':List Blk)(cs:Array Value)(T:TypeId)[h:UpdC b cs' L cs T L']:UpdC b cs' (A++L) cs T (A++L'):=⟨h.out.app A⟩
theorem ArgS.form {α:Type}{w0:World}{v:Value}{enc:α->Array Value}{xs:List α}(h:ArgS w0 v enc xs):∃p c,v= .slice p xs.length c:=by
 rcases h.out with⟨h1,h2⟩|⟨a,c,h1,_⟩
 ·subst h2
  exact⟨none,0,h1⟩
 ·exact⟨some a,c,h1⟩
theorem ArgS.to {α:Type}{w0 w:World}{v:Value}{enc:α->Array Value}{xs:List α}(h:ArgS w0 v enc xs)(hx:Ext w0 w):ArgS w v enc xs:=by
 rcases h.out with h1|⟨a,c,h1,h2,h3⟩
 ·exact⟨.inl h1⟩
 ·refine⟨.inr ⟨a,c,h1,h2,fun i f k u hi hk hu=>?_⟩⟩
  have h4:=h3 i f k u hi hk hu
  obtain⟨hae,cs,T,fz,hb,hc⟩:=ZgC h4
  rw[hae]
  have hb':w.heap[(a.add (i*k+f)).block]? =some (.cells cs T fz):=by rw[hx.block _ (Zae hb)];exact hb
  rw[Zaf hb']
  exact hc
structure SlS {α:Type}(enc:α->Array Value)(k:Nat)(xs:List α) where
 s:Option (Nat×Nat×List Value)
 nil:s=none↔xs=[]
 ok:∀t,s=some t->xs.length<=t.2.1/\t.2.2.length=(t.2.1-xs.length)*k
section
variable {α : Type} {enc : α -> Array Value} {k : Nat} {xs : List α}
def SlS.no :SlS enc k []:=⟨none,⟨fun _=>rfl,fun _=>rfl⟩,(fun _ h=>by cases h)⟩
def SlS.at_ (b c:Nat)(sp:List Value)(h:xs.length<=c/\sp.length=(c-xs.length)*k)(h0:xs≠[]):SlS enc k xs:=⟨some (b,c,sp),⟨fun h=>by(cases h),fun h=>absurd h h0⟩,(fun t ht=>by injection ht with ht;subst ht;exact h)⟩
def vO (n:Nat):Option (Nat×Nat×List Value)->Value
 |none=> .slice none 0 0
 |some t=> .slice (some ⟨t.1,0,none⟩) n t.2.1
def mO (enc:α->Array Value)(T:TypeId)(xs:List α):Option (Nat×Nat×List Value)->List Blk
 |none=>[]
 |some t=>[⟨t.1,row enc xs t.2.2,T⟩]
def vSl (s:SlS enc k xs):Value:=vO xs.length s.s
def mS (T:TypeId)(s:SlS enc k xs):List Blk:=mO enc T xs s.s
theorem SlS.cases (T:TypeId)(s:SlS enc k xs):(xs=[]/\vSl s= .slice none 0 0/\mS T s=[])\/∃b c sp,(xs.length<=c/\sp.length=(c-xs.length)*k)/\vSl s= .slice (some ⟨b,0,none⟩) xs.length c/\mS T s=[⟨b,row enc xs sp,T⟩]/\xs≠[]:=by
 obtain⟨s,h1,h2⟩:=s
 cases s with
 |none=>exact .inl ⟨h1.1 rfl,rfl,rfl⟩
 |some t=>exact .inr ⟨t.1,t.2.1,t.2.2,h2 t rfl,rfl,rfl,fun h=>by have:=h1.2 h;cases this⟩
end
class OwnS {α:Type}{enc:α->Array Value}{k:Nat}{xs:List α}(T:outParam TypeId)(s:SlS enc k xs)(L:List Blk)(L1:outParam (List Blk)):Prop where
 out:L.Perm (mS T s++L1)
section
variable {α : Type} {enc : α -> Array Value} {k : Nat} {xs : List α}
instance (priority :=high) osHere (T:TypeId)(s:SlS enc k xs)(L:List Blk):OwnS T s (mS T s++L) L:=⟨.refl _⟩
instance (priority :=high) osHere0 (T:TypeId)(s:SlS enc k xs):OwnS T s (mS T s) []:=⟨by rw[Wh]⟩
instance (priority :=low) osThere (T:TypeId)(s:SlS enc k xs)(e:Blk)(L L1:List Blk)[h:OwnS T s L L1]:OwnS T s (e::L) (e::L1):=⟨(h.out.cons e).trans (List.perm_middle.symm)⟩
instance (priority :=low) osSkip {β:Type}{enc':β->Array Value}{k':Nat}{ys:List β}(T T':TypeId)(s:SlS enc k xs)(u:SlS enc' k' ys)(L L1:List Blk)[h:OwnS T s L L1]:OwnS T s (mS T' u++L) (mS T' u++L1):=⟨by
 refine(h.out.append_left _).trans ?_
 rw[<-List.append_assoc,<-List.append_assoc]
 exact(List.perm_append_comm).append_right _⟩
instance (priority :=low) delSkip (A:List Blk)(b:Nat)(cs:Array Value)(T:TypeId)(L L1:List Blk)[h:DelC b L cs T L1]:DelC b (A++L) cs T (A++L1):=⟨(h.out.append_left A).trans List.perm_middle⟩
instance (priority :=high) sblP (X A B:List Blk)[h:SblC A B]:SblC (X++A) (X++B):=⟨h.out.append_left X⟩
instance (priority :=high) sblP0 (X B:List Blk):SblC X (X++B):=⟨List.sublist_append_left _ _⟩
instance (priority :=high) sblR (X:List Blk):SblC X X:=⟨Wj _⟩
class LstC (w0:World)(L:List Blk)(v:Value)(α:outParam Type)(enc:outParam (α->Array Value))(xs:outParam (List α)):Prop where
 out:∀w,Own w0 L w->ArgS w v enc xs
end
instance (priority :=low) lstArg (w0:World)(L:List Blk)(v:Value)(α:Type)(enc:α->Array Value)(xs:List α)[h:ArgC w0 v α enc xs]:LstC w0 L v α enc xs:=⟨fun _ hw=>h.out.to hw.ext⟩
theorem ZbH {α:Type}{enc:α->Array Value}{k:Nat}[he:EncC enc k]{w:World}{b c:Nat}{xs:List α}{sp:List Value}{T:TypeId}{fz:Nat×Nat}(hb:w.heap[b]? =some (.cells (row enc xs sp) T fz))(hc:xs.length<=c):ArgS w (.slice (some ⟨b,0,none⟩) xs.length c) enc xs:=by
 refine⟨.inr ⟨⟨b,0,none⟩,c,rfl,hc,fun i f k' u hi hk hu=>?_⟩⟩
 rw[Zai,Zaf hb]
 obtain rfl:k'=k:=by rw[<-hk xs[i]];exact he.size _
 have hf:f<k':=by
  rcases Nat.lt_or_ge f k' with h1|h1
  ·exact h1
  ·rw[Array.getElem?_eq_none (by rw[hk];exact h1)] at hu
   cases hu
 rw[Nat.zero_add,Za3 xs sp i f hi hf]
 exact hu
instance lstOwn {α:Type}{enc:α->Array Value}{k:Nat}{xs:List α}[he:EncC enc k](w0:World)(L L1:List Blk)(T:TypeId)(s:SlS enc k xs)[h:OwnS T s L L1]:LstC w0 L (vSl s) α enc xs:=⟨fun w hw=>by
 have hp:=hw.perm h.out
 rcases s.cases T with⟨rfl,hv,hm⟩|⟨b,c,sp,h1,hv,hm, -⟩
 ·rw[hv]
  exact⟨.inl ⟨rfl,rfl⟩⟩
 ·rw[hm] at hp
  rw[hv]
  obtain⟨fz,hb⟩:∃fz,w.heap[b]? =some (.cells (row enc xs sp) T fz):=⟨(0,0),(hp.mem _ (.head _)).2⟩
  exact ZbH hb h1.1⟩
section
variable {P : Program} {w0 : World} {n : Nat} {ops : Array Oper} {L L1 : List Blk} {E : Env}
variable {Q : Exit -> Act -> World -> Prop} {rest : List Oper}
variable {ty : TypeId} {pos : String} {aft : Array Edge} {gd : Option (Nat × Bool)} {t : Tmp} {x y : Operand}
instance Zvx {α:Type}{enc:α->Array Value}{k:Nat}{xs:List α}{S e:TypeId}{s:SlS enc k xs}[hx:IsC (evl E x) (vSl s)][hu:UndC P S (.slice e)]:YlC P w0 n L E (.call ⟨.builtin .len,#[x],#[S]⟩) (.int .i64 xs.length):=⟨fun d ty pos aft gd=>by
 rcases s.cases 0 with⟨rfl,hv, -⟩|⟨b,c,sp,h1,hv, -, -⟩
 ·have:IsC (evl E x) (.slice none 0 0):=⟨by rw[hx.out,hv]⟩
  exact(Zc6 (P:=P) (w0:=w0) (n:=n) (L:=L) (E:=E) (x:=x) (S:=S) (e:=e) (p:=none) (l:=0) (c:=0)).out d ty pos aft gd
 ·have:IsC (evl E x) (.slice (some ⟨b,0,none⟩) xs.length c):=⟨by rw[hx.out,hv]⟩
  exact(Zc6 (P:=P) (w0:=w0) (n:=n) (L:=L) (E:=E) (x:=x) (S:=S) (e:=e) (p:=some ⟨b,0,none⟩) (l:=xs.length) (c:=c)).out d ty pos aft gd⟩
section
variable {α : Type} {enc : α -> Array Value} {S T T2 : TypeId} {b2 m c2 k B : Nat} {xs ys : List α} {z : Value} {zc : Array Value} {s : SlS enc k xs}
variable [hx : IsC (evl E x) (vSl s)] [hy : IsC (evl E y) (.slice (some ⟨b2, 0, none⟩) m c2)] [hd : OwnS T s L L1] [h2 : AtC w0 L b2 (row enc ys []) T2] [hT : UndC P S (.slice T)] [hz : ZeroC P T z zc] [he : EncC enc k] [hk : SizeC P T k] [hB : BytesC P T B]
include hx hy hd h2 hT hz he hk hB
theorem Zh5 (hm:ys.length=m)(hzk:zc.size=k)(hb:0<m/\(xs.length+m)*B<=140737488355328/\xs.length+m<=9223372036854775807)(a:Act)(w:World)(ha:Rep n E a)(hw:Own w0 L w):
  ∃s':SlS enc k (xs++ys),∃w',(execOp a.eval ⟨some t, .call ⟨.builtin .append,#[x,y],#[S,S]⟩,ty,pos,aft,gd⟩).run P w= .ok (.value (vSl s')) w'/\Own w0 (mS T s'++L1) w':=by
 have hp:=hw.perm hd.out
 have hlen:(xs++ys).length=xs.length+m:=by rw[Wp,hm]
 have hne:xs++ys≠[]:=fun h0=>by rw[h0,Wx] at hlen;omega
 obtain⟨fz,hf⟩:=h2.out w hw
 rcases s.cases T with⟨rfl,hv,hm0⟩|⟨b,c,sp,h1,hv,hm1, -⟩
 ·have hx':Env.ev E x=some (.slice none 0 0):=by rw[<-ZbC,hx.out,hv]
  rw[hm0,Wg] at hp
  obtain⟨s,w',hr,ho⟩:=ZeL (L:=L1) (ty:=ty) (b2:=b2) (off2:=0) (m:=m) (c2:=c2) (news:=rowL enc ys) hT.out hz.out hz.cells hk.out hB.out hzk hp ⟨T2,fz,hf⟩ (by rw[ZX (k:=k),hm]) (fun j u hu=>by rw[Nat.zero_add];simpa [row] using hu) hb.1 (by simpa using hb.2.1) (by simpa using hb.2.2)
  refine⟨SlS.at_ s.1.1 s.1.2.1 s.1.2.2 (by rw[Wg,hm];exact s.2) hne,w', ?_,ho⟩
  have h3:=ZbK (d:=some t) (pos:=pos) (aft:=aft) (gd:=gd) ha hx' (isE (x:=y)) hr
  rw[h3]
  show _=Result.ok (Next.value (Value.slice _ ([]++ys).length _)) w'
  rw[Wg,hm]
 ·have hx':Env.ev E x=some (.slice (some ⟨b,0,none⟩) xs.length c):=by rw[<-ZbC,hx.out,hv]
  rw[hm1] at hp
  obtain⟨s,w',hr,ho⟩:=Zga (L1:=L1) (ty:=ty) (b:=b) (len:=xs.length) (c:=c) (b2:=b2) (off2:=0) (m:=m) (c2:=c2) (xs:=rowL enc xs) (sp:=sp) (news:=rowL enc ys) hT.out hz.out hz.cells hk.out hB.out hzk hp (.refl _) (ZX xs) h1.2 h1.1 ⟨T2,fz,hf⟩ (by rw[ZX (k:=k),hm]) (fun j u hu=>by rw[Nat.zero_add];simpa [row] using hu) (Zgc ys) hb.2.1 hb.2.2
  refine⟨SlS.at_ s.1.1 s.1.2.1 s.1.2.2 (by rw[hlen];exact s.2) hne,w', ?_, ?_⟩
  ·have h3:=ZbK (d:=some t) (pos:=pos) (aft:=aft) (gd:=gd) ha hx' (isE (x:=y)) hr
   rw[h3]
   show _=Result.ok (Next.value (Value.slice _ (xs++ys).length _)) w'
   rw[hlen]
  ·show Own w0 (⟨s.1.1,row enc (xs++ys) s.1.2.2,T⟩::L1) w'
   rw[row,Zda]
   exact ho
theorem sU (hg:guardB ops E gd=some true)(hd':Nat.blt t n=true)(hm:ys.length=m)(hzk:zc.size=k)(hb:0<m/\(xs.length+m)*B<=140737488355328/\xs.length+m<=9223372036854775807)
  (h:∀s':SlS enc k (xs++ys),JO P w0 n ops Q rest ((t,vSl s')::E) (mS T s'++L1)):JO P w0 n ops Q (⟨some t, .call ⟨.builtin .append,#[x,y],#[S,S]⟩,ty,pos,aft,gd⟩::rest) E L:=
 Zc9 (L':=SlS enc k (xs++ys)) (o:=⟨some t, .call ⟨.builtin .append,#[x,y],#[S,S]⟩,ty,pos,aft,gd⟩) hg hd' (fun s=>vSl s) (fun s=>mS T s++L1)
  (fun a w ha hw=>by
   obtain⟨s,w',hr,ho⟩:=Zh5 (hx:=hx) (hy:=hy) (hd:=hd) (h2:=h2) (hT:=hT) (hz:=hz) (he:=he) (hk:=hk) (hB:=hB) hm hzk hb a w ha hw
   exact⟨s,w', .inl hr,ho⟩) h
theorem eU {K:Env->List Blk->Prop}{Lw:List Blk}(hg:guardB ops E gd=some true)(hd':Nat.blt t n=true)[hw:SblC Lw L1](hm:ys.length=m)(hzk:zc.size=k)(hb:0<m/\(xs.length+m)*B<=140737488355328/\xs.length+m<=9223372036854775807)
  (h:∀s':SlS enc k (xs++ys),JE P w0 n ops Lw K rest ((t,vSl s')::E) (mS T s'++L1)):JE P w0 n ops Lw K (⟨some t, .call ⟨.builtin .append,#[x,y],#[S,S]⟩,ty,pos,aft,gd⟩::rest) E L:=
 Zds (S:=SlS enc k (xs++ys)) (o:=⟨some t, .call ⟨.builtin .append,#[x,y],#[S,S]⟩,ty,pos,aft,gd⟩) hg hd' (fun s=>vSl s) (fun s=>mS T s++L1)
  (fun a w ha hw=>by
   obtain⟨s,w',hr,ho⟩:=Zh5 (hx:=hx) (hy:=hy) (hd:=hd) (h2:=h2) (hT:=hT) (hz:=hz) (he:=he) (hk:=hk) (hB:=hB) hm hzk hb a w ha hw
   exact⟨s,w', .inl hr,ho⟩) (fun _=>Z8 (hw.out.trans (List.sublist_append_right _ _))) h
end
section
variable {α : Type} {enc : α -> Array Value} {S T : TypeId} {b c b2 o2 m c2 k B : Nat} {ys : List α} {sp : List Value} {z : Value} {zc : Array Value}
variable [hx : IsC (evl E x) (.slice (some ⟨b, 0, none⟩) 0 c)] [hy : IsC (evl E y) (.slice (some ⟨b2, o2, none⟩) m c2)] [hd : DelC b L (row enc [] sp) T L1] [h2 : RowC w0 L b2 o2 α enc ys] [hT : UndC P S (.slice T)] [hz : ZeroC P T z zc] [he : EncC enc k] [hk : SizeC P T k] [hB : BytesC P T B]
include hx hy hd h2 hT hz he hk hB
theorem ZnI (hm:ys.length=m)(hne:ys≠[])(hs:sp.length=c*k)(hzk:zc.size=k)(hk0:0<k)(hb:m*B<=140737488355328/\m<=9223372036854775807)(a:Act)(w:World)(ha:Rep n E a)(hw:Own w0 L w):
  ∃s':SlS enc k ys,∃w',(execOp a.eval ⟨some t, .call ⟨.builtin .append,#[x,y],#[S,S]⟩,ty,pos,aft,gd⟩).run P w= .ok (.value (vSl s')) w'/\Own w0 (mS T s'++L1) w':=by
 obtain⟨cs,T2,fz,hf,hcell⟩:=h2.out w hw
 have hcs:∀j u,(rowL enc ys)[j]? =some u->cs[o2+j]? =some u:=fun j u hu=>by
  have hj:j<(rowL enc ys).length:=by
   rcases Nat.lt_or_ge j (rowL enc ys).length with h|h
   ·exact h
   ·rw[List.getElem?_eq_none h] at hu;cases hu
  rw[ZX (k:=k)] at hj
  obtain⟨q,f,rfl,hf'⟩:∃q f,j=q*k+f/\f<k:=⟨j / k,j % k,by rw[Nat.mul_comm];exact(Nat.div_add_mod j k).symm,Nat.mod_lt _ hk0⟩
  have hq:q<ys.length:=by
   rcases Nat.lt_or_ge q ys.length with h3|h3
   ·exact h3
   ·have:=Nat.mul_le_mul_right k h3
    omega
  rw[Ze7 ys q f hq hf'] at hu
  rw[<-Nat.add_assoc]
  exact(hcell q f k u hq he.size hu).1
 obtain⟨⟨⟨b',c',sp'⟩,hs1⟩,w',hr,ho⟩:=Zga (L1:=L1) (ty:=ty) (b:=b) (len:=0) (c:=c) (b2:=b2) (off2:=o2) (m:=m) (c2:=c2) (xs:=[]) (sp:=sp) (news:=rowL enc ys) hT.out hz.out hz.cells hk.out hB.out hzk hw (by simpa [row,ZnV] using hd.out) (by simp) (by simpa using hs) (Wm _) ⟨T2,fz,hf⟩ (by rw[ZX (k:=k),hm]) hcs (Zgc ys) (by simpa using hb.1) (by simpa using hb.2)
 simp only[Nat.zero_add] at hs1 hr ho
 refine⟨SlS.at_ b' c' sp' (by rw[hm];exact hs1) hne,w', ?_, ?_⟩
 ·have h3:=ZbK (d:=some t) (pos:=pos) (aft:=aft) (gd:=gd) ha (isE (x:=x)) (isE (x:=y)) hr
  rw[h3]
  show _=Result.ok (Next.value (Value.slice _ ys.length _)) w'
  rw[hm]
 ·show Own w0 (⟨b',row enc ys sp',T⟩::L1) w'
  simpa [row] using ho
theorem sG (hg:guardB ops E gd=some true)(hd':Nat.blt t n=true)(hm:ys.length=m)(hne:ys≠[])(hs:sp.length=c*k)(hzk:zc.size=k)(hk0:0<k)(hb:m*B<=140737488355328/\m<=9223372036854775807)
  (h:∀s':SlS enc k ys,JO P w0 n ops Q rest ((t,vSl s')::E) (mS T s'++L1)):JO P w0 n ops Q (⟨some t, .call ⟨.builtin .append,#[x,y],#[S,S]⟩,ty,pos,aft,gd⟩::rest) E L:=
 Zc9 (L':=SlS enc k ys) (o:=⟨some t, .call ⟨.builtin .append,#[x,y],#[S,S]⟩,ty,pos,aft,gd⟩) hg hd' (fun s=>vSl s) (fun s=>mS T s++L1)
  (fun a w ha hw=>by
   obtain⟨s,w',hr,ho⟩:=ZnI (hx:=hx) (hy:=hy) (hd:=hd) (h2:=h2) (hT:=hT) (hz:=hz) (he:=he) (hk:=hk) (hB:=hB) hm hne hs hzk hk0 hb a w ha hw
   exact⟨s,w', .inl hr,ho⟩) h
end
end
def mpN {α β:Type}[Inhabited α](f:α->β)(xs:List α):Nat->List β
 |0=>[]
 |m+1=>mpN f xs m++[f (gi xs (m:Int))]
theorem ZaV {α β:Type}[Inhabited α](f:α->β)(xs:List α):∀m,(mpN f xs m).length=m
 |0=>rfl
 |m+1=>by rw[mpN,Wp,ZaV f xs m];rfl
theorem Zie {α β:Type}[Inhabited α](f:α->β)(xs:List α):∀m,m<=xs.length->mpN f xs m=(xs.take m).map f
 |0,_=>rfl
 |m+1,h=>by
  rw[mpN,Zie f xs m (by omega),Wn (by omega),List.map_append,Zw (by omega)]
  rfl
theorem ZeC {α β:Type}[Inhabited α](f:α->β)(xs:List α):mpN f xs xs.length=xs.map f:=by rw[Zie f xs _ (Wl _),List.take_length]
end Go.Vt
namespace Go.Vt
open Go.RowKit
def RetX (w0:World)(S:Type)(val:S->Value)(mem:S->List Blk)(e:Ending)(w':World):Prop:=∃s,e= .returned (val s)/\Own w0 (mem s) w'
class SpecX (P:Program)(w0:World)(L:List Blk)(f:FuncId)(args:List Value)(S:outParam Type)(val:outParam (S->Value))(mem:outParam (S->List Blk))(pre:outParam Prop):Prop where
 out:pre->∀w,Own w0 L w->Calls P f args.toArray w (RetX w0 S val mem)
section
variable {P : Program} {w0 : World} {n : Nat} {ops : Array Oper} {L : List Blk} {E : Env}
variable {Q : Exit -> Act -> World -> Prop} {rest : List Oper}
variable {ty : TypeId} {pos : String} {aft : Array Edge} {gd : Option (Nat × Bool)} {t : Tmp}
theorem Zaj {f:FuncId}{fn:Func}{c:Code}{l:List Value}{w:World}{R:Ending->World->Prop}(hf:P.funcs[f]? =some fn)(hb:fn.body=some c)(hn:fn.ntmps=n)(hl:Nat.ble l.length n=true)[hE:EnvC l E]
  (hw:Own w0 L w) (h:J P w0 n c (bodyPost P fn R) E L):Calls P f l.toArray w R:=by
 rw[<-hE.out] at h
 have hl':l.length<=n:=Nat.le_of_ble_eq_true hl
 refine calls_of_wp hf hb (h.out _ _ ⟨by simp[hn];omega,rfl,fun k v hk=>?_⟩ hw)
 obtain⟨_,h2⟩:=ZdH l 0 k v hk
 have hlt:k<l.length:=by
  rcases Nat.lt_or_ge k l.length with h'|h'
  ·exact h'
  ·simp[List.getElem?_eq_none h'] at h2
 simp only[Nat.sub_zero] at h2
 rw[Array.getElem?_append_left (by simpa using hlt)]
 simpa using h2
theorem Zay {fn:Func}{R:Ending->World->Prop}(hres:fn.results=#[])(h:∀w,Own w0 L w->R (.returned (.tuple #[])) w):JX w0 n .normal (bodyPost P fn R) E L:=Zr4 (fun a w ha _=>by simp[results,hres]) h
theorem Zki {fn:Func}{R:Ending->World->Prop}(hres:fn.results=#[])(h:∀w,Own w0 L w->R (.returned (.tuple #[])) w):JX w0 n .ret (bodyPost P fn R) E L:=Zd7 (fun a w ha _=>by simp[results,hres]) h
section
variable {S : Type} {val : S -> Value} {mem : S -> List Blk} {f : FuncId} {xs : List Operand} {l : List Value} {ats : Array TypeId} {pre : Prop}
theorem sZ [hf:CallC P f][hl:IsC (evsl E xs) l][hc:SpecX P w0 L f l S val mem pre](hg:guardB ops E gd=some true)(hd:Nat.blt t n=true)(s:pre)(h:∀s,JO P w0 n ops Q rest ((t,val s)::E) (mem s)):JO P w0 n ops Q (⟨some t, .call ⟨.value (.func f),xs.toArray,ats⟩,ty,pos,aft,gd⟩::rest) E L:=
 Zht (S:=S) (o:=⟨some t, .call ⟨.value (.func f),xs.toArray,ats⟩,ty,pos,aft,gd⟩) hg hd val mem (fun _ _ ha=>ZbX hf.out ha isS) (fun w hw=>hc.out s w hw) h
theorem sY {u:Tmp}{cap c:List Value}[hu:IsC (evl E (.tmp u)) (.func (.func f) #[] cap.toArray)][hf:CallC P f][hl:IsC (evsl E xs) l][ha:AppC l cap c][hc:SpecX P w0 L f c S val mem pre](hg:guardB ops E gd=some true)(hd:Nat.blt t n=true)(s:pre)(h:∀s,JO P w0 n ops Q rest ((t,val s)::E) (mem s)):JO P w0 n ops Q (⟨some t, .call ⟨.value (.tmp u),xs.toArray,ats⟩,ty,pos,aft,gd⟩::rest) E L:=
 Zht (S:=S) (o:=⟨some t, .call ⟨.value (.tmp u),xs.toArray,ats⟩,ty,pos,aft,gd⟩) hg hd val mem (fun _ _ hr=>ZfD hf.out hr isE isS ha.out) (fun w hw=>hc.out s w hw) h
end
end
end Go.Vt
namespace Go.Vt
open Go.RowKit
section
variable {P : Program} {w0 : World} {n : Nat} {ops : Array Oper} {L L' Lw : List Blk} {E : Env}
variable {Q : Exit -> Act -> World -> Prop} {rest : List Oper} {v : Value} {Z : List Nat}
theorem Zk9 {i:Nat}{oi:Oper}{F:List Blk->Act->Prop}(hi:ops[i]? =some oi)(hsel:∀(j:Nat)(o:Oper) cs b,ops[j]? =some o->o.op≠ .select cs b):
  ∀(f:Nat)(listed:Array Bool)(es:List Nat)(L:List Blk)(a:Act),
   (∀j oj,ops[j]? =some oj->j≠i->listed.getD j true=false->(∀e∈oj.after,Region.binds .any e=true->e.on≠i)->oi.apart ops oj=true)->
   i∈Region.ready .any ops listed->YieldsC P w0 [] ops oi v a->
   wpG P w0 ops Z Lw F f (listed.setIfInBounds i true) es L (a.put oi.dst v)->wpG P w0 ops Z Lw F (f+1) listed es L a:=by
 intro f
 induction f with
 |zero=>
  intro listed es L a _ hr hy H
  refine⟨fun h=>(by rw[h] at hr;cases hr),fun j hj=>?_⟩
  by_cases hji:j=i
  ·subst hji
   exact⟨oi,hi, .inl ⟨v,hy.weak (Z8 (Wk _)),H⟩⟩
  ·have:=ready_mono hj hji
   rw[H.2.1] at this
   cases this
 |succ f ih=>
  intro listed es L a hfree hr hy H
  have hun:=(mem_ready.1 hr).1
  refine⟨fun h=>(by rw[h] at hr;cases hr),fun j hj=>?_⟩
  by_cases hji:j=i
  ·subst hji
   exact⟨oi,hi, .inl ⟨v,hy.weak (Z8 (Wk _)),H⟩⟩
  ·obtain⟨hjun,oj,hoj,hall⟩:=mem_ready.1 hj
   have hnot:∀e∈oj.after,Region.binds .any e=true->e.on≠i:=fun e he hb heq=>by
    have h1:=hall e he hb
    rw[heq,getD_both hun] at h1
    cases h1
   obtain⟨h1,h2,h3⟩:=Oper.apart_spec (hfree j oj hoj hji hjun hnot)
   have hfree':∀q oq,ops[q]? =some oq->q≠i->(listed.setIfInBounds j true).getD q true=false->
     (∀e∈oq.after,Region.binds .any e=true->e.on≠i)->oi.apart ops oq=true:=fun q oq hq hqi hun' hno=>by
    refine hfree q oq hq hqi ?_ hno
    by_cases hjq:j=q
    ·subst hjq;exact hjun
    ·rw[getD_set_ne true hjq] at hun';exact hun'
   have keep:∀u,YieldsC P w0 [] ops oi v (a.put oj.dst u):=fun u=>hy.same (execOp_put oi (fun cs b=>hsel i oi cs b hi) a oj.dst u h3) (wanted_put oi a oj.dst u h3)
   have hex:execOp (a.put oi.dst v).eval oj=execOp a.eval oj:=execOp_put oj (fun cs b=>hsel j oj cs b hoj) a oi.dst v h1
   have hwa:Region.wanted oj (yielded ops (a.put oi.dst v).tmps)=Region.wanted oj (yielded ops a.tmps):=wanted_put oj a oi.dst v h1
   have step:∀es' L' u,wpG P w0 ops Z Lw F f ((listed.setIfInBounds i true).setIfInBounds j true) es' L' ((a.put oi.dst v).put oj.dst u)->wpG P w0 ops Z Lw F (f+1) (listed.setIfInBounds j true) es' L' (a.put oj.dst u):=fun es' L' u hh=>by
    refine ih _ _ _ _ hfree' (ready_mono hr (Ne.symm hji)) (keep u) ?_
    rw[Array.setIfInBounds_comm _ _ hji,<-Act.put_comm a v u h2]
    exact hh
   obtain⟨o,ho,hH⟩:=H.2 j (ready_mono hj hji)
   have:o=oj:=Option.some.inj (ho.symm.trans hoj)
   subst this
   refine⟨o,ho, ?_⟩
   rcases hH with⟨u,hu,hK⟩|⟨es',he,hE⟩
   ·exact .inl ⟨u,hu.same hex.symm hwa.symm,step _ _ _ hK⟩
   ·refine .inr ⟨es',he,hwa▸hE.1,fun w hw1=>?_⟩
    have hH:=hE.2 w hw1
    rw[hex] at hH
    exact hH.mono fun u w' ⟨L',h5,h6,h7⟩=>⟨L',h5,h6,step _ _ _ h7⟩
def lk (b:Bool)(L:List Blk):List Blk:=match b with|true=>[]|false=>L
def sgN :List (Bool×List Nat)->Nat
 |[]=>0
 |p::ps=>p.2.length+sgN ps
def sgB (ops:Array Oper)(es:List Nat):List (Bool×List Nat)->Array Bool->Bool
 |[],listed=>seqE ops es listed
 |p::ps,listed=>(p.1||zB ops es p.2)&&lexF ops (sgB ops es ps) p.2 listed
def sgA (ops:Array Oper)(ps:List (Bool×List Nat))(es:List Nat):Bool:=
 Region.noSelect ops&&decide (sgN ps+es.length=ops.size)&&es.all (fun i=>decide (i<ops.size))&&sgB ops es ps (Array.replicate ops.size false)
def SG (P:Program)(w0:World)(L:List Blk)(l:List Oper)(G:Act->Prop):List (Bool×List Nat)->Act->Prop
 |[],a=>G a
 |p::ps,a=>AH P w0 (lk p.1 L) l.toArray (SG P w0 L l G ps) (picks l p.2) a
def JS (P:Program)(w0:World)(n:Nat)(L:List Blk)(l:List Oper)(K:Env->Prop):List (Bool×List Nat)->Env->Prop
 |[],E=>K E
 |p::ps,E=>JH P w0 n (lk p.1 L) l.toArray (JS P w0 n L l K ps) (picks l p.2) E
theorem ZdL {l:List Oper}{F:List Blk->Act->Prop}{es:List Nat}{G:Act->Prop}{N:Nat}{k:Array Bool->Bool}{pu:Bool}(hk:∀listed a,k listed=true->G a->wpG P w0 l.toArray Z L F N listed es L a)(hsel:Region.noSelect l.toArray=true):∀(hs:List Nat)(listed:Array Bool)(a:Act),(pu||zB l.toArray Z hs)=true->lexF l.toArray k hs listed=true->
  AH P w0 (lk pu L) l.toArray G (picks l hs) a->wpG P w0 l.toArray Z L F (hs.length+N) listed es L a
 |[],listed,a,_,hB,h=>by
  rw[Wx,Nat.zero_add]
  exact hk listed a hB h
 |i::hs,listed,a,hz,hB,h=>by
  simp only[lexF,Wq] at hB
  obtain⟨⟨hr,hf⟩,hB'⟩:=hB
  have hr':i∈Region.ready .any l.toArray listed:=by simpa using hr
  obtain⟨_,o,ho,_⟩:=mem_ready.1 hr'
  have ho':l[i]? =some o:=by simpa using ho
  simp only[picks,ho',AH] at h
  obtain⟨v,hy,h⟩:=h
  rw[show(i::hs).length+N=(hs.length+N)+1 by simp only[Wu];omega]
  cases pu with
  |true=>exact Zk9 ho (Region.noSelect_spec hsel) _ _ _ _ _ (Region.free_spec ho hf) hr' hy (ZdL hk hsel hs _ _ rfl hB' h)
  |false=>
   simp only[Bool.false_or] at hz
   have hz':zB l.toArray Z hs=true:=by
    refine List.all_eq_true.2 fun z hzz=>?_
    have h1:=List.all_eq_true.1 hz z hzz
    cases ho:l.toArray[z]? with
    |none=>rfl
    |some o=>
     simp only[ho] at h1
     exact List.all_eq_true.2 fun x hx=>List.all_eq_true.1 h1 x (.tail _ hx)
   exact Zd1 ho (Region.noSelect_spec hsel) (ZjQ hz (.head _)) _ _ _ _ _ (Region.free_spec ho hf) hr' hy (Z8 (Wj _)) (ZdL hk hsel hs _ _ (by rw[Bool.false_or];exact hz') hB' h)
theorem ZgG {l:List Oper}{F:List Blk->Act->Prop}{es:List Nat}(hsel:Region.noSelect l.toArray=true):∀(ps:List (Bool×List Nat))(listed:Array Bool)(a:Act),sgB l.toArray es ps listed=true->SG P w0 L l (EC P w0 l.toArray es L F es L) ps a->wpG P w0 l.toArray es L F (sgN ps+es.length) listed es L a
 |[],listed,a,hB,h=>by
  rw[sgN,Nat.zero_add]
  exact Zd5 es listed L a hB h
 |p::ps,listed,a,hB,h=>by
  simp only[sgB,Wq] at hB
  rw[sgN,Nat.add_assoc]
  exact ZdL (pu:=p.1) (k:=sgB l.toArray es ps) (G:=SG P w0 L l (EC P w0 l.toArray es L F es L) ps) (fun listed a hb hG=>ZgG hsel ps listed a hb hG) hsel p.2 listed a hB.1 hB.2 h
theorem Zhs {l:List Oper}{K:Env->Prop}{G:Act->Prop}(hK:∀E a,Rep n E a->K E->G a):∀(ps:List (Bool×List Nat))(E:Env)(a:Act),Rep n E a->JS P w0 n L l K ps E->SG P w0 L l G ps a
 |[],E,a,ha,h=>hK E a ha h
 |p::ps,E,a,ha,h=>Zbo (n:=n) (fun E' a' ha' hK'=>Zhs hK ps E' a' ha' hK') _ _ _ ha h
theorem Zfh {id:Nat}{l:List Oper}(ps:List (Bool×List Nat))(es:List Nat)(hm:P.follows .mixedOrders=true:=by exact mixed)(hB:sgA l.toArray ps es=true:=by kernel_rfl)
  (h:JS P w0 n L l (fun E'=>JE P w0 n l.toArray [] (fun E2 L2=>JX w0 n .normal Q E2 L2) (picks l es) E' L) ps E):J P w0 n (.region id l.toArray true) Q E L:=by
 refine⟨fun a w ha hw=>?_⟩
 simp only[sgA,Wq,decide_eq_true_eq] at hB
 obtain⟨⟨⟨hsel,hlen⟩,hall⟩,hlex⟩:=hB
 refine wp_region_any hm ?_
 have hz:∀i∈es,lwZ es i L=[]:=fun i hi=>by
  unfold lwZ
  rw[if_pos (by simpa using hi)]
 have H:=ZgG (P:=P) (w0:=w0) (L:=L) (F:=fun L a=>∀w,Own w0 L w->Q .normal a w) (es:=es) hsel ps _ a hlex
  (Zhs (n:=n) (fun E' a' ha' hK=>ZaL (n:=n) (fun E2 L2 a2 ha2 hx w hw=>hx.out a2 w ha2 hw) es E' L a' (by simpa using hall) hz ha' hK) ps E a ha h)
 have:=Za2 (P:=P) (Q:=Q) (fun L a w hF hw=>hF w hw) _ _ _ _ _ w.drew (hw.to (Ext.drew w)) H
 rw[hlen] at this
 exact this
end
section
variable {P : Program} {w0 : World} {n : Nat} {ops : Array Oper} {L L' Lw : List Blk} {E : Env} {K : Env -> List Blk -> Prop}
variable {rest : List Oper} {ty : TypeId} {pos : String} {aft : Array Edge} {gd : Option (Nat × Bool)} {x y : Operand} {T T0 : TypeId}
variable {α : Type} {enc : α -> Array Value} {k b : Nat} {xs : List α} {sp : List Value} {i : Int}
theorem eR {u:Value}{z:α}[hx:IsC (evl E x) (.pointer (some ⟨b,0+i.toNat*k,none⟩))][hy:IsC (evl E y) u][hk:SizeC P T k][MemC b L (row enc xs sp) T0][he:EncC enc k][hu:ValC enc u z][hU:UpdC b (row enc (xs.set i.toNat z) sp) L (row enc xs sp) T0 L'][hw:SblC Lw L']
  (hg:guardB ops E gd=some true) (s:i.toNat<xs.length) (h:JE P w0 n ops Lw K rest E L'):JE P w0 n ops Lw K (⟨none, .store T x y,ty,pos,aft,gd⟩::rest) E L:=by
 have h1:=he.size z
 have hle:=Nat.mul_le_mul_right k (show i.toNat+1<=xs.length from s)
 rw[Nat.add_mul] at hle
 exact ZdM (u:=u) k isE isE hU.out hk.out (by rw[hu.out,h1]) (by rw[ZaA (k:=k)];exact Nat.ble_eq_true_of_le (by omega)) (by rw[hu.out];exact he.one z) (by rw[hu.out,Nat.zero_add];exact ZjK xs sp _ z s) hg hw.out h
end
theorem wkS {P Q:Prop}(k:Q)(h:Wr Q->P:=by intro hq;simp only[JS,lk,picks,List.getElem?_cons_succ,List.getElem?_cons_zero];exact hq.out):P:=h ⟨k⟩
end Go.Vt
namespace Go.Vt
open Go.RowKit Go.Proofs
open Go.Proofs.Tryz (prog)
section
variable {P : Program} {T e : TypeId}
theorem Zch (w:World)(a:Option Addr)(l c:Nat)(h:P.underlying T=some (.slice e)):(binOp .eql T (.slice a l c) (.slice none 0 0)).run P w= .ok (.bool a.isNone) w:=by
 simp only[binOp]
 simp[run_equal_slice_nil w T e a l c h]
instance Zsp [h:UndC P T (.slice e)]:BinC P .eql T (.slice none 0 0) (.slice none 0 0) (.bool true):=⟨fun x y w=>by rw[eqGuard_at_slice];rfl,fun w=>Zch w none 0 0 h.out⟩
instance Zrt {a:Addr}{l c:Nat}[h:UndC P T (.slice e)]:BinC P .eql T (.slice (some a) l c) (.slice none 0 0) (.bool false):=⟨fun x y w=>by rw[eqGuard_at_slice];rfl,fun w=>Zch w (some a) l c h.out⟩
class PtrC (P:Program)(T:TypeId):Prop where
 out:P.underlying T=some (.pointer (P.pointee T))
instance ZsD [h:PtrC P T]:BinC P .neq T (.pointer none) (.pointer none) (.bool false):=⟨fun x y w=>by rw[eqGuard_at_pointer];rfl,fun w=>run_neq_pointer_nil w T none h.out⟩
instance Zsz {a:Addr}[h:PtrC P T]:BinC P .neq T (.pointer (some a)) (.pointer none) (.bool true):=⟨fun x y w=>by rw[eqGuard_at_pointer];rfl,fun w=>run_neq_pointer_nil w T (some a) h.out⟩
end
class NifC (P:Program)(T:TypeId):Prop where
 out:∀v w,(Instr.makeInterface T v).run P w= .ok (.iface T v) w
class MethC (P:Program)(t:TypeId)(v:Value)(name:String)(f:outParam FuncId)(r:outParam Value):Prop where
 out:∀w,(method (P.types.size+Made.depth) t v name).run P w= .ok (f,r) w
class NahC (P:Program)(t:TypeId)(v:Value)(name:String):Prop where
 out:∀w,(nilAhead (P.types.size+Made.depth) t v name).run P w= .ok (some false) w
section
variable {P : Program} {w0 : World} {n : Nat} {L : List Blk} {E : Env} {x : Operand} {v : Value}
variable {d : Option Tmp} {ty : TypeId} {pos : String} {aft : Array Edge} {gd : Option (Nat × Bool)}
instance Zr1 {a:Addr}[IsC (evl E x) (.pointer (some a))]:YlC P w0 n L E (.nilCheck x) (.pointer (some a)):=⟨fun d ty pos aft gd=>⟨fun b w hb _=>by
 unfold calm
 simp only[execOp,hb.ev (isE (x:=x)),Sem.run_pure]
 exact⟨rfl,Ext.refl _⟩⟩⟩
instance ZuL {T:TypeId}[hx:IsC (evl E x) v][h:NifC P T]:YlC P w0 n L E (.makeInterface T x) (.iface T v):=⟨fun d ty pos aft gd=>Z4 (fun _=>Instr.makeInterface T v) (fun a ha=>by simp only[execOp,ha.ev (isE (x:=x))]) (fun a w _ _=>h.out v w)⟩
instance ZvJ {name:String}{xs:List Operand}{l:List Value}[h:IsC (evsl E xs) l]:YlC P w0 n L E (.makeFunc (.method name) xs.toArray #[]) (.func (.method name) l.toArray #[]):=⟨fun d ty pos aft gd=>Z4 (fun _=>Instr.makeFunc (.method name) l.toArray #[]) (fun a ha=>by
 have h1:xs.toArray.map a.eval=l.toArray:=by rw[<-ha.evs xs l isS];simp
 simp only[execOp,h1,Array.map_empty]) (fun a w _ _=>by simp[Instr.makeFunc])⟩
instance Zrj {name:String}{t:TypeId}{u:Value}[hx:IsC (evl E x) (.func (.method name) [.iface t u].toArray #[])][h:NahC P t u name]:YlC P w0 n L E (.nilCheck x) (.func (.method name) [.iface t u].toArray #[]):=⟨fun d ty pos aft gd=>⟨fun b w hb _=>by
 unfold calm
 have h1:=h.out w
 have h2:(execOp b.eval ⟨d, .nilCheck x,ty,pos,aft,gd⟩).run P w= .ok (.value (.func (.method name) [.iface t u].toArray #[])) w:=by
  simp only[execOp,hb.ev (isE (x:=x))]
  simp[Sem.run_bind,h1]
 rw[h2]
 exact⟨rfl,Ext.refl _⟩⟩⟩
theorem ZkZ {name:String}{t:TypeId}{u r:Value}{f:FuncId}{xs:List Operand}{l:List Value}{ats:Array TypeId}{a:Act}{w:World}(hf:callableB P f=true)(hm:∀w,(method (P.types.size+Made.depth) t u name).run P w= .ok (f,r) w)(ha:Rep n E a)(hx:Env.ev E x=some (.iface t u))(hl:Env.evs E xs=some l):
  (execOp a.eval ⟨d, .call ⟨.invoke x name,xs.toArray,ats⟩,ty,pos,aft,gd⟩).run P w= .ok (.enter f (r::l).toArray) w:=by
 have h1:xs.toArray.map a.eval=l.toArray:=by rw[<-ha.evs xs l hl];simp
 simp only[execOp,resolve,h1,ha.ev hx,Sem.run_bind,Sem.run_pure,Result.andThen,invoke]
 have h2:(#[Value.iface t u]++l.toArray)[0]? =some (.iface t u):=by simp
 have h3:(#[Value.iface t u]++l.toArray).extract 1 (#[Value.iface t u]++l.toArray).size=l.toArray:=by apply Array.ext';simp
 simp only[h2,h3,callMethod,Sem.run_bind,hm,Result.andThen]
 have h4:(#[r]++l.toArray)=(r::l).toArray:=by simp
 rw[show Sem.run P program w=Result.ok P w from rfl]
 simp only[hm,h4]
 exact ZcI hf _ _
instance ZvE {name:String}{t:TypeId}{u r:Value}{f:FuncId}{xs:List Operand}{l:List Value}{ats:Array TypeId}{pre:Prop}[hx:IsC (evl E x) (.iface t u)][hl:IsC (evsl E xs) l][hm:MethC P t u name f r][hf:CallC P f][h:SpecM P w0 L f (r::l) v pre]:YcC P w0 n L E (.call ⟨.invoke x name,xs.toArray,ats⟩) v pre:=⟨fun hp _ _ _ _ _=>⟨fun a w ha hw=>by
 unfold calm
 rw[ZkZ hf.out hm.out ha isE isS]
 exact⟨rfl,h.out hp w hw⟩⟩⟩
end
end Go.Vt
namespace Go.Vt
open Go.RowKit
section
variable {α : Type} {enc : α -> Array Value} {k : Nat}
theorem ZhE [h:EncC enc k](xs:List α)(sp:List Value)(i f:Nat)(z:α)(us:List Value)(hi:i<xs.length)(hf:f+us.length<=k)(hz:spl (enc xs[i]) f us=enc z):spl (row enc xs sp) (i*k+f) us=row enc (xs.set i z) sp:=by
 have hle:=Nat.mul_le_mul_right k (show i+1<=xs.length from hi)
 rw[Nat.add_mul] at hle
 have hsz:=h.size z
 have hsx:=h.size xs[i]
 apply Array.ext_getElem?
 intro j
 rw[Zb5 _ _ _ _ (by rw[ZaA (k:=k)];omega)]
 by_cases h1:i*k<=j/\j<i*k+k
 ·obtain⟨m,rfl⟩:∃m,j=i*k+m:=⟨j-i*k,by omega⟩
  have hr:=Za3 (enc:=enc) (k:=k) (xs.set i z) sp i m (by simpa using hi) (by omega)
  rw[List.getElem_set_self] at hr
  rw[hr,<-hz,Zb5 _ _ _ _ (by omega),Za3 xs sp i m hi (by omega)]
  by_cases h2:f<=m/\m<f+us.length
  ·rw[if_pos (by omega),if_pos h2,show i*k+m-(i*k+f)=m-f by omega]
  ·rw[if_neg (by omega),if_neg h2]
 ·rw[if_neg (by omega)]
  rcases Nat.lt_or_ge j (xs.length*k) with h2|h2
  ·rcases Nat.eq_zero_or_pos k with h0|h0
   ·subst h0;simp at h2
   ·obtain⟨q,m,rfl,hm⟩:∃q m,j=q*k+m/\m<k:=⟨j / k,j % k,by rw[Nat.mul_comm];exact(Nat.div_add_mod j k).symm,Nat.mod_lt _ h0⟩
    have hq:q<xs.length:=by
     rcases Nat.lt_or_ge q xs.length with h3|h3
     ·exact h3
     ·have:=Nat.mul_le_mul_right k h3
      omega
    have hqi:i≠q:=by
     rintro rfl
     exact h1 ⟨by omega,by omega⟩
    rw[Za3 xs sp q m hq hm,Za3 _ sp q m (by simpa using hq) hm]
    simp[List.getElem_set_ne hqi]
  ·rw[row,row,List.getElem?_toArray,List.getElem?_toArray,List.getElem?_append_right (by rw[ZX (k:=k)];exact h2),List.getElem?_append_right (by rw[ZX (k:=k)];simpa using h2)]
   simp[ZX (k:=k)]
end
section
variable {P : Program} {w0 : World} {n : Nat} {ops : Array Oper} {L L' : List Blk} {E : Env}
variable {Q : Exit -> Act -> World -> Prop} {rest : List Oper}
variable {ty : TypeId} {pos : String} {aft : Array Edge} {gd : Option (Nat × Bool)} {x y : Operand} {T T0 : TypeId}
variable {α : Type} [Inhabited α] {enc : α -> Array Value} {k b f : Nat} {xs : List α} {sp : List Value} {i : Int}
theorem sRF {u:Value}{cs1:Array Value}[hx:IsC (evl E x) (.pointer (some ⟨b,0+i.toNat*k+f,none⟩))][hy:IsC (evl E y) u][MemC b L (row enc xs sp) T0][he:EncC enc k][hs:StC P T (enc (gi xs i)) f u cs1](z:α)(hz:cs1=enc z)[hU:UpdC b (row enc (xs.set i.toNat z) sp) L (row enc xs sp) T0 L']
  (hg:guardB ops E gd=some true) (s:i.toNat<xs.length) (h:JO P w0 n ops Q rest E L'):JO P w0 n ops Q (⟨none, .store T x y,ty,pos,aft,gd⟩::rest) E L:=by
 have h1:=he.size (gi xs i)
 have hfit:=Nat.le_of_ble_eq_true hs.fit
 have hle:=Nat.mul_le_mul_right k (show i.toNat+1<=xs.length from s)
 rw[Nat.add_mul] at hle
 refine ZbY (u:=u) u.cells.size isE isE hU.out hs.size rfl (by rw[ZaA (k:=k)];exact Nat.ble_eq_true_of_le (by omega)) hs.one ?_ hg rfl h
 rw[Nat.zero_add]
 refine ZhE xs sp i.toNat f z u.cells.toList s (by simp only[Array.length_toList];omega) ?_
 rw[<-Zbk s,hs.out,hz]
end
end Go.Vt
namespace Go.Vt
open Go.RowKit
section
variable {P : Program} {w0 : World} {n : Nat} {ops : Array Oper} {L L' Lw : List Blk} {E : Env}
variable {Q : Exit -> Act -> World -> Prop} {v : Value}
def wpK (P:Program)(w0:World)(ops:Array Oper)(As:List Nat)(Lw:List Blk)(F:List Blk->Act->Prop):Nat->Array Bool->List Nat->List Blk->Act->Prop
  |0,listed,es,L,a=>es=[]/\Region.ready .any ops listed=[]/\F L a
  | f + 1, listed, es, L, a => Region.ready .any ops listed ≠ [] /\ ∀ i ∈ Region.ready .any ops listed, ∃ o, ops[i]? = some o /\
      ((∃v,YieldsC P w0 L ops o v a/\wpK P w0 ops As Lw F f (listed.setIfInBounds i true) es L (a.put o.dst v))\/
       ∃es',(es=i::es'\/(As.contains i=true/\es'=es))/\Eff P w0 Lw ops L o a fun L' u=>wpK P w0 ops As Lw F f (listed.setIfInBounds i true) es' L' (a.put o.dst u))
theorem Znb {As:List Nat}{i:Nat}{oi:Oper}{F:List Blk->Act->Prop}(hi:ops[i]? =some oi)(hsel:∀(j:Nat)(o:Oper) cs b,ops[j]? =some o->o.op≠ .select cs b):
  ∀(f:Nat)(listed:Array Bool)(es:List Nat)(L:List Blk)(a:Act),
   (∀j oj,ops[j]? =some oj->j≠i->listed.getD j true=false->(∀e∈oj.after,Region.binds .any e=true->e.on≠i)->oi.apart ops oj=true)->
   i∈Region.ready .any ops listed->YieldsC P w0 Lw ops oi v a->Weak w0 Lw L->
   wpK P w0 ops As Lw F f (listed.setIfInBounds i true) es L (a.put oi.dst v)->wpK P w0 ops As Lw F (f+1) listed es L a:=by
 intro f
 induction f with
 |zero=>
  intro listed es L a _ hr hy hw H
  refine⟨fun h=>(by rw[h] at hr;cases hr),fun j hj=>?_⟩
  by_cases hji:j=i
  ·subst hji
   exact⟨oi,hi, .inl ⟨v,hy.weak hw,H⟩⟩
  ·have:=ready_mono hj hji
   rw[H.2.1] at this
   cases this
 |succ f ih=>
  intro listed es L a hfree hr hy hw H
  have hun:=(mem_ready.1 hr).1
  refine⟨fun h=>(by rw[h] at hr;cases hr),fun j hj=>?_⟩
  by_cases hji:j=i
  ·subst hji
   exact⟨oi,hi, .inl ⟨v,hy.weak hw,H⟩⟩
  ·obtain⟨hjun,oj,hoj,hall⟩:=mem_ready.1 hj
   have hnot:∀e∈oj.after,Region.binds .any e=true->e.on≠i:=fun e he hb heq=>by
    have h1:=hall e he hb
    rw[heq,getD_both hun] at h1
    cases h1
   obtain⟨h1,h2,h3⟩:=Oper.apart_spec (hfree j oj hoj hji hjun hnot)
   have hfree':∀q oq,ops[q]? =some oq->q≠i->(listed.setIfInBounds j true).getD q true=false->
     (∀e∈oq.after,Region.binds .any e=true->e.on≠i)->oi.apart ops oq=true:=fun q oq hq hqi hun' hno=>by
    refine hfree q oq hq hqi ?_ hno
    by_cases hjq:j=q
    ·subst hjq;exact hjun
    ·rw[getD_set_ne true hjq] at hun';exact hun'
   have keep:∀u,YieldsC P w0 Lw ops oi v (a.put oj.dst u):=fun u=>hy.same (execOp_put oi (fun cs b=>hsel i oi cs b hi) a oj.dst u h3) (wanted_put oi a oj.dst u h3)
   have hex:execOp (a.put oi.dst v).eval oj=execOp a.eval oj:=execOp_put oj (fun cs b=>hsel j oj cs b hoj) a oi.dst v h1
   have hwa:Region.wanted oj (yielded ops (a.put oi.dst v).tmps)=Region.wanted oj (yielded ops a.tmps):=wanted_put oj a oi.dst v h1
   have step:∀es' L' u,Weak w0 Lw L'->wpK P w0 ops As Lw F f ((listed.setIfInBounds i true).setIfInBounds j true) es' L' ((a.put oi.dst v).put oj.dst u)->wpK P w0 ops As Lw F (f+1) (listed.setIfInBounds j true) es' L' (a.put oj.dst u):=fun es' L' u hw' hh=>by
    refine ih _ _ _ _ hfree' (ready_mono hr (Ne.symm hji)) (keep u) hw' ?_
    rw[Array.setIfInBounds_comm _ _ hji,<-Act.put_comm a v u h2]
    exact hh
   obtain⟨o,ho,hH⟩:=H.2 j (ready_mono hj hji)
   have:o=oj:=Option.some.inj (ho.symm.trans hoj)
   subst this
   refine⟨o,ho, ?_⟩
   rcases hH with⟨u,hu,hK⟩|⟨es',he,hE⟩
   ·exact .inl ⟨u,hu.same hex.symm hwa.symm,step _ _ _ hw hK⟩
   ·refine .inr ⟨es',he,hwa▸hE.1,fun w hw1=>?_⟩
    have hH:=hE.2 w hw1
    rw[hex] at hH
    exact hH.mono fun u w' ⟨L',h5,h6,h7⟩=>⟨L',h5,h6,step _ _ _ h6 h7⟩
theorem ZaY {As:List Nat}{F:List Blk->Act->Prop}(hF:∀L a w,F L a->Own w0 L w->Q .normal a w):
  ∀(f:Nat)(listed:Array Bool)(es:List Nat)(L:List Blk)(a:Act)(w:World),Own w0 L w->wpK P w0 ops As Lw F f listed es L a->wpAny P .any ops Q f listed a w
 |0,listed,es,L,a,w,hw,h=>⟨h.2.1,hF _ _ _ h.2.2 hw⟩
 |f+1,listed,es,L,a,w,hw,h=>by
  refine⟨fun h0=>absurd h0 h.1,fun i hi=>?_⟩
  obtain⟨o,ho,hH⟩:=h.2 i hi
  unfold wpOp
  simp only[ho]
  rcases hH with⟨v,hy,hK⟩|⟨es',_,hwt,hE⟩
  ·rcases hy with⟨hwt,hy⟩|⟨hwt,rfl⟩
   ·rw[if_pos hwt]
    exact .inl (Zcv (hy w hw) fun w' hx=>ZaY hF f _ _ _ _ _ (hw.to hx) hK)
   ·rw[if_neg (by rw[hwt];simp)]
    exact ZaY hF f _ _ _ _ _ hw hK
  ·rw[if_pos hwt]
   exact .inl (Zgz ((hE w hw).mono fun u w' ⟨L',hw',_,hK⟩=>ZaY hF f _ _ _ _ _ hw' hK))
theorem Zeb {As:List Nat}{F:List Blk->Act->Prop}:∀(es:List Nat)(listed:Array Bool)(L:List Blk)(a:Act),seqE ops es listed=true->EC P w0 ops [] Lw F es L a->wpK P w0 ops As Lw F es.length listed es L a
 |[],listed,L,a,hB,h=>⟨rfl,by simpa [seqE] using hB,h⟩
 |i::es,listed,L,a,hB,h=>by
  simp only[seqE,Wq,decide_eq_true_eq] at hB
  refine⟨by rw[hB.1];simp,fun j hj=>?_⟩
  rw[hB.1] at hj
  have:j=i:=by simpa using hj
  subst this
  obtain⟨o,ho,hE⟩:=h
  exact⟨o,ho, .inr ⟨es, .inl rfl,Eff.mono hE fun L' u _ hK=>Zeb es _ _ _ hB.2 hK⟩⟩
def AK (P:Program)(ops:Array Oper)(F:List Blk->Act->Prop):List Nat->List Blk->Act->Prop
 |[],L,a=>F L a
 |i::is,L,a=>∃o T z,ops[i]? =some o/\isNew o=some T/\(P.info? T).bind (·.zero)=some z/\∀b,AK P ops F is (⟨b,z.cells,T⟩::L) (a.put o.dst (.pointer (some ⟨b,0,none⟩)))
theorem AK.perm {F:List Blk->Act->Prop}(hF:∀L M a,L.Perm M->F L a->F M a):∀(is:List Nat)(L M:List Blk)(a:Act),L.Perm M->AK P ops F is L a->AK P ops F is M a
 |[],L,M,a,p,h=>hF L M a p h
 |i::is,L,M,a,p,⟨o,T,z,h1,h2,h3,h⟩=>⟨o,T,z,h1,h2,h3,fun b=>AK.perm hF is _ _ _ (p.cons _) (h b)⟩
def dsB (ops:Array Oper):List Nat->Bool
 |[]=>true
 |i::is=>is.all (fun j=>match(ops[i]?).bind (·.dst),(ops[j]?).bind (·.dst) with|some d,some e=>d != e|_,_=>true)&&dsB ops is
theorem AK.pick {F:List Blk->Act->Prop}(hF:∀L M a,L.Perm M->F L a->F M a):∀(is:List Nat)(L:List Blk)(a:Act)(i:Nat),i∈is->dsB ops is=true->AK P ops F is L a->
  ∃o T z,ops[i]? =some o/\isNew o=some T/\(P.info? T).bind (·.zero)=some z/\∀b,AK P ops F (is.erase i) (⟨b,z.cells,T⟩::L) (a.put o.dst (.pointer (some ⟨b,0,none⟩)))
 |[],_,_,_,h,_,_=>by cases h
 |j::is,L,a,i,hi,hd,⟨oj,Tj,zj,h1,h2,h3,h⟩=>by
  by_cases hij:j=i
  ·subst hij
   rw[List.erase_cons_head]
   exact⟨oj,Tj,zj,h1,h2,h3,h⟩
  ·have hi':i∈is:=by
    rcases List.mem_cons.1 hi with h4|h4
    ·exact absurd h4.symm hij
    ·exact h4
   simp only[dsB,Wq,List.all_eq_true] at hd
   obtain⟨o,T,z,k1,k2,k3, -⟩:=AK.pick hF is _ _ i hi' hd.2 (h 0)
   refine⟨o,T,z,k1,k2,k3,fun b=>?_⟩
   rw[List.erase_cons_tail (by simpa using hij)]
   refine⟨oj,Tj,zj,h1,h2,h3,fun bj=>?_⟩
   obtain⟨o',T',z',m1,m2,m3,m⟩:=AK.pick hF is _ _ i hi' hd.2 (h bj)
   obtain rfl:o'=o:=Option.some.inj (m1.symm.trans k1)
   obtain rfl:T'=T:=Option.some.inj (m2.symm.trans k2)
   obtain rfl:z'=z:=Option.some.inj (m3.symm.trans k3)
   have hne:∀d e,oj.dst=some d->o'.dst=some e->d≠e:=fun d e hd1 he1=>by
    have:=hd.1 i hi'
    simp[h1,k1,hd1,he1] at this
    exact this
   have hput:(a.put oj.dst (.pointer (some ⟨bj,0,none⟩))).put o'.dst (.pointer (some ⟨b,0,none⟩))=(a.put o'.dst (.pointer (some ⟨b,0,none⟩))).put oj.dst (.pointer (some ⟨bj,0,none⟩)):=by
    obtain⟨-, -,d,hd1⟩:=ZbQ h2
    obtain⟨-, -,e,he1⟩:=ZbQ k2
    have hde:=hne d e hd1 he1
    rw[hd1,he1]
    simp only[Act.put]
    rw[Array.setIfInBounds_comm _ _ hde]
   have hm:=m b
   rw[hput] at hm
   exact AK.perm hF _ _ _ _ (.swap _ _ _) hm
def alB (ops:Array Oper)(es:List Nat):Nat->List Nat->Array Bool->Bool
 |_,[],listed=>seqE ops es listed
 |0,_::_,_=>false
 |f+1,i::is,listed=>decide (Region.ready .any ops listed=i::is)&&(i::is).all fun j=>alB ops es f ((i::is).erase j) (listed.setIfInBounds j true)
theorem Zl7 {As:List Nat}{F:List Blk->Act->Prop}{es:List Nat}(hF:∀L M a,L.Perm M->F L a->F M a)(hw:∀e:Blk,Weak w0 Lw L->Weak w0 Lw (e::L)):∀(f:Nat)(is:List Nat)(listed:Array Bool)(L:List Blk)(a:Act),alB ops es f is listed=true->dsB ops is=true->(∀i∈is,As.contains i=true)->is.Nodup->Weak w0 Lw L->
  AK P ops (fun L a=>EC P w0 ops [] Lw F es L a) is L a->wpK P w0 ops As Lw F (is.length+es.length) listed es L a:=by
 have hEC:∀(es:List Nat)(L M:List Blk)(a:Act),L.Perm M->EC P w0 ops [] Lw F es L a->EC P w0 ops [] Lw F es M a:=fun es L M a p h=>by
  cases es with
  |nil=>exact hF L M a p h
  |cons i es=>
   obtain⟨o,ho,h1,h2⟩:=h
   exact⟨o,ho,h1,fun w hw=>h2 w (hw.perm p.symm)⟩
 intro f
 induction f with
 |zero=>
  intro is listed L a hB hd hA hnd hw h
  cases is with
  |nil=>
   rw[Wx,Nat.zero_add]
   exact Zeb es listed L a hB h
  |cons i is=>cases hB
 |succ f ih=>
  intro is listed L a hB hd hA hnd hw h
  cases is with
  |nil=>
   rw[Wx,Nat.zero_add]
   exact Zeb es listed L a hB h
  |cons i is=>
   simp only[alB,Wq,decide_eq_true_eq,List.all_eq_true] at hB
   rw[show(i::is).length+es.length=(is.length+es.length)+1 by simp only[Wu];omega]
   refine⟨by rw[hB.1];simp,fun j hj=>?_⟩
   rw[hB.1] at hj
   obtain⟨o,T,z,h1,h2,h3,hk⟩:=AK.pick (hEC es) _ _ _ j hj hd h
   obtain⟨hop,hgd,d,hdd⟩:=ZbQ h2
   refine⟨o,h1, .inr ⟨es, .inr ⟨hA j hj,rfl⟩,by simp[Region.wanted,hgd],fun w hw1=>?_⟩⟩
   have hrun:(execOp a.eval o).run P w= .ok (.value (.pointer (some ⟨w.heap.size,0,none⟩))) (w.alloc (.cells z.cells T)):=by
    cases hinf:P.info? T with
    |none=>simp[hinf] at h3
    |some ti=>
     have hz':ti.zero=some z:=by simpa [hinf] using h3
     obtain⟨dst,op,ty,pos,aft,gd⟩:=o
     simp only at hop
     subst hop
     simp[execOp,Instr.alloc,zeroValue,typeInfo,hinf,hz',newVar,newRow]
   rw[hrun]
   have hwk:Weak w0 Lw (⟨w.heap.size,z.cells,T⟩::L):=fun w1 h1=>hw w1 (h1.sub (List.sublist_cons_self _ _))
   refine⟨_,hw1.alloc z.cells T,hwk, ?_⟩
   have hlen:((i::is).erase j).length=is.length:=by rw[List.length_erase_of_mem hj];rfl
   have hds:dsB ops ((i::is).erase j)=true:=by
    have key:∀l:List Nat,dsB ops l=true->∀j,dsB ops (l.erase j)=true:=fun l=>by
     induction l with
     |nil=>intro _ j;rfl
     |cons x l ihl=>
      intro h j
      simp only[dsB,Wq] at h
      rw[List.erase_cons]
      split
      ·exact h.2
      ·simp only[dsB,Wq]
       exact⟨List.all_eq_true.2 fun y hy=>List.all_eq_true.1 h.1 y (List.mem_of_mem_erase hy),ihl h.2 j⟩
    exact key _ hd j
   have:=ih ((i::is).erase j) (listed.setIfInBounds j true) _ _ (hB.2 j hj) hds (fun q hq=>hA q (List.mem_of_mem_erase hq)) (hnd.erase j) hwk (hk w.heap.size)
   rw[hlen] at this
   exact this
def drlB (ops:Array Oper)(N:Nat)(P:Program)(hs As es:List Nat):Bool:=
 Region.noSelect ops&&decide (hs.length+(As.length+es.length)=ops.size)&&dsB ops As&&decide As.Nodup&&es.all (fun i=>decide (i<ops.size))&&
  As.all (fun i=>match ops[i]? with|some o=>dstOk N o.dst|none=>false)&&lexF ops (alB ops es As.length As) hs (Array.replicate ops.size false)
theorem Zct {l:List Oper}{As:List Nat}{F:List Blk->Act->Prop}{es:List Nat}{G:Act->Prop}{N:Nat}{k:Array Bool->Bool}(hk:∀listed a,k listed=true->G a->wpK P w0 l.toArray As Lw F N listed es L a)(hsel:Region.noSelect l.toArray=true)(hw:Weak w0 Lw L):∀(hs:List Nat)(listed:Array Bool)(a:Act),lexF l.toArray k hs listed=true->
  AH P w0 Lw l.toArray G (picks l hs) a->wpK P w0 l.toArray As Lw F (hs.length+N) listed es L a
 |[],listed,a,hB,h=>by
  rw[Wx,Nat.zero_add]
  exact hk listed a hB h
 |i::hs,listed,a,hB,h=>by
  simp only[lexF,Wq] at hB
  obtain⟨⟨hr,hf⟩,hB'⟩:=hB
  have hr':i∈Region.ready .any l.toArray listed:=by simpa using hr
  obtain⟨_,o,ho,_⟩:=mem_ready.1 hr'
  have ho':l[i]? =some o:=by simpa using ho
  simp only[picks,ho',AH] at h
  obtain⟨v,hy,h⟩:=h
  rw[show(i::hs).length+N=(hs.length+N)+1 by simp only[Wu];omega]
  exact Znb ho (Region.noSelect_spec hsel) _ _ _ _ _ (Region.free_spec ho hf) hr' hy hw (Zct hk hsel hw hs _ _ hB' h)
theorem Zh0 {l:List Oper}{K:Env->List Blk->Prop}{F:List Blk->Act->Prop}(hK:∀E L a,Rep n E a->K E L->F L a):∀(is:List Nat)(E:Env)(L:List Blk)(a:Act),is.all (fun i=>match l.toArray[i]? with|some o=>dstOk n o.dst|none=>false)=true->Rep n E a->JN P n K (picks l is) E L->AK P l.toArray F is L a
 |[],E,L,a,_,ha,h=>hK E L a ha h
 |i::is,E,L,a,hi,ha,h=>by
  simp only[List.all_cons,Wq] at hi
  cases ho:l[i]? with
  |none=>simp[ho] at hi
  |some o=>
   simp only[picks,ho] at h
   obtain⟨T,z,h1,h2,h3⟩:=h
   have hd:dstOk n o.dst=true:=by simpa [ho] using hi.1
   exact⟨o,T,z,by simpa using ho,h1,h2,fun b=>Zh0 hK is _ _ _ hi.2 (ha.put _ _ hd) (h3 b)⟩
theorem Zb4 {id:Nat}{l:List Oper}(hs As es:List Nat)(Lw:List Blk)(hm:P.follows .mixedOrders=true:=by exact mixed)(hB:drlB l.toArray n P hs As es=true:=by kernel_rfl)(hL:Lw.Sublist L:=by first|exact Wj _|exact Wk _|exact sbl|(repeat(first|exact Wj _|exact Wk _|refine List.Sublist.cons_cons _ ?_|refine List.Sublist.cons _ ?_|refine List.Sublist.trans ?_ (List.sublist_append_right _ _))))
  (h:JH P w0 n Lw l.toArray (fun E'=>JN P n (fun E1 L1=>JE P w0 n l.toArray Lw (fun E2 L2=>JX w0 n .normal Q E2 L2) (picks l es) E1 L1) (picks l As) E' L) (picks l hs) E):J P w0 n (.region id l.toArray true) Q E L:=by
 refine⟨fun a w ha hw=>?_⟩
 simp only[drlB,Wq,decide_eq_true_eq] at hB
 obtain⟨⟨⟨⟨⟨⟨hsel,hlen⟩,hds⟩,hnd⟩,hes⟩,hAs⟩,hlex⟩:=hB
 refine wp_region_any hm ?_
 have hF:∀L M (a:Act),L.Perm M->(∀w,Own w0 L w->Q .normal a w)->(∀w,Own w0 M w->Q .normal a w):=fun L M a p h w hw=>h w (hw.perm p.symm)
 have H:wpK P w0 l.toArray As Lw (fun L a=>∀w,Own w0 L w->Q .normal a w) (hs.length+(As.length+es.length)) (Array.replicate l.toArray.size false) es L a:=
  Zct (k:=alB l.toArray es As.length As) (G:=fun a=>AK P l.toArray (fun L a=>EC P w0 l.toArray [] Lw (fun L a=>∀w,Own w0 L w->Q .normal a w) es L a) As L a)
   (fun listed a hb hG=>Zl7 hF (L:=L) (fun e h w1 h1=>h w1 (h1.sub (List.sublist_cons_self _ _))) As.length As listed L a hb hds (fun i hi=>by simpa using hi) hnd (Z8 hL) hG) hsel (Z8 hL) hs _ a hlex
   (Zbo (n:=n) (fun E' a' ha' hK=>Zh0 (n:=n) (fun E1 L1 a1 ha1 h1=>ZaL (n:=n) (Lj:=Lw) (fun E2 L2 a2 ha2 hx w hw=>hx.out a2 w ha2 hw) es E1 L1 a1 (by simpa using hes) (fun _ _=>rfl) ha1 h1) As E' L a' hAs ha' hK) _ _ _ ha h)
 have:=ZaY (P:=P) (Q:=Q) (fun L a w hF hw=>hF w hw) _ _ _ _ _ w.drew (hw.to (Ext.drew w)) H
 rw[hlen] at this
 exact this
inductive Tr where
 |fin
 |v (hs:List Nat) (t:Tr)
 |e1 (i:Nat) (t:Tr)
 |e2 (i:Nat) (t:Tr) (j:Nat) (u:Tr)
def trB (ops:Array Oper):Tr->Array Bool->Bool
 | .fin,listed=>(Region.ready .any ops listed).isEmpty
 | .v hs t,listed=>lexF ops (trB ops t) hs listed
 | .e1 i t,listed=>decide (Region.ready .any ops listed=[i])&&trB ops t (listed.setIfInBounds i true)
 | .e2 i t j u,listed=>decide (Region.ready .any ops listed=[i,j])&&(trB ops t (listed.setIfInBounds i true)&&trB ops u (listed.setIfInBounds j true))
def trN :Tr->Nat
 | .fin=>0
 | .v hs t=>hs.length+trN t
 | .e1 _ t=>trN t+1
 | .e2 _ t _ _=>trN t+1
def trC (k:Nat):Tr->Bool
 | .fin=>true
 | .v _ t=>trC k t
 | .e1 i t=>decide (i<k)&&trC k t
 | .e2 i t j u=>decide (i<k)&&(decide (j<k)&&(decide (trN t=trN u)&&(trC k t&&trC k u)))
def trA (ops:Array Oper)(t:Tr):Bool:=Region.noSelect ops&&(decide (trN t=ops.size)&&(trC ops.size t&&trB ops t (Array.replicate ops.size false)))
def AT (P:Program)(w0:World)(l:List Oper)(Lw:List Blk)(F:List Blk->Act->Prop):Tr->List Blk->Act->Prop
 | .fin,L,a=>F L a
 | .v hs t,L,a=>AH P w0 Lw l.toArray (fun a1=>AT P w0 l Lw F t L a1) (picks l hs) a
 | .e1 i t,L,a=>EC P w0 l.toArray [] Lw (fun L1 a1=>AT P w0 l Lw F t L1 a1) [i] L a
 | .e2 i t j u,L,a=>EC P w0 l.toArray [] Lw (fun L1 a1=>AT P w0 l Lw F t L1 a1) [i] L a/\EC P w0 l.toArray [] Lw (fun L1 a1=>AT P w0 l Lw F u L1 a1) [j] L a
def JT (P:Program)(w0:World)(n:Nat)(l:List Oper)(Lw:List Blk)(K:Env->List Blk->Prop):Tr->Env->List Blk->Prop
 | .fin,E,L=>K E L
 | .v hs t,E,L=>JH P w0 n Lw l.toArray (fun E1=>JT P w0 n l Lw K t E1 L) (picks l hs) E
 | .e1 i t,E,L=>JE P w0 n l.toArray Lw (fun E1 L1=>JT P w0 n l Lw K t E1 L1) (picks l [i]) E L
 | .e2 i t j u,E,L=>JE P w0 n l.toArray Lw (fun E1 L1=>JT P w0 n l Lw K t E1 L1) (picks l [i]) E L/\JE P w0 n l.toArray Lw (fun E1 L1=>JT P w0 n l Lw K u E1 L1) (picks l [j]) E L
theorem ZcK {l:List Oper}{K:Env->List Blk->Prop}{F:List Blk->Act->Prop}(hK:∀E L a,Rep n E a->K E L->F L a):∀(t:Tr)(E:Env)(L:List Blk)(a:Act),trC l.length t=true->Rep n E a->JT P w0 n l Lw K t E L->AT P w0 l Lw F t L a
 | .fin,E,L,a,_,ha,h=>hK E L a ha h
 | .v hs t,E,L,a,hc,ha,h=>Zbo (n:=n) (fun E1 a1 ha1 h1=>ZcK hK t E1 L a1 hc ha1 h1) _ _ _ ha h
 | .e1 i t,E,L,a,hc,ha,h=>by
  simp only[trC,Wq,decide_eq_true_eq] at hc
  exact ZaL (n:=n) (Lj:=Lw) (fun E1 L1 a1 ha1 h1=>ZcK hK t E1 L1 a1 hc.2 ha1 h1) [i] E L a (by simpa using hc.1) (fun _ _=>rfl) ha h
 | .e2 i t j u,E,L,a,hc,ha,h=>by
  simp only[trC,Wq,decide_eq_true_eq] at hc
  exact⟨ZaL (n:=n) (Lj:=Lw) (fun E1 L1 a1 ha1 h1=>ZcK hK t E1 L1 a1 hc.2.2.2.1 ha1 h1) [i] E L a (by simpa using hc.1) (fun _ _=>rfl) ha h.1,
   ZaL (n:=n) (Lj:=Lw) (fun E1 L1 a1 ha1 h1=>ZcK hK u E1 L1 a1 hc.2.2.2.2 ha1 h1) [j] E L a (by simpa using hc.2.1) (fun _ _=>rfl) ha h.2⟩
theorem Zcj {l:List Oper}{F:List Blk->Act->Prop}(hsel:Region.noSelect l.toArray=true):∀(t:Tr)(listed:Array Bool)(L:List Blk)(a:Act),trC l.length t=true->trB l.toArray t listed=true->Weak w0 Lw L->AT P w0 l Lw F t L a->wpK P w0 l.toArray (List.range l.length) Lw F (trN t) listed [] L a
 | .fin,listed,L,a,_,hB,_,h=>⟨rfl,by simpa [trB] using hB,h⟩
 | .v hs t,listed,L,a,hc,hB,hw,h=>Zct (k:=trB l.toArray t) (G:=fun a1=>AT P w0 l Lw F t L a1) (fun listed a1 hb hG=>Zcj hsel t listed L a1 hc hb hw hG) hsel hw hs listed a hB h
 | .e1 i t,listed,L,a,hc,hB,hw,h=>by
  simp only[trC,Wq,decide_eq_true_eq] at hc
  simp only[trB,Wq,decide_eq_true_eq] at hB
  refine⟨by rw[hB.1];simp,fun q hq=>?_⟩
  rw[hB.1,Wo] at hq
  subst hq
  obtain⟨o,ho,hE⟩:=h
  exact⟨o,ho, .inr ⟨[], .inr ⟨by simpa using hc.1,rfl⟩,Eff.mono hE fun L' u hw' hK=>Zcj hsel t _ _ _ hc.2 hB.2 hw' hK⟩⟩
 | .e2 i t j u,listed,L,a,hc,hB,hw,h=>by
  simp only[trC,Wq,decide_eq_true_eq] at hc
  simp only[trB,Wq,decide_eq_true_eq] at hB
  refine⟨by rw[hB.1];simp,fun q hq=>?_⟩
  rw[hB.1] at hq
  rcases List.mem_cons.1 hq with h1|h1
  ·subst h1
   obtain⟨o,ho,hE⟩:=h.1
   exact⟨o,ho, .inr ⟨[], .inr ⟨by simpa using hc.1,rfl⟩,Eff.mono hE fun L' u hw' hK=>Zcj hsel t _ _ _ hc.2.2.2.1 hB.2.1 hw' hK⟩⟩
  ·rw[Wo] at h1
   subst h1
   obtain⟨o,ho,hE⟩:=h.2
   refine⟨o,ho, .inr ⟨[], .inr ⟨by simpa using hc.2.1,rfl⟩,Eff.mono hE fun L' u' hw' hK=>?_⟩⟩
   show wpK P w0 l.toArray (List.range l.length) Lw F (trN t) _ [] L' _
   rw[hc.2.2.1]
   exact Zcj hsel u _ _ _ hc.2.2.2.2 hB.2.2 hw' hK
theorem ZH {id:Nat}{l:List Oper}(t:Tr)(Lw:List Blk)(hm:P.follows .mixedOrders=true:=by exact mixed)(hB:trA l.toArray t=true:=by kernel_rfl)(hL:Lw.Sublist L:=by first|exact Wj _|exact Wk _|exact sbl|(repeat(first|exact Wj _|exact Wk _|refine List.Sublist.cons_cons _ ?_|refine List.Sublist.cons _ ?_|refine List.Sublist.trans ?_ (List.sublist_append_right _ _))))
  (h:JT P w0 n l Lw (fun E2 L2=>JX w0 n .normal Q E2 L2) t E L):J P w0 n (.region id l.toArray true) Q E L:=by
 refine⟨fun a w ha hw=>?_⟩
 simp only[trA,Wq,decide_eq_true_eq] at hB
 obtain⟨hsel,hlen,hc,hlex⟩:=hB
 refine wp_region_any hm ?_
 have hc':trC l.length t=true:=by simpa using hc
 have H:=Zcj (P:=P) (F:=fun L a=>∀w,Own w0 L w->Q .normal a w) hsel t _ L a hc' hlex (Z8 hL) (ZcK (n:=n) (fun E2 L2 a2 ha2 hx w hw=>hx.out a2 w ha2 hw) t E L a hc' ha h)
 have:=ZaY (P:=P) (Q:=Q) (fun L a w hF hw=>hF w hw) _ _ _ _ _ w.drew (hw.to (Ext.drew w)) H
 rw[hlen] at this
 exact this
end
theorem wkX {P Q:Prop}(k:Q)(h:Wr Q->P:=by intro hq;simp only[JT,picks,List.getElem?_cons_succ,List.getElem?_cons_zero];exact hq.out):P:=h ⟨k⟩
end Go.Vt
