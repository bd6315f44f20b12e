/- that the gaps between reports are those of the chain (part 12 of 32.) Conditions: those that each statement names. -/
import Derived.Maps.RangeRun
import Derived.Test.YtjicdlilgjdefaaGreatDoorKG1
import Derived.Test.YtjicdlilgjdefaaGreatDoorKG4
import Derived.Test.YtjicdlilgjdefaaGreatDoorKG9
import Derived.Test.YtjicdlilgjdefaaGreatDoorKG10
import Derived.Test.YtjicdlilgjdefaaGreatDoorKG11
set_option linter.unusedSimpArgs false
set_option linter.unusedVariables false
set_option maxHeartbeats 2000000
set_option linter.unusedSectionVars false
set_option maxRecDepth 100000
namespace Go.Vt
open Go.RowKit
open Go.ChangeMaps (setBlock)
section
variable {κ α : Type} [DecidableEq κ]
def entL (ek:κ->Value)(ev:α->Value):Nat->List (κ×α)->List MapEntry
 |_,[]=>[]
 |i,p::l=>{key:=ek p.1,val:=ev p.2,born:=i}::entL ek ev (i+1) l
def mapO (ek:κ->Value)(ev:α->Value)(l:List (κ×α)):Obj:= .map (entL ek ev 0 l).toArray l.length
def itO (b n:Nat)(seen:List Nat):Obj:= .mapIter (some b) n seen.toArray n
def mget :List (κ×α)->κ->Option α
 |[],_=>none
 |p::l,x=>if x=p.1 then some p.2 else mget l x
def mput :List (κ×α)->κ->α->List (κ×α)
 |[],x,v=>[(x,v)]
 |p::l,x,v=>if x=p.1 then(x,v)::l else p::mput l x v
def fnd (ev:α->Value):List (κ×α)->κ->Nat->Option (Nat×Value)
 |[],_,_=>none
 |p::l,x,i=>if x=p.1 then some (i,ev p.2) else fnd ev l x (i+1)
variable {ek : κ -> Value} {ev : α -> Value}
theorem Zbp :∀(l:List (κ×α))(i:Nat),(entL ek ev i l).length=l.length
 |[],_=>rfl
 |_::l,i=>congrArg Nat.succ (Zbp l (i+1))
theorem ZaZ :∀(l:List (κ×α))(i j:Nat)(h:j<l.length),(entL ek ev i l)[j]? =some {key:=ek l[j].1,val:=ev l[j].2,born:=i+j}
 |_::l,i,0,_=>rfl
 |_::l,i,j+1,h=>by
  have:=ZaZ l (i+1) j (by simpa using h)
  simp only[entL,List.getElem?_cons_succ,this,List.getElem_cons_succ,Option.some.injEq,MapEntry.mk.injEq,true_and]
  omega
theorem Zfv (p:κ×α):∀(l:List (κ×α))(i:Nat),entL ek ev i (l++[p])=entL ek ev i l++[{key:=ek p.1,val:=ev p.2,born:=i+l.length}]
 |[],i=>rfl
 |q::l,i=>by
  have:=Zfv p l (i+1)
  simp only[Wf,entL,this,Wu,List.cons.injEq,true_and]
  rw[show i+1+l.length=i+(l.length+1) by omega]
theorem ZdX :∀{l:List (κ×α)} {x:κ} {i:Nat},fnd ev l x i=none->mget l x=none/\∀v,mput l x v=l++[(x,v)]
 |[],_,_,_=>⟨rfl,fun _=>rfl⟩
 |p::l,x,i,h=>by
  simp only[fnd] at h
  split at h
  ·cases h
  ·rename_i hx
   obtain⟨h1,h2⟩:=ZdX h
   exact⟨by simp[mget,hx,h1],fun v=>by simp[mput,hx,h2 v]⟩
theorem ZdU :∀{l:List (κ×α)} {x:κ} {i j:Nat} {u:Value},fnd ev l x i=some (j,u)->∃k,∃h:k<l.length,j=i+k/\l[k].1=x/\mget l x=some l[k].2/\u=ev l[k].2/\∀v,mput l x v=l.set k (x,v)
 |p::l,x,i,j,u,h=>by
  simp only[fnd] at h
  split at h
  ·rename_i hx
   simp only[Option.some.injEq,Prod.mk.injEq] at h
   exact⟨0,by simp,by omega,hx.symm,by simp[mget,hx],h.2.symm,fun v=>by simp[mput,hx]⟩
  ·rename_i hx
   obtain⟨k,hk,h1,h2,h3,h4,h5⟩:=ZdU h
   exact⟨k+1,by simpa using hk,by omega,by simpa using h2,by simp[mget,hx,h3],by simpa using h4,fun v=>by simp[mput,hx,h5 v]⟩
end
@[reducible] def kA {κ : Type} (enc : κ -> Array Value) (z : κ) : Value := .agg (enc z)
class KeyC {κ:Type}[DecidableEq κ](P:Program)(K:TypeId)(ek:κ->Value):Prop where
 chk:∀(e:Bool)(x:κ)(w:World),(Instr.checkKey e 10000 K (ek x)).run P w= .ok () w
 same:∀x:κ,Instr.sameBits 10000 (ek x) (ek x)=true
 find:∀{α:Type}(ev:α->Value)(l:List (κ×α))(x:κ)(w:World),(Instr.findKey K (ek x) (entL ek ev 0 l)).run P w= .ok (fnd ev l x 0) w
section
variable {P : Program} {κ α : Type} [DecidableEq κ] {ek : κ -> Value} {ev : α -> Value} {K : TypeId}
theorem Zlg (heq:∀(x y:κ)(w:World),(Op.equal K (ek x) (ek y)).run P w= .ok (decide (x=y)) w)(x:κ)(w:World):∀(l:List (κ×α))(i j:Nat),(Instr.findAsking K (ek x) (entL ek ev i l) j).run P w= .ok (fnd ev l x j) w
 |[],_,_=>rfl
 |p::l,i,j=>by
  simp only[entL,Instr.findAsking,fnd,Sem.run_bind,heq,Result.andThen]
  by_cases h:x=p.1
  ·simp[h]
  ·simp only[h,decide_false,Bool.false_eq_true,if_false]
   exact Zlg heq x w l (i+1) (j+1)
theorem Zey {fs:Array Field}(hu:P.underlying K=some (.struct fs))(heq:∀(x y:κ)(w:World),(Op.equal K (ek x) (ek y)).run P w= .ok (decide (x=y)) w){α:Type}(ev:α->Value)(l:List (κ×α))(x:κ)(w:World):(Instr.findKey K (ek x) (entL ek ev 0 l)).run P w= .ok (fnd ev l x 0) w:=by
 have hr:=Zlg (ev:=ev) heq x w l 0 0
 unfold Instr.findKey
 simp only[Sem.run_bind,run_underlying hu,Result.andThen]
 cases l with
 |nil=>rfl
 |cons p l=>exact hr
theorem ZgB (k:IntKind)(x:Int){α:Type}(ev:α->Value):∀(l:List (Int×α))(i j:Nat),Instr.findNow (.int k) (.int k x) (entL (Value.int k) ev i l) j=some (fnd ev l x j)
 |[],_,_=>rfl
 |p::l,i,j=>by
  have ih:=ZgB k x ev l (i+1) (j+1)
  by_cases h:x=p.1
  ·simp[entL,Instr.findNow,Instr.sameNow,fnd,h]
  ·have hb:(x==p.1)=false:=by simpa using h
   simp only[entL,Instr.findNow,Instr.sameNow,if_true,hb,fnd,if_neg h,ih]
theorem Zrb {k:IntKind}(hu:P.underlying K=some (.int k)):KeyC P K (Value.int k) where
 chk e x w:=by
  unfold Instr.checkKey
  simp[Sem.run_bind,run_underlying hu,Result.andThen]
 same x:=by simp[Instr.sameBits]
 find ev l x w:=by
  unfold Instr.findKey
  simp only[Sem.run_bind,run_underlying hu,Result.andThen,ZgB]
  rfl
theorem Zfd {enc:κ->Array Value}(h:∀(x y:κ)(w:World),(binOp .eql K (.agg (enc x)) (.agg (enc y))).run P w= .ok (.bool (decide (x=y))) w)(x y:κ)(w:World):(Op.equal K (kA enc x) (kA enc y)).run P w= .ok (decide (x=y)) w:=by
 have h:=h x y w
 simp only[binOp,Sem.run_bind] at h
 cases hq:(Op.equal K (kA enc x) (kA enc y)).run P w with
 |ok r w'=>
  rw[hq] at h
  simp only[Result.andThen,Sem.run_pure,Result.ok.injEq,Value.bool.injEq] at h
  rw[h.1,h.2]
 |halt e w'=>
  rw[hq] at h
  cases h
theorem Zje (n:Nat):∀l:List Value,(∀v∈l,Instr.sameBits n v v=true)->(l.zip l).all (fun p=>Instr.sameBits n p.1 p.2)=true
 |[],_=>rfl
 |v::l,h=>by
  rw[List.zip_cons_cons,List.all_cons,h v (.head _),Zje n l fun u hu=>h u (.tail _ hu)]
  rfl
def flatV :Value->Bool
 | .bool _=>true
 | .int _ _=>true
 |_=>false
theorem Zf3 {enc:κ->Array Value}(h:∀x,(enc x).toList.all flatV=true)(x:κ):Instr.sameBits 10000 (kA enc x) (kA enc x)=true:=by
 have h1:∀v∈(enc x).toList,Instr.sameBits 9999 v v=true:=fun v hv=>by
  have:=List.all_eq_true.1 (h x) v hv
  cases v <;> simp[flatV] at this <;> simp[Instr.sameBits]
 show((enc x).size==(enc x).size&&((enc x).toList.zip (enc x).toList).all (fun p=>Instr.sameBits 9999 p.1 p.2))=true
 rw[Zje 9999 _ h1]
 simp
end
section
variable {P : Program} {κ α : Type} [DecidableEq κ] {ek : κ -> Value} {ev : α -> Value} {K T V : TypeId} {w : World} {b r : Nat} {l : List (κ × α)} {seen : List Nat}
theorem ZsN (hT:P.underlying T=some (.map K V))(hb:w.heap[b]? =some (mapO ek ev l))(ty:TypeId):(Builtin.len_ #[T] ty #[.map (some b)]).run P w= .ok (.int .i64 l.length) w:=by
 have hg:(getObj b).run P w= .ok (.map (entL ek ev 0 l).toArray l.length) w:=by simp[getObj,Sem.run,hb,mapO]
 simp[Builtin.len_,Sem.run_bind,run_underlying hT,Result.andThen,hg,goInt,Zbp]
theorem Zqm (hT:P.underlying T=some (.map K V))[hk:KeyC P K ek]{z0:α}(hz:∀w,(zeroValue V).run P w= .ok (ev z0) w)(hb:w.heap[b]? =some (mapO ek ev l))(x:κ)(ok:Bool):
  (Instr.lookup T (.map (some b)) (ek x) ok).run P w= .ok (if ok then .tuple #[ev ((mget l x).getD z0), .bool (mget l x).isSome] else ev ((mget l x).getD z0)) w:=by
 have hg:(getObj b).run P w= .ok (.map (entL ek ev 0 l).toArray l.length) w:=by simp[getObj,Sem.run,hb,mapO]
 unfold Instr.lookup
 simp only[Sem.run_bind,run_underlying hT,Result.andThen,hg,Sem.run_pure,hk.chk,hk.find]
 cases hf:fnd ev l x 0 with
 |none=>
  obtain⟨h1,_⟩:=ZdX hf
  simp[h1,hz,Sem.run_bind,Result.andThen]
 |some q=>
  obtain⟨j,u⟩:=q
  obtain⟨k,hk',h1,h2,h3,h4,_⟩:=ZdU hf
  simp[h3,h4,Sem.run_bind,Result.andThen]
theorem Zg5 (hT:P.underlying T=some (.map K V))[hk:KeyC P K ek](hb:w.heap[b]? =some (mapO ek ev l))(x:κ)(v:α):
  (Instr.mapUpdate T (.map (some b)) (ek x) (ev v)).run P w= .ok () (setBlock w b (mapO ek ev (mput l x v))):=by
 have hg:(getObj b).run P w= .ok (.map (entL ek ev 0 l).toArray l.length) w:=by simp[getObj,Sem.run,hb,mapO]
 have hs:∀o,(setObj b o).run P w= .ok () (setBlock w b o):=fun o=>by simp[setObj,Sem.run,hb,setBlock,mapO]
 unfold Instr.mapUpdate
 simp only[Sem.run_bind,run_underlying hT,Result.andThen,hg,hk.chk,hk.find]
 cases hf:fnd ev l x 0 with
 |none=>
  obtain⟨_,h2⟩:=ZdX hf
  simp only[h2 v,hs,mapO,Zfv,Nat.zero_add,Wp,Wu,Wx]
  congr 2
  simp
 |some q=>
  obtain⟨j,u⟩:=q
  obtain⟨k,hk',h1,h2,h3,h4,h5⟩:=ZdU hf
  have hj:j=k:=by omega
  subst hj
  have hkey:(((entL ek ev 0 l).toArray[j]?).map (·.key)).getD (ek x)=ek x:=by
   rw[List.getElem?_toArray,ZaZ l 0 j hk']
   simp[h2]
  have hst:(Instr.keyThatStays (ek x) (ek x)).run P w= .ok (ek x) w:=by
   unfold Instr.keyThatStays
   rw[if_pos (hk.same x)]
   rfl
  simp only[Sem.run_bind,hkey,hst,Result.andThen,hs,h5 v,mapO,List.length_set]
  congr 3
  apply Array.ext_getElem?
  intro i
  rw[Array.getElem?_modify,List.getElem?_toArray,List.getElem?_toArray]
  rcases Nat.lt_or_ge i l.length with hi|hi
  ·rw[ZaZ l 0 i hi,ZaZ (l.set j (x,v)) 0 i (by simpa using hi)]
   by_cases hij:j=i
   ·subst hij
    simp
   ·simp[hij,List.getElem_set_ne hij]
  ·rw[List.getElem?_eq_none (by rw[Zbp];exact hi),List.getElem?_eq_none (by rw[Zbp,List.length_set];exact hi)]
   simp
theorem ZnX (hT:P.underlying T=some (.map K V))(hb:w.heap[b]? =some (mapO ek ev l)):(Instr.range T (.map (some b))).run P w= .ok (.pointer (some ⟨w.heap.size,0,none⟩)) (w.alloc (itO b l.length [])):=run_range_map w T K V b _ _ hT hb
theorem Zja (hr:w.heap[r]? =some (itO b l.length seen))(hb:w.heap[b]? =some (mapO ek ev l))(ty:TypeId):
  ((∀i,i<l.length->i∈seen)/\(Instr.next (.pointer (some ⟨r,0,none⟩)) false ty).run P w= .ok (.tuple #[.bool false]) w)\/
  ∃i,∃h:i<l.length,i∉seen/\∃w1:World,(w1=w\/w1=w.drew)/\(Instr.next (.pointer (some ⟨r,0,none⟩)) false ty).run P w= .ok (.tuple #[.bool true,ek l[i].1,ev l[i].2]) (setBlock w1 r (itO b l.length (seen++[i]))):=by
 have hm:∀e∈entL ek ev 0 l,∃i,∃h:i<l.length,e={key:=ek l[i].1,val:=ev l[i].2,born:=i}:=fun e he=>by
  obtain⟨i,hi,rfl⟩:=List.getElem_of_mem he
  rw[Zbp] at hi
  refine⟨i,hi, ?_⟩
  have:=ZaZ (ek:=ek) (ev:=ev) l 0 i hi
  rw[List.getElem?_eq_getElem (by rw[Zbp];exact hi),Nat.zero_add] at this
  exact Option.some.inj this
 rcases run_next_at (P:=P) w ty r b l.length l.length seen.toArray (entL ek ev 0 l).toArray l.length hr hb (fun e he=>by obtain⟨i,hi,rfl⟩:=hm e he;exact hi) (Wl _) with⟨h1,h2⟩|⟨e,he,w1,hw1,h2⟩
 ·refine .inl ⟨fun i hi=>?_,h2⟩
  have h0:leftOf (entL ek ev 0 l).toArray seen.toArray=#[]:=Array.eq_empty_of_size_eq_zero h1
  unfold leftOf at h0
  rw[Array.filter_eq_empty_iff] at h0
  have:=h0 {key:=ek l[i].1,val:=ev l[i].2,born:=i} (by
   have:=List.mem_of_getElem? (ZaZ (ek:=ek) (ev:=ev) l 0 i hi)
   simpa using this)
  simpa using this
 ·have hl:e∈entL ek ev 0 l/\e.born∉seen:=by
   unfold leftOf at he
   simpa using he
  obtain⟨i,hi,rfl⟩:=hm e hl.1
  refine .inr ⟨i,hi,hl.2,w1,hw1, ?_⟩
  rw[h2]
  congr 2
  simp[itO]
theorem Znt {i:Nat}(hr:w.heap[r]? =some (itO b l.length (seen++[i])))(hb:w.heap[b]? =some (mapO ek ev l))(hi:i<l.length):(Instr.entry (.pointer (some ⟨r,0,none⟩))).run P w= .ok (.tuple #[ek l[i].1,ev l[i].2]) w:=by
 have hg:=ZaZ (ek:=ek) (ev:=ev) l 0 i hi
 rw[Nat.zero_add] at hg
 have hnd:∀(l:List (κ×α))(j:Nat),((entL ek ev j l).map (·.born)).Nodup/\∀x∈(entL ek ev j l).map (·.born),j<=x:=by
  intro l
  induction l with
  |nil=>intro j;simp[entL]
  |cons p l ih=>
   intro j
   obtain⟨h1,h2⟩:=ih (j+1)
   simp only[entL,List.map_cons,List.nodup_cons,Ww]
   refine⟨⟨fun hm=>?_,h1⟩,fun x hx=>?_⟩
   ·have:=h2 _ hm
    omega
   ·rcases hx with rfl|hx
    ·exact Wl _
    ·have:=h2 x hx;omega
 have h:=run_entry_at (P:=P) w r b l.length seen.toArray (entL ek ev 0 l).toArray l.length {key:=ek l[i].1,val:=ev l[i].2,born:=i} (by
  rw[hr]
  simp[itO]) hb (List.mem_of_getElem? hg) (hnd l 0).1
 exact h
end
class MemO (b:Nat)(L:List Blk)(o:outParam Obj)(T:outParam TypeId):Prop where
 out:(⟨b, .obj o,T⟩:Blk)∈L
instance (priority :=high) memOHere (b:Nat)(L:List Blk)(o:Obj)(T:TypeId):MemO b (⟨b, .obj o,T⟩::L) o T:=⟨.head _⟩
instance (priority :=low) memOThere (b:Nat)(e:Blk)(L:List Blk)(o:Obj)(T:TypeId)[h:MemO b L o T]:MemO b (e::L) o T:=⟨.tail _ h.out⟩
instance (priority :=low) memOSkip (b:Nat)(A L:List Blk)(o:Obj)(T:TypeId)[h:MemO b L o T]:MemO b (A++L) o T:=⟨List.mem_append_right _ h.out⟩
class UpdO (b:Nat)(o':Obj)(L:List Blk)(o:outParam Obj)(T:outParam TypeId)(L':outParam (List Blk)):Prop where
 out:Upd b (.obj o) T (.obj o') L L'
instance (priority :=high) updOHere (b:Nat)(o':Obj)(L:List Blk)(o:Obj)(T:TypeId):UpdO b o' (⟨b, .obj o,T⟩::L) o T (⟨b, .obj o',T⟩::L):=⟨.here⟩
instance (priority :=low) updOThere (b:Nat)(o':Obj)(e:Blk)(L L':List Blk)(o:Obj)(T:TypeId)[h:UpdO b o' L o T L']:UpdO b o' (e::L) o T (e::L'):=⟨.there h.out⟩
theorem Zm9 {b:Nat}{cs cs':Cs}{T:TypeId}{L L':List Blk}(h:Upd b cs T cs' L L'):∀A:List Blk,Upd b cs T cs' (A++L) (A++L')
 |[]=>h
 |_::A=> .there (Zm9 h A)
instance (priority :=low) updOSkip (b:Nat)(o':Obj)(A L L':List Blk)(o:Obj)(T:TypeId)[h:UpdO b o' L o T L']:UpdO b o' (A++L) o T (A++L'):=⟨Zm9 h.out A⟩
class FoO (w0:World)(b:Nat)(o:outParam Obj):Prop where
 out:w0.heap[b]? =some o
class AtO (w0:World)(L:List Blk)(b:Nat)(o:outParam Obj):Prop where
 out:∀w,Own w0 L w->w.heap[b]? =some o
instance (priority :=high) atOMem (w0:World)(L:List Blk)(b:Nat)(o:Obj)(T:TypeId)[h:MemO b L o T]:AtO w0 L b o:=⟨fun _ hw=>(hw.mem _ h.out).2⟩
instance (priority :=low) atOFo (w0:World)(L:List Blk)(b:Nat)(o:Obj)[h:FoO w0 b o]:AtO w0 L b o:=⟨fun w hw=>by
 rw[hw.ext.block b (Zq h.out)]
 exact h.out⟩
class KeyV {κ:Type}(ek:κ->Value)(kv:Value)(k0:outParam κ):Prop where
 out:kv=ek k0
instance keyVA {κ:Type}(enc:κ->Array Value)(z:κ):KeyV (kA enc) (.agg (enc z)) z:=⟨rfl⟩
instance keyVI (k:IntKind)(z:Int):KeyV (Value.int k) (.int k z) z:=⟨rfl⟩
instance keyVB (z:Bool):KeyV Value.bool (.bool z) z:=⟨rfl⟩
class ZeV {α:Type}(P:Program)(V:TypeId)(ev:α->Value)(z:outParam α):Prop where
 out:∀w,(zeroValue V).run P w= .ok (ev z) w
theorem Zk8 {α:Type}{P:Program}{V:TypeId}{ev:α->Value}{z:α}(h:(P.info? V).bind (·.zero)=some (ev z)):ZeV P V ev z:=⟨fun w=>by
 cases hi:P.info? V with
 |none=>simp[hi] at h
 |some i=>
  have hz:i.zero=some (ev z):=by simpa [hi] using h
  simp[zeroValue,typeInfo,hi,hz]⟩
instance zeVB {P:Program}{V:TypeId}{cs:Array Value}[h:ZeroC P V (.bool false) cs]:ZeV P V Value.bool false:=Zk8 h.out
instance zeVI {P:Program}{V:TypeId}{k:IntKind}{cs:Array Value}[h:ZeroC P V (.int k 0) cs]:ZeV P V (Value.int k) 0:=Zk8 h.out
class MapT {κ α:outParam Type}(P:Program)(T:TypeId)(ek:outParam (κ->Value))(ev:outParam (α->Value)):Prop where
 out:True
theorem Zb0 {w:World}{b:Nat}{o:Obj}(h:w.heap[b]? =some o)(o':Obj):TurnedO b o' w (setBlock w b o'):=
 ⟨rfl,rfl,rfl,by simp[setBlock],rfl,fun j hj=>by simp[setBlock,Array.getElem?_setIfInBounds_ne (Ne.symm hj)],by simp[setBlock,Zq h]⟩
section
variable {P : Program} {w0 : World} {n : Nat} {ops : Array Oper} {L L' : List Blk} {E : Env}
variable {Q : Exit -> Act -> World -> Prop} {rest : List Oper} {v : Value}
variable {d : Option Tmp} {ty : TypeId} {pos : String} {aft : Array Edge} {gd : Option (Nat × Bool)} {t : Tmp}
variable {x y k : Operand} {T T0 K V : TypeId} {b r : Nat}
variable {κ α : Type} [DecidableEq κ] {ek : κ -> Value} {ev : α -> Value} {l : List (κ × α)} {seen : List Nat}
instance ZGQ [hx:IsC (evl E x) (.map (some b))][hb:AtO w0 L b (mapO ek ev l)][hT:UndC P T (.map K V)]:YlC P w0 n L E (.call ⟨.builtin .len,#[x],#[T]⟩) (.int .i64 l.length):=⟨fun d ty pos aft gd=>⟨fun a w ha hw=>by
 have h2:=ZsN (P:=P) hT.out (hb.out w hw) ty
 unfold calm
 have h1:∀cs:Array Bool,(builtin .len #[T] ty cs #[.map (some b)]).run P w= .ok (.value (.int .i64 l.length)) w:=fun cs=>by
  show Sem.run P (do pure (Next.value (<-Builtin.len_ #[T] ty #[.map (some b)])):Sem Next) w=_
  rw[Sem.run_bind,h2]
  rfl
 have e:(execOp a.eval ⟨d, .call ⟨.builtin .len,#[x],#[T]⟩,ty,pos,aft,gd⟩).run P w= .ok (.value (.int .i64 l.length)) w:=by
  simp only[execOp,resolve,Sem.run_bind,Sem.run_pure,Result.andThen,invoke,List.map_toArray,List.map_cons,List.map_nil,ha.ev isE]
  exact h1 _
 rw[e]
 exact⟨rfl,Ext.refl _⟩⟩⟩
theorem Zj0 {kv:Value}{k0:κ}{z0:α}[hx:IsC (evl E x) (.map (some b))][hy:IsC (evl E y) kv][hb:AtO w0 L b (mapO ek ev l)][hT:UndC P T (.map K V)][hK:KeyC P K ek][hk:KeyV ek kv k0][hz:ZeV P V ev z0](ok:Bool):
  Yl P w0 n L E ⟨d, .lookup T x y ok,ty,pos,aft,gd⟩ (if ok then .tuple #[ev ((mget l k0).getD z0), .bool (mget l k0).isSome] else ev ((mget l k0).getD z0)):=
 ZaC (fun _=>Instr.lookup T (.map (some b)) (ek k0) ok) (fun a ha=>by
  have e1:=ha.ev (isE (h:=hx))
  have e2:=ha.ev (isE (h:=hy))
  simp only[execOp,e1,e2,hk.out]) (fun a w _ hw=>Zqm hT.out hz.out (hb.out w hw) k0 ok)
instance ZE1 {kv:Value}{k0:κ}{z0:α}[hx:IsC (evl E x) (.map (some b))][hy:IsC (evl E y) kv][hb:AtO w0 L b (mapO ek ev l)][hT:UndC P T (.map K V)][hK:KeyC P K ek][hk:KeyV ek kv k0][hz:ZeV P V ev z0]:YlC P w0 n L E (.lookup T x y true) (.tuple #[ev ((mget l k0).getD z0), .bool (mget l k0).isSome]):=⟨fun _ _ _ _ _=>Zj0 true⟩
instance ZFl {kv:Value}{k0:κ}{z0:α}[hx:IsC (evl E x) (.map (some b))][hy:IsC (evl E y) kv][hb:AtO w0 L b (mapO ek ev l)][hT:UndC P T (.map K V)][hK:KeyC P K ek][hk:KeyV ek kv k0][hz:ZeV P V ev z0]:YlC P w0 n L E (.lookup T x y false) (ev ((mget l k0).getD z0)):=⟨fun _ _ _ _ _=>Zj0 false⟩
instance ZCT [Inhabited (κ×α)]{m i:Nat}[hx:IsC (evl E x) (.pointer (some ⟨r,0,none⟩))][hr:AtO w0 L r (itO b m (seen++[i]))][hb:AtO w0 L b (mapO ek ev l)]:YsC P w0 n L E (.entry x) (.tuple #[ek (gi l (i:Int)).1,ev (gi l (i:Int)).2]) (l.length=m/\i<m):=⟨fun hs _ _ _ _ _=>
 ZaC (fun _=>Instr.entry (.pointer (some ⟨r,0,none⟩))) (fun a ha=>by
  have e1:=ha.ev (isE (h:=hx))
  simp only[execOp,e1]) (fun a w _ hw=>by
  obtain⟨rfl,hi⟩:=hs
  rw[Zj hi]
  exact Znt (hr.out w hw) (hb.out w hw) hi)⟩
instance ZFw {a:Addr}{e:TypeId}[hT:UndC P T (.pointer e)]:BinC P .eql T (.pointer (some a)) (.pointer none) (.bool false):=⟨fun _ _ _=>by simp[eqGuard],fun w=>by
 have h:∀d,(Op.equalIn (d+1) T (.pointer (some a)) (.pointer none)).run P w= .ok false w:=fun d=>by
  unfold Op.equalIn
  simp only[Sem.run_bind,run_underlying hT.out,Result.andThen]
  rfl
 have h2:(Op.equal T (.pointer (some a)) (.pointer none)).run P w= .ok false w:=h 9999
 show(do pure (Value.bool (<-Op.equal T (.pointer (some a)) (.pointer none))):Sem Value).run P w=_
 rw[Sem.run_bind,h2]
 rfl⟩
theorem sMm [hm:MapT P T ek ev](hg:guardB ops E gd=some true)(hd:Nat.blt t n=true)(h:∀b,JO P w0 n ops Q rest ((t, .map (some b))::E) (⟨b, .obj (mapO ek ev []),T⟩::L)):JO P w0 n ops Q (⟨some t, .makeMap T none,ty,pos,aft,gd⟩::rest) E L:=
 Zcs (L':=Nat) (o:=⟨some t, .makeMap T none,ty,pos,aft,gd⟩) hg hd (fun b=> .map (some b)) (fun b=>⟨b, .obj (mapO ek ev []),T⟩::L) (fun a w ha hw=>⟨w.heap.size,w.alloc (.map #[] 0), .inl (by simp[execOp,Instr.makeMap,newObj,Sem.run]),hw.allocO _ _⟩) h
theorem sRg [hx:IsC (evl E x) (.map (some b))][hb:AtO w0 L b (mapO ek ev l)][hT:UndC P T (.map K V)](hg:guardB ops E gd=some true)(hd:Nat.blt t n=true)(h:∀r,JO P w0 n ops Q rest ((t, .pointer (some ⟨r,0,none⟩))::E) (⟨r, .obj (itO b l.length []),T⟩::L)):JO P w0 n ops Q (⟨some t, .range T x,ty,pos,aft,gd⟩::rest) E L:=
 Zcs (L':=Nat) (o:=⟨some t, .range T x,ty,pos,aft,gd⟩) hg hd (fun r=> .pointer (some ⟨r,0,none⟩)) (fun r=>⟨r, .obj (itO b l.length []),T⟩::L) (fun a w ha hw=>⟨w.heap.size,w.alloc (itO b l.length []), .inl (by
  have e1:=ha.ev (isE (h:=hx))
  simp only[execOp,e1,Sem.run_bind,ZnX hT.out (hb.out w hw),Result.andThen,Sem.run_pure]),hw.allocO _ _⟩) h
theorem sMu {kv yv:Value}{k0:κ}{v0:α}[hx:IsC (evl E x) (.map (some b))][hk:IsC (evl E k) kv][hy:IsC (evl E y) yv][hm:MemO b L (mapO ek ev l) T0][hT:UndC P T (.map K V)][hK:KeyC P K ek][hkv:KeyV ek kv k0][hyv:KeyV ev yv v0][hu:UpdO b (mapO ek ev (mput l k0 v0)) L (mapO ek ev l) T0 L'](hg:guardB ops E gd=some true)
  (h:JO P w0 n ops Q rest E L'):JO P w0 n ops Q (⟨none, .mapUpdate T x k y,ty,pos,aft,gd⟩::rest) E L:=
 Zcs (L':=Unit) (o:=⟨none, .mapUpdate T x k y,ty,pos,aft,gd⟩) hg rfl (fun _=>undef) (fun _=>L') (fun a w ha hw=>by
  have e1:=ha.ev (isE (h:=hx))
  have e2:=ha.ev (isE (h:=hk))
  have e3:=ha.ev (isE (h:=hy))
  have hb:=(hw.mem _ hm.out).2
  refine⟨(),_, .inr ⟨?_,rfl⟩,hw.turnO hu.out (Zb0 hb (mapO ek ev (mput l k0 v0)))⟩
  simp only[execOp,e1,e2,e3,hkv.out,hyv.out,Sem.run_bind,Zg5 hT.out hb,Result.andThen,Sem.run_pure]) (fun _=>h)
theorem sNx {m:Nat}{L1:Nat->List Blk}[hx:IsC (evl E x) (.pointer (some ⟨r,0,none⟩))][hr:MemO r L (itO b m seen) T0][hb:AtO w0 L b (mapO ek ev l)][hu:∀i,UpdO r (itO b m (seen++[i])) L (itO b m seen) T0 (L1 i)](hg:guardB ops E gd=some true)(hd:Nat.blt t n=true)(hl:l.length=m)
  (h0:(∀i,i<m->i∈seen)->JO P w0 n ops Q rest ((t, .tuple #[.bool false])::E) L)
  (h1:∀i,(hi:i<l.length)->i∉seen->JO P w0 n ops Q rest ((t, .tuple #[.bool true,ek l[i].1,ev l[i].2])::E) (L1 i)):JO P w0 n ops Q (⟨some t, .next x false,ty,pos,aft,gd⟩::rest) E L:=by
 subst hl
 refine Zcs (L':={s:Option Nat // (s=none/\∀i,i<l.length->i∈seen)\/∃i,s=some i/\i<l.length/\i∉seen}) (o:=⟨some t, .next x false,ty,pos,aft,gd⟩) hg hd
  (fun s=>match s.1 with|none=> .tuple #[.bool false]|some i=>if h:i<l.length then .tuple #[.bool true,ek l[i].1,ev l[i].2] else undef)
  (fun s=>match s.1 with|none=>L|some i=>L1 i) (fun a w ha hw=>?_) (fun s=>?_)
 ·have e1:=ha.ev (isE (h:=hx))
  have hr1:=(hw.mem _ hr.out).2
  rcases Zja (P:=P) hr1 (hb.out w hw) ty with⟨h2,h3⟩|⟨i,hi,hs,w1,hw1,h3⟩
  ·exact⟨⟨none, .inl ⟨rfl,h2⟩⟩,w, .inl (by simp only[execOp,e1,Sem.run_bind,h3,Result.andThen,Sem.run_pure]),hw⟩
  ·refine⟨⟨some i, .inr ⟨i,rfl,hi,hs⟩⟩,setBlock w1 r (itO b l.length (seen++[i])), .inl (by simp only[execOp,e1,Sem.run_bind,h3,Result.andThen,Sem.run_pure,dif_pos hi]), ?_⟩
   have hw':Own w0 L w1:=by rcases hw1 with rfl|rfl;exact hw;exact hw.to (Ext.drew w)
   exact hw'.turnO (hu i).out (Zb0 (hw'.mem _ hr.out).2 _)
 ·obtain⟨s,h2|⟨i,rfl,hi,hs⟩⟩:=s
  ·obtain⟨rfl,h2⟩:=h2
   exact h0 h2
  ·simp only[dif_pos hi]
   exact h1 i hi hs
end
theorem wkM {P Q:Prop}(k:Q)(h:Wr Q->P:=by intro hq;(first|refine wkB ?_|(refine sC rfl rfl ?_ ?_;focus(first|exact trivial|assumption|constructor <;> assumption|exact mb2 rfl rfl|exact mb4 rfl rfl rfl rfl))|(refine sN rfl rfl ?_ ?_;(focus(first|exact trivial|assumption|constructor <;> assumption|exact mb2 rfl rfl|exact mb4 rfl rfl rfl rfl));(try simp only[Wf,Wg,Wh]))|refine sMu rfl ?_|(refine sMm rfl rfl ?_)|(refine sRg rfl rfl ?_));exact hq.out):P:=h ⟨k⟩
theorem wkO {P Q:Prop}(k:Q)(h:Wr Q->P:=by intro hq;(first|refine wkB ?_|(refine sC rfl rfl ?_ ?_;focus(exact⟨by omega,by omega⟩))|(refine sN rfl rfl ?_ ?_;(focus(exact⟨by omega,by omega⟩));(try simp only[Wf,Wg,Wh]))|refine sMu rfl ?_|(refine sMm rfl rfl ?_)|(refine sRg rfl rfl ?_));exact hq.out):P:=h ⟨k⟩
end Go.Vt
namespace Go.Vt
def lexC :List Int->List Int->Int
 |[],[]=>0
 |[],_::_=> -1
 |_::_,[]=>1
 |a::a2,b::bs=>if a<b then-1 else if b<a then 1 else lexC a2 bs
theorem ZiP :∀a,lexC a a=0
 |[]=>rfl
 |a::a2=>by simp[lexC,ZiP a2]
theorem ZhT :∀{a b:List Int},lexC a b=0->a=b
 |[],[],_=>rfl
 |[],_::_,h=>by simp[lexC] at h
 |_::_,[],h=>by simp[lexC] at h
 |a::a2,b::bs,h=>by
  simp only[lexC] at h
  split at h
  ·cases h
  ·split at h
   ·cases h
   ·rw[ZhT h,show a=b by omega]
theorem ZcJ :∀(a b:List Int),lexC b a= -lexC a b
 |[],[]=>rfl
 |[],_::_=>rfl
 |_::_,[]=>rfl
 |a::a2,b::bs=>by
  simp only[lexC]
  have:=ZcJ a2 bs
  split <;> split <;> first|omega|(split <;> omega)|skip
  all_goals(try split) <;> omega
theorem Zil :∀{a b c:List Int},lexC a b<=0->lexC b c<=0->lexC a c<=0
 |[],_,[],_,_=>by simp[lexC]
 |[],_,_::_,_,_=>by simp[lexC]
 |_::_,[],_,h,_=>by simp[lexC] at h
 |_::_,_::_,[],_,h=>by simp[lexC] at h
 |a::a2,b::bs,c::cs,h1,h2=>by
  simp only[lexC] at h1 h2⊢
  have ih:=Zil (a:=a2) (b:=bs) (c:=cs)
  split at h1
  ·split at h2
   ·rw[if_pos (by omega)];decide
   ·split at h2
    ·exact absurd h2 (by decide)
    ·rw[if_pos (by omega)];decide
  ·split at h1
   ·exact absurd h1 (by decide)
   ·split at h2
    ·rw[if_pos (by omega)];decide
    ·split at h2
     ·exact absurd h2 (by decide)
     ·rw[if_neg (by omega),if_neg (by omega)]
      exact ih h1 h2
theorem Zdn {α:Type}{le:α->α->Prop}(anti:∀x y,le x y->le y x->x=y):∀{l l':List α},l.Perm l'->l.Pairwise le->l'.Pairwise le->l=l'
 |[],l',hp,_,_=>(List.nil_perm.1 hp).symm
 |a::l,[],hp,_,_=>absurd (List.perm_nil.1 hp) (by simp)
 |a::l,b::l',hp,h,h'=>by
  have e:a=b:=by
   have ha:a∈b::l':=hp.subset (.head _)
   have hb:b∈a::l:=hp.symm.subset (.head _)
   rcases List.mem_cons.1 ha with h1|h1
   ·exact h1
   ·rcases List.mem_cons.1 hb with h2|h2
    ·exact h2.symm
    ·exact anti _ _ ((List.pairwise_cons.1 h).1 _ h2) ((List.pairwise_cons.1 h').1 _ h1)
  subst e
  rw[Zdn anti (List.Perm.cons_inv hp) (List.pairwise_cons.1 h).2 (List.pairwise_cons.1 h').2]
end Go.Vt
namespace Go.Vt
open Go.RowKit Go.Proofs
open Go.Proofs.Tryz (prog)
section
section
variable {P : Program} {w0 : World} {n : Nat} {L : List Blk} {E : Env} {x : Operand} {T : TypeId}
instance ZAH {N e s b:Nat}[hx:IsC (evl E x) (.pointer (some ⟨b,0,none⟩))][h:UndC P T (.array N e)][hs:SizeC P e s]:YlC P w0 n L E (.slice T x none none none) (.slice (some ⟨b,0,none⟩) N N):=
 ⟨fun _ _ _ _ _=>ZaC (fun _=>Instr.sliceAt T (.pointer (some ⟨b,0,none⟩)) none none none) (fun a ha=>by
  have e1:=ha.ev (isE (h:=hx))
  simp only[execOp,e1,Option.map_none]) (fun a w _ _=>by
  simp[Instr.sliceAt,run_underlying h.out,Instr.sureAddr,Instr.sliceBounds,Instr.sliceBound,asIntOf,ZaF hs.out,Addr.add])⟩
end
instance Zyc (x:Nat):SpecC prog 204 [.int .u64 (x:Int)] (.int .i64 (Lib.bitLen x)) ((x:Int)<=18446744073709551615):=⟨fun hp w=>(Tryz.bits_Len x w (by omega) hp).mono fun e w' ⟨h1,h2⟩=>by
 subst h2
 exact⟨h1,Ext.refl _⟩⟩
def fldR (r:Zb):List Int:=[r.Object,r.Seq,r.Version,r.Time,r.X,r.Y,r.Device,if r.Cancel then 1 else 0]
instance ZK5 (a b c d e f g h:Int):BdC prog 256 [(0, .int .i64 a),(1, .int .i64 b),(2, .int .i64 c),(3, .int .i64 d),(4, .int .i64 e),(5, .int .i64 f),(6, .int .i64 g),(7, .int .i64 h)] (.agg (nums .i64 [a,b,c,d,e,f,g,h])):=⟨fun w=>by kernel_rfl⟩
instance ZK3 (a b c d e f g h:Int):CsC (nums .i64 [a,b,c,d,e,f,g,h]) 8:=⟨by kernel_rfl,by kernel_rfl⟩
instance ZKe (r:Zb):CsC (nums .i64 (fldR r)) 8:=⟨by kernel_rfl,by kernel_rfl⟩
instance ZK4 (a b c d e f g h:Int):LdC prog 256 (nums .i64 [a,b,c,d,e,f,g,h]) 0 (.agg (nums .i64 [a,b,c,d,e,f,g,h])):=⟨ZO 8⟩
instance ZAL (r:Zb):SpecC prog 153 [.agg (Zd r)] (.agg (nums .i64 (fldR r))) True:=⟨fun _ w=>by
 obtain⟨a1,a2,a3,a4,a5,a6,a7,c⟩:=r
 cases c
 ·show Calls _ _ _ _ (Ret (.agg (nums .i64 [a1,a2,a3,a5,a6,a7,a4,0])) w)
  refine Zg Tryz.func153 rfl Tryz.ntmps153 rfl ?_
  repeat(refine wkB ?_;intros)
  exact rtC rfl rfl
 ·show Calls _ _ _ _ (Ret (.agg (nums .i64 [a1,a2,a3,a5,a6,a7,a4,1])) w)
  refine Zg Tryz.func153 rfl Tryz.ntmps153 rfl ?_
  repeat(refine wkB ?_;intros)
  exact rtC rfl rfl⟩
theorem ZgQ (a b:Int):(a<b/\Lib.compareInt a b= -1)\/(b<a/\Lib.compareInt a b=1)\/(a=b/\Lib.compareInt a b=0):=by
 unfold Lib.compareInt
 split
 ·exact .inl ⟨by assumption,rfl⟩
 ·split
  ·exact .inr (.inl ⟨by omega,rfl⟩)
  ·exact .inr (.inr ⟨by omega,rfl⟩)
theorem Zi8 (a b:Int)(ps qs:List Int):lexC (a::ps) (b::qs)=if Lib.compareInt a b=0 then lexC ps qs else Lib.compareInt a b:=by
 simp only[lexC]
 rcases ZgQ a b with⟨h1,h2⟩|⟨h1,h2⟩|⟨h1,h2⟩
 ·rw[if_pos h1,h2];rfl
 ·rw[if_neg (by omega),if_pos h1,h2];rfl
 ·rw[if_neg (by omega),if_neg (by omega),h2];rfl
theorem Zpf {xs ys:List Int}{m:Nat}(h1:m<xs.length)(h2:m<ys.length):lexC (xs.drop m) (ys.drop m)=if Lib.compareInt (gi xs (m:Int)) (gi ys (m:Int))=0 then lexC (xs.drop (m+1)) (ys.drop (m+1)) else Lib.compareInt (gi xs (m:Int)) (gi ys (m:Int)):=by
 rw[List.drop_eq_getElem_cons h1,List.drop_eq_getElem_cons h2,Zi8,Zj h1,Zj h2]
theorem ZpZ (b1 c1 b2 c2 n:Nat)(xs ys:List Int)(T1 T2:TypeId)(h1:xs.length=n)(h2:ys.length=n)(hl:n<=1099511627776)(w:World)(hw1:∃fz,w.heap[b1]? =some (.cells (row (eI .i64) xs []) T1 fz))(hw2:∃fz,w.heap[b2]? =some (.cells (row (eI .i64) ys []) T2 fz)):
  Calls prog 154 [.slice (some ⟨b1,0,none⟩) n c1, .slice (some ⟨b2,0,none⟩) n c2].toArray w (Ret (.int .i64 (lexC xs ys)) w):=by
 have f1:=FoC.mk hw1
 have f2:=FoC.mk hw2
 refine Zg Tryz.func154 rfl Tryz.ntmps154 rfl ?_
 repeat(refine wkB ?_;intros)
 refine Zm (S:=Nat) (fun m=>m<=n/\lexC xs ys=lexC (xs.drop m) (ys.drop m)) (fun m=>[(0, .slice (some ⟨b1,0,none⟩) n c1),(1, .slice (some ⟨b2,0,none⟩) n c2),(9, .slice (some ⟨b1,0,none⟩) n c1),(10, .int .i64 n),(11, .int .i64 (m:Nat))]) (fun _=>[]) (fun m=>n-m) 0 ⟨Wm _,rfl⟩ sbB slB (fun m hm=>?_)
 obtain⟨hm,ho⟩:=hm
 repeat(refine wkB ?_;intros)
 refine Zl rfl (fun h=>?_) (fun h=>?_)
 ·have hlt:m<n:=by have:=Wa h;omega
  rw[Zpf (by omega) (by omega)] at ho
  repeat(refine wkB ?_;intros)
  simp only[We (show¬(n:Int)<=(m:Int) by omega)]
  repeat(refine wkB ?_;intros)
  by_cases h0:Lib.compareInt (gi xs (m:Int)) (gi ys (m:Int))=0
  ·rw[if_pos h0] at ho
   simp only[Wc h0,Bool.not_true]
   repeat(first|(refine wkB ?_;intros)|(refine wnM ?_ ?_;(focus(exact⟨by omega,by omega⟩));intros))
   exact Zh (m+1) ⟨hlt,ho⟩ sbB slB (by omega)
  ·rw[if_neg h0] at ho
   simp only[We h0,Bool.not_false]
   repeat(refine wkB ?_;intros)
   rw[ho]
   exact rtT rfl rfl
 ·have hge:m=n:=by have:=Wb h;omega
  subst hge
  have e:lexC (xs.drop m) (ys.drop m)=0:=by
   rw[List.drop_eq_nil_of_le (by omega),List.drop_eq_nil_of_le (by omega)]
   rfl
  rw[e] at ho
  repeat(refine wkB ?_;intros)
  simp only[We (show¬(m:Int)<(m:Int) by omega)]
  repeat(refine wkB ?_;intros)
  rw[ho]
  exact rtT rfl rfl
instance ZIx (w0:World)(L:List Blk)(b1 c1 b2 c2 n:Nat)(xs ys:List Int)(T1 T2:TypeId)[k1:AtC w0 L b1 (row (eI .i64) xs []) T1][k2:AtC w0 L b2 (row (eI .i64) ys []) T2]:SpecM prog w0 L 154 [.slice (some ⟨b1,0,none⟩) n c1, .slice (some ⟨b2,0,none⟩) n c2] (.int .i64 (lexC xs ys)) (xs.length=n/\ys.length=n/\n<=1099511627776):=
 ⟨fun hp w hw=>ZpZ b1 c1 b2 c2 n xs ys T1 T2 hp.1 hp.2.1 hp.2.2 w (k1.out w hw) (k2.out w hw)⟩
abbrev RpOk (_:Zb):Prop:=True
def cmpRp (a b:Zb):Int:=lexC (fldR a) (fldR b)
instance ZE3 (a b:Zb):SpecC prog 98 [.agg (Zd a), .agg (Zd b)] (.int .i64 (cmpRp a b)) (RpOk a/\RpOk b):=⟨fun _ w=>by
 refine Zg Tryz.func98 rfl Tryz.ntmps98 rfl ?_
 repeat(refine wkB ?_;intros)
 rename_i b2 b3
 (refine Zdi [0,1,2,3] [4,5] [6,7] (_) (h:=?_);refine wkI ?_)
 (repeat(refine wkH ?_))
 repeat(refine wkT ?_;intros)
 repeat(refine wkB ?_;intros)
 rw[ZgO .i64 (fldR a),ZgO .i64 (fldR b)]
 (refine jD 4 4 (h:=?_);(repeat(first|refine wkH ?_|(refine tC rfl rfl ?_ ?_;focus(exact⟨rfl,rfl,by decide⟩))));refine Zn ?_;(repeat(refine Z4 ?_;intro _));refine Zr ?_)
 repeat(refine wkB ?_;intros)
 exact rtT rfl rfl⟩
end
section
instance ZAw :CallC prog 247:=⟨by kernel_rfl⟩
instance Zz0 (w0:World)(L:List Blk)(b1 b2:Nat)(lo hi z:Int)(T1 T2:TypeId)[k1:AtC w0 L b1 #[.int .i64 lo] T1][k2:AtC w0 L b2 #[.int .i64 hi] T2]:SpecM prog w0 L 201 [.int .i64 z, .pointer (some ⟨b1,0,none⟩), .pointer (some ⟨b2,0,none⟩)] (.bool false) (lo<=z/\z<=hi):=⟨fun hp w hw=>by
 have f1:=FoC.mk (k1.out w hw)
 have f2:=FoC.mk (k2.out w hw)
 refine Zg Tryz.func201 rfl Tryz.ntmps201 rfl ?_
 repeat(refine wkB ?_;intros)
 simp only[We (show¬z<lo by omega)]
 repeat(refine wkB ?_;intros)
 simp only[We (show¬hi<z by omega)]
 repeat(refine wkB ?_;intros)
 exact rtT rfl rfl⟩
theorem Zj4 (b c n b1 b2:Nat)(xs:List Int)(lo hi:Int)(T T1 T2:TypeId)(hn:xs.length=n)(hl:n<=1099511627776)(hin:∀z∈xs,lo<=z/\z<=hi)(w:World)(hw:∃fz,w.heap[b]? =some (.cells (row (eI .i64) xs []) T fz))(hw1:∃fz,w.heap[b1]? =some (.cells #[.int .i64 lo] T1 fz))(hw2:∃fz,w.heap[b2]? =some (.cells #[.int .i64 hi] T2 fz)):
  Calls prog 247 [.slice (some ⟨b,0,none⟩) n c, .func (.func 201) #[] [.pointer (some ⟨b1,0,none⟩), .pointer (some ⟨b2,0,none⟩)].toArray].toArray w (Ret (.int .i64 (-1)) w):=by
 have f0:=FoC.mk hw
 have f1:=FoC.mk hw1
 have f2:=FoC.mk hw2
 refine Zg Tryz.func247 rfl Tryz.ntmps247 rfl ?_
 repeat(refine wkB ?_;intros)
 refine Zm (S:=Nat) (fun m=>m<=n) (fun m=>[(0, .slice (some ⟨b,0,none⟩) n c),(1, .func (.func 201) #[] [.pointer (some ⟨b1,0,none⟩), .pointer (some ⟨b2,0,none⟩)].toArray),(7, .int .i64 n),(8, .int .i64 (m:Nat))]) (fun _=>[]) (fun m=>n-m) 0 (Wm _) sbB slB (fun m hm=>?_)
 repeat(refine wkB ?_;intros)
 refine Zl rfl (fun h=>?_) (fun h=>?_)
 ·have hlt:m<n:=by have:=Wa h;omega
  have hz:=hin (gi xs (m:Int)) (by rw[Zj (by omega)];exact List.getElem_mem _)
  repeat(first|(refine wkB ?_;intros)|(refine wnM ?_ ?_;(focus(exact hz));intros))
  exact Zh (m+1) hlt sbB slB (by omega)
 ·repeat(refine wkB ?_;intros)
  exact rtT rfl rfl
instance Zy7 (w0:World)(L:List Blk)(b c n b1 b2:Nat)(xs:List Int)(lo hi:Int)(T T1 T2:TypeId)[k0:AtC w0 L b (row (eI .i64) xs []) T][k1:AtC w0 L b1 #[.int .i64 lo] T1][k2:AtC w0 L b2 #[.int .i64 hi] T2]:SpecM prog w0 L 247 [.slice (some ⟨b,0,none⟩) n c, .func (.func 201) #[] [.pointer (some ⟨b1,0,none⟩), .pointer (some ⟨b2,0,none⟩)].toArray] (.int .i64 (-1)) (xs.length=n/\n<=1099511627776/\∀z∈xs,lo<=z/\z<=hi):=
 ⟨fun hp w hw=>Zj4 b c n b1 b2 xs lo hi T T1 T2 hp.1 hp.2.1 hp.2.2 w (k0.out w hw) (k1.out w hw) (k2.out w hw)⟩
instance Zzb (w0:World)(L:List Blk)(b c n b1 b2:Nat)(xs:List Int)(lo hi:Int)(T T1 T2:TypeId)[k0:AtC w0 L b (row (eI .i64) xs []) T][k1:AtC w0 L b1 #[.int .i64 lo] T1][k2:AtC w0 L b2 #[.int .i64 hi] T2]:SpecM prog w0 L 200 [.slice (some ⟨b,0,none⟩) n c, .func (.func 201) #[] [.pointer (some ⟨b1,0,none⟩), .pointer (some ⟨b2,0,none⟩)].toArray] (.bool false) (xs.length=n/\n<=1099511627776/\∀z∈xs,lo<=z/\z<=hi):=⟨fun hp w hw=>by
 have f0:=FoC.mk (k0.out w hw)
 have f1:=FoC.mk (k1.out w hw)
 have f2:=FoC.mk (k2.out w hw)
 refine Zg Tryz.func200 rfl Tryz.ntmps200 rfl ?_
 repeat(first|(refine wkB ?_;intros)|(refine wnM ?_ ?_;(focus(exact hp));intros))
 exact rtT rfl rfl⟩
instance ZB3 (w0:World)(L:List Blk)(b n:Nat)(xs:List Int)(lo hi:Int)(T:TypeId)[k0:AtC w0 L b (row (eI .i64) xs []) T]:SpecM prog w0 L 147 [.int .i64 lo, .int .i64 hi, .slice (some ⟨b,0,none⟩) n n] (.bool true) (xs.length=n/\n<=1099511627776/\∀z∈xs,lo<=z/\z<=hi):=⟨fun hp w hw=>by
 have f0:=FoC.mk (k0.out w hw)
 refine Zg Tryz.func147 rfl Tryz.ntmps147 rfl ?_
 repeat(first|(refine wkB ?_;intros)|(refine wnM ?_ ?_;(focus(exact hp));intros))
 exact rtT rfl rfl⟩
structure RepV (r:Zb):Prop where
 o:1<=r.Object/\r.Object<=1073741824
 s:0<=r.Seq/\r.Seq<=1073741824
 v:0<=r.Version/\r.Version<=1073741824
 d:0<=r.Device/\r.Device<=1073741824
 t:0<=r.Time/\r.Time<=1073741824
 x: -1048576<=r.X/\r.X<=1048576
 y: -1048576<=r.Y/\r.Y<=1048576
theorem in1 {a lo hi:Int}(h:lo<=a/\a<=hi):([a]:List Int).length=1/\1<=1099511627776/\∀z∈[a],lo<=z/\z<=hi:=⟨rfl,by decide,fun z hz=>by rw[Wo] at hz;rw[hz];exact h⟩
theorem in2 {a b lo hi:Int}(h:lo<=a/\a<=hi)(k:lo<=b/\b<=hi):([a,b]:List Int).length=2/\2<=1099511627776/\∀z∈[a,b],lo<=z/\z<=hi:=⟨rfl,by decide,fun z hz=>by
 simp only[Ww,List.not_mem_nil,or_false] at hz
 rcases hz with rfl|rfl
 ·exact h
 ·exact k⟩
theorem in3 {a b c lo hi:Int}(h:lo<=a/\a<=hi)(k:lo<=b/\b<=hi)(j:lo<=c/\c<=hi):([a,b,c]:List Int).length=3/\3<=1099511627776/\∀z∈[a,b,c],lo<=z/\z<=hi:=⟨rfl,by decide,fun z hz=>by
 simp only[Ww,List.not_mem_nil,or_false] at hz
 rcases hz with rfl|rfl|rfl
 ·exact h
 ·exact k
 ·exact j⟩
instance ZAA (r:Zb):SpecC prog 93 [.agg (Zd r)] (.int .i64 0) (RepV r):=⟨fun hp w=>by
 refine Zg Tryz.func93 rfl Tryz.ntmps93 rfl ?_
 have i1:=in1 hp.o
 have i2:=in3 hp.s hp.v hp.d
 have i3:=in1 hp.t
 have i4:=in2 hp.x hp.y
 repeat(first|(refine wkB ?_;intros)|(refine wnM ?_ ?_;(focus(first|exact i1|exact i2|exact i3|exact i4));intros))
 exact rtT rfl rfl⟩
end
section
theorem ZrB (d:Nat)(w:World)(x y:Za):(Op.equalIn (d+2) 122 (.agg (Zf x)) (.agg (Zf y))).run prog w= .ok (decide (x=y)) w:=by
 have p0:∀(z:Za)(u:World),(part 3 (Zf z) 0).run prog u= .ok (.int .i64 z.From) u:=fun _ _=>by kernel_rfl
 have q0:∀(u:World),(Op.equalIn (d+1) 3 (.int .i64 x.From) (.int .i64 y.From)).run prog u= .ok (decide (x.From=y.From)) u:=fun u=>by rw[run_equalIn_int u (d+0) 3 .i64 .i64 _ _ (by kernel_rfl),ZaV]
 have p1:∀(z:Za)(u:World),(part 3 (Zf z) 1).run prog u= .ok (.int .i64 z.To) u:=fun _ _=>by kernel_rfl
 have q1:∀(u:World),(Op.equalIn (d+1) 3 (.int .i64 x.To) (.int .i64 y.To)).run prog u= .ok (decide (x.To=y.To)) u:=fun u=>by rw[run_equalIn_int u (d+0) 3 .i64 .i64 _ _ (by kernel_rfl),ZaV]
 have p2:∀(z:Za)(u:World),(part 3 (Zf z) 2).run prog u= .ok (.int .i64 z.Sent) u:=fun _ _=>by kernel_rfl
 have q2:∀(u:World),(Op.equalIn (d+1) 3 (.int .i64 x.Sent) (.int .i64 y.Sent)).run prog u= .ok (decide (x.Sent=y.Sent)) u:=fun u=>by rw[run_equalIn_int u (d+0) 3 .i64 .i64 _ _ (by kernel_rfl),ZaV]
 have p3:∀(z:Za)(u:World),(part 3 (Zf z) 3).run prog u= .ok (.int .i64 z.Received) u:=fun _ _=>by kernel_rfl
 have q3:∀(u:World),(Op.equalIn (d+1) 3 (.int .i64 x.Received) (.int .i64 y.Received)).run prog u= .ok (decide (x.Received=y.Received)) u:=fun u=>by rw[run_equalIn_int u (d+0) 3 .i64 .i64 _ _ (by kernel_rfl),ZaV]
 have p4:∀(z:Za)(u:World),(part 3 (Zf z) 4).run prog u= .ok (.int .i64 z.Least) u:=fun _ _=>by kernel_rfl
 have q4:∀(u:World),(Op.equalIn (d+1) 3 (.int .i64 x.Least) (.int .i64 y.Least)).run prog u= .ok (decide (x.Least=y.Least)) u:=fun u=>by rw[run_equalIn_int u (d+0) 3 .i64 .i64 _ _ (by kernel_rfl),ZaV]
 have hf:(prog.fieldsOf 122).toList=[{name:= "From",type:=3,offset:=0,embedded:=false,tag:= "",pkgPath:= "",byteOffset:=0},{name:= "To",type:=3,offset:=1,embedded:=false,tag:= "",pkgPath:= "",byteOffset:=8},{name:= "Sent",type:=3,offset:=2,embedded:=false,tag:= "",pkgPath:= "",byteOffset:=16},{name:= "Received",type:=3,offset:=3,embedded:=false,tag:= "",pkgPath:= "",byteOffset:=24},{name:= "Least",type:=3,offset:=4,embedded:=false,tag:= "",pkgPath:= "",byteOffset:=32}]:=by kernel_rfl
 rw[run_equalIn_struct w (d+1) 122 _ _ (by kernel_rfl) (by kernel_rfl),hf]
 have hx:x=y↔(x.From=y.From/\x.To=y.To/\x.Sent=y.Sent/\x.Received=y.Received/\x.Least=y.Least):=by cases x;cases y;simp
 simp only[Op.eqFields,Sem.run_bind,Result.andThen_ok,Sem.run_ite,Sem.run_pure,p0,p1,p2,p3,p4,q0,q1,q2,q3,q4]
 by_cases h0:x.From=y.From <;> by_cases h1:x.To=y.To <;> by_cases h2:x.Sent=y.Sent <;> by_cases h3:x.Received=y.Received <;> by_cases h4:x.Least=y.Least <;> simp[hx,h0,h1,h2,h3,h4]
instance ZHe (x y:Za):BinC prog .eql 122 (.agg (Zf x)) (.agg (Zf y)) (.bool (decide (x=y))):=⟨fun a b w=>run_eqGuard_agg w _ _ _ _ _ _ (by kernel_rfl),fun w=>by rw[run_eql_struct,ZrB 9998];rfl⟩
theorem ZsH (d:Nat)(w:World)(x y:ZF):(Op.equalIn (d+2) 133 (.agg (ZU x)) (.agg (ZU y))).run prog w= .ok (decide (x=y)) w:=by
 have p0:∀(z:ZF)(u:World),(part 3 (ZU z) 0).run prog u= .ok (.int .i64 z.object) u:=fun _ _=>by kernel_rfl
 have q0:∀(u:World),(Op.equalIn (d+1) 3 (.int .i64 x.object) (.int .i64 y.object)).run prog u= .ok (decide (x.object=y.object)) u:=fun u=>by rw[run_equalIn_int u (d+0) 3 .i64 .i64 _ _ (by kernel_rfl),ZaV]
 have p1:∀(z:ZF)(u:World),(part 3 (ZU z) 1).run prog u= .ok (.int .i64 z.seq) u:=fun _ _=>by kernel_rfl
 have q1:∀(u:World),(Op.equalIn (d+1) 3 (.int .i64 x.seq) (.int .i64 y.seq)).run prog u= .ok (decide (x.seq=y.seq)) u:=fun u=>by rw[run_equalIn_int u (d+0) 3 .i64 .i64 _ _ (by kernel_rfl),ZaV]
 have hf:(prog.fieldsOf 133).toList=[{name:= "object",type:=3,offset:=0,embedded:=false,tag:= "",pkgPath:= "viator/report",byteOffset:=0},{name:= "seq",type:=3,offset:=1,embedded:=false,tag:= "",pkgPath:= "viator/report",byteOffset:=8}]:=by kernel_rfl
 rw[run_equalIn_struct w (d+1) 133 _ _ (by kernel_rfl) (by kernel_rfl),hf]
 have hx:x=y↔(x.object=y.object/\x.seq=y.seq):=by cases x;cases y;simp
 simp only[Op.eqFields,Sem.run_bind,Result.andThen_ok,Sem.run_ite,Sem.run_pure,p0,p1,q0,q1]
 by_cases h0:x.object=y.object <;> by_cases h1:x.seq=y.seq <;> simp[hx,h0,h1]
instance ZHP (x y:ZF):BinC prog .eql 133 (.agg (ZU x)) (.agg (ZU y)) (.bool (decide (x=y))):=⟨fun a b w=>run_eqGuard_agg w _ _ _ _ _ _ (by kernel_rfl),fun w=>by rw[run_eql_struct,ZsH 9998];rfl⟩
end
section
abbrev vIv (I:Ze):Value:= .agg (Zz (Zx I))
abbrev vQd (q:Zah):Value:= .agg (Z0 (Z2 q))
theorem sg0e (b:Int){r:Rat}(h:r=0):b*r.num.sign=0:=by
 subst h
 rw[show(0:Rat).num.sign=0 from rfl,Int.mul_zero]
theorem ZgV (a b:Rat):(a-b).num.sign=cq a b:=by
 unfold cq
 split
 ·rename_i h
  exact Int.sign_eq_neg_one_iff_neg.2 (by
   have h3:¬0<=(a-b).num:=fun h1=>by
    have:=Rat.num_nonneg.1 h1
    grind
   omega)
 ·split
  ·rename_i h1 h2
   refine Int.sign_eq_one_iff_pos.2 ?_
   have h3:0<=(a-b).num:=Rat.num_nonneg.2 (by grind)
   have h4:(a-b).num≠0:=fun h0=>by
    have:=Rat.num_eq_zero.1 h0
    grind
   omega
  ·rename_i h1 h2
   have:a=b:=by grind
   subst this
   rw[show a-a=0 by grind]
   rfl
instance ZCv (x:Zp):SpecC prog 134 [vR x] (vQ (if x.Neg then((-1:Int):Rat) else((1:Int):Rat))) True:=⟨fun _ w=>by
 refine Zg Tryz.func134 rfl Tryz.ntmps134 rfl ?_
 obtain⟨p,r,b⟩:=x
 cases b
 ·repeat(first|(refine wkB ?_;intros)|(refine wnM ?_ ?_;(focus(exact⟨by decide,by decide⟩));intros))
  exact rtC rfl rfl
 ·repeat(first|(refine wkB ?_;intros)|(refine wnM ?_ ?_;(focus(exact⟨by decide,by decide⟩));intros))
  exact rtC rfl rfl⟩
instance ZGy (a b r:Rat):SpecC prog 135 [vQ a,vQ b,vQ r] (.int .i64 a.num.sign) (r=0):=⟨fun hr w=>by
 refine Zg Tryz.func135 rfl Tryz.ntmps135 rfl ?_
 have hz:=sg0e b.num.sign hr
 repeat(refine wkB ?_;intros)
 (refine Za9 [0,1,2,3,4,5,6] [7,8] (_) (h:=?_);refine wkI ?_)
 (repeat(first|refine wkH ?_|(refine tC rfl rfl ?_ ?_;focus(exact trivial))))
 repeat(refine wkT ?_;intros)
 simp only[hz]
 repeat(refine wkB ?_;intros)
 exact rtT rfl rfl⟩
instance Zzw (x y:Zp):SpecC prog 81 [vR x,vR y] (.int .i64 (cq x.P y.P)) ((x.R=0/\y.R=0)/\M x.P<=LQ/\M y.P<=LQ):=⟨fun hp w=>by
 obtain⟨⟨hx,hy⟩,h1,h2⟩:=hp
 refine Zg Tryz.func81 rfl Tryz.ntmps81 rfl ?_
 have hz:=sg0e (-(if y.Neg then((-1:Int):Rat) else((1:Int):Rat))).num.sign hy
 repeat(refine wkB ?_;intros)
 (refine jD 10 13 (h:=?_);(repeat(first|refine wkH ?_|(refine tC rfl rfl ?_ ?_;focus(first|exact trivial|exact⟨h1,h2⟩))));refine Zn ?_;(repeat(refine Z4 ?_;intro _));refine Zr ?_)
 repeat(refine wkB ?_;intros)
 (refine Za9 [0,1,2,3,4,5,6,7,8,9,10] [11,12] (_) (h:=?_);refine wkI ?_)
 (repeat(first|refine wkH ?_|(refine tC rfl rfl ?_ ?_;focus(first|exact trivial|exact hx))))
 repeat(refine wkT ?_;intros)
 simp only[hz,ZgV]
 repeat(refine wkB ?_;intros)
 exact rtT rfl rfl⟩
instance ZyB :CallC prog 209:=⟨by kernel_rfl⟩
instance Ztm :CallC prog 159:=⟨by kernel_rfl⟩
instance ZyC :CallC prog 158:=⟨by kernel_rfl⟩
instance ZxY (I:Ze):SpecC prog 177 [vIv I] (.bool (decide (I.From=I.To))) True:=⟨fun _ w=>by
 refine Zg Tryz.func177 rfl Tryz.ntmps177 rfl ?_
 repeat(refine wkB ?_;intros)
 exact rtT rfl rfl⟩
def aprt (a b:Ze):Bool:=decide (a.To.P<b.From.P)||(decide (a.To.P=b.From.P)&&(a.OpenTo||b.OpenFrom))
instance ZEn (a b:Ze):SpecC prog 175 [vIv a,vIv b] (.bool (aprt a b)) ((a.To.R=0/\b.From.R=0)/\M a.To.P<=LQ/\M b.From.P<=LQ):=⟨fun hp w=>by
 refine Zg Tryz.func175 rfl Tryz.ntmps175 rfl ?_
 repeat(first|(refine wkB ?_;intros)|(refine wnM ?_ ?_;(focus(exact hp));intros))
 unfold aprt
 by_cases h1:a.To.P<b.From.P
 ·simp only[Wc (ZdC.2 h1)]
  repeat(refine wkB ?_;intros)
  simp only[Wc h1]
  exact rtT rfl rfl
 ·simp only[We (fun h=>h1 (ZdC.1 h))]
  repeat(refine wkB ?_;intros)
  by_cases h2:a.To.P=b.From.P
  ·simp only[Wc (Zb7.2 h2)]
   repeat(refine wkB ?_;intros)
   obtain⟨fa,ta,oa,ca⟩:=a
   simp only at h1 h2⊢
   cases ca
   ·repeat(refine wkB ?_;intros)
    simp only[We h1,Wc h2]
    exact rtT rfl rfl
   ·repeat(refine wkB ?_;intros)
    simp only[We h1,Wc h2]
    exact rtT rfl rfl
  ·simp only[We (fun h=>h2 (Zb7.1 h))]
   repeat(refine wkB ?_;intros)
   simp only[We h1,We h2]
   exact rtT rfl rfl⟩
instance Zxp (c:Rat):SpecC prog 87 [vQ c] (vQd ⟨c,0,0⟩) True:=⟨fun _ w=>by
 refine Zg Tryz.func87 rfl Tryz.ntmps87 rfl ?_
 repeat(refine wkB ?_;intros)
 exact rtC rfl rfl⟩
instance ZIe (p q:Zah):SpecC prog 424 [vQd p,vQd q] (vQd ⟨p.C0-q.C0,p.C1-q.C1,p.C2-q.C2⟩) ((M p.C0<=LQ/\M q.C0<=LQ)/\(M p.C1<=LQ/\M q.C1<=LQ)/\(M p.C2<=LQ/\M q.C2<=LQ)):=⟨fun hp w=>by
 obtain⟨h1,h2,h3⟩:=hp
 refine Zg Tryz.func424 rfl Tryz.ntmps424 rfl ?_
 repeat(refine wkB ?_;intros)
 (refine jD 16 16 (h:=?_);(repeat(first|refine wkH ?_|(refine tC rfl rfl ?_ ?_;focus(first|exact h1|exact h2|exact h3))));refine Zn ?_;(repeat(refine Z4 ?_;intro _));refine Zr ?_)
 repeat(refine wkB ?_;intros)
 exact rtC rfl rfl⟩
instance ZyA (q:Zah)(t:Zp):SpecC prog 421 [vQd q,vR t] (vQd ⟨q.C0+t.P*(q.C1+t.P*q.C2),0,0⟩) (t.R=0/\M q.C0<=34359738368/\M q.C1<=34359738368/\M q.C2<=34359738368/\M t.P<=34359738368):=⟨fun hp w=>by
 obtain⟨h0,h1⟩:=hp
 refine Zg Tryz.func421 rfl Tryz.ntmps421 rfl ?_
 repeat(refine wkB ?_;intros)
 simp only[if_pos h0,Wc h0]
 repeat(first|(refine wkB ?_;intros)|(refine wnM ?_ ?_;(focus(first|exact trivial|exact h1));intros))
 exact rtC rfl rfl⟩
def qsame (p q:Zah)(t:Rat):Bool:=decide ((⟨p.C0-q.C0+t*(p.C1-q.C1+t*(p.C2-q.C2)),0,0⟩:Zah)=⟨0,0,0⟩)
theorem ZiL {p q:Zah}{t:Rat}:qsame p q t=true↔p.C0-q.C0+t*(p.C1-q.C1+t*(p.C2-q.C2))=0:=by
 unfold qsame
 rw[decide_eq_true_iff]
 simp
instance ZFy (p q:Zah)(t:Zp):SpecC prog 422 [vQd p,vQd q,vR t] (.bool (qsame p q t.P)) (t.R=0/\(M p.C0<=8589934592/\M p.C1<=8589934592/\M p.C2<=8589934592)/\(M q.C0<=8589934592/\M q.C1<=8589934592/\M q.C2<=8589934592)/\M t.P<=8589934592):=⟨fun hp w=>by
 obtain⟨h0,⟨h1,h2,h3⟩,⟨h4,h5,h6⟩,h7⟩:=hp
 have:=MB.mk h1
 have:=MB.mk h2
 have:=MB.mk h3
 have:=MB.mk h4
 have:=MB.mk h5
 have:=MB.mk h6
 have:=MB.mk h7
 refine Zg Tryz.func422 rfl Tryz.ntmps422 rfl ?_
 repeat(refine wkB ?_;intros)
 (refine jD 7 7 (h:=?_);(repeat(first|refine wkH ?_|(refine tC rfl rfl ?_ ?_;focus(first|exact⟨mb2 rfl rfl,mb2 rfl rfl,mb2 rfl rfl⟩|exact⟨h0,MB.lt rfl,MB.lt rfl,MB.lt rfl,MB.lt rfl⟩))));refine Zn ?_;(repeat(refine Z4 ?_;intro _));refine Zr ?_)
 repeat(refine wkB ?_;intros)
 exact rtT rfl rfl⟩
def lnX (f:ZG):Zah:=⟨f.X0,f.X1,0⟩
def lnY (f:ZG):Zah:=⟨f.Y0,f.Y1,0⟩
instance ZuF (f:ZG):SpecC prog 420 [vLn f] (.tuple #[vQd (lnX f),vQd (lnY f)]) True:=⟨fun _ w=>by
 refine Zg Tryz.func420 rfl Tryz.ntmps420 rfl ?_
 repeat(refine wkB ?_;intros)
 (refine jD 10 10 (h:=?_);(repeat(refine wkH ?_));refine Zn ?_;(repeat(refine Z4 ?_;intro _));refine Zr ?_)
 repeat(refine wkB ?_;intros)
 exact ZA rfl (Zab rfl) (Zab rfl) (fun w hw=>ZZ hw)⟩
instance ZFf (f g:ZG)(t:Zp)(z:Array Value):SpecC prog 419 [.agg z,vLn f,vLn g,vR t] (.bool (qsame (lnX f) (lnX g) t.P&&qsame (lnY f) (lnY g) t.P)) (t.R=0/\((M f.X0<=8589934592/\M f.X1<=8589934592)/\M f.Y0<=8589934592/\M f.Y1<=8589934592)/\((M g.X0<=8589934592/\M g.X1<=8589934592)/\M g.Y0<=8589934592/\M g.Y1<=8589934592)/\M t.P<=8589934592):=⟨fun hp w=>by
 obtain⟨h0,⟨⟨h1,h2⟩,h3,h4⟩,⟨⟨h5,h6⟩,h7,h8⟩,h9⟩:=hp
 have hm0:M 0<=8589934592:=Wi Zgu.out (by decide)
 refine Zg Tryz.func419 rfl Tryz.ntmps419 rfl ?_
 repeat(first|(refine wkB ?_;intros)|(refine wnM ?_ ?_;(focus(first|exact trivial|exact⟨h0,⟨h1,h2,hm0⟩,⟨h5,h6,hm0⟩,h9⟩));intros))
 rcases hb:qsame (lnX f) (lnX g) t.P with _|_
 ·repeat(refine wkB ?_;intros)
  exact rtT rfl rfl
 ·repeat(first|(refine wkB ?_;intros)|(refine wnM ?_ ?_;(focus(exact⟨h0,⟨h3,h4,hm0⟩,⟨h7,h8,hm0⟩,h9⟩));intros))
  exact rtT rfl rfl⟩
instance ZBI (f g:ZG)(z:Array Value):SpecC prog 417 [.agg z,vLn f,vLn g] (.bool (decide (f=g))) True:=⟨fun _ w=>by
 refine Zg Tryz.func417 rfl Tryz.ntmps417 rfl ?_
 repeat(refine wkB ?_;intros)
 exact rtT rfl rfl⟩
def lred (f:ZG)(t:Rat):ZG:=⟨f.X0+t*(f.X1+t*0),0,f.Y0+t*(f.Y1+t*0),0⟩
instance ZzL (f:ZG)(t:Zp)(z:Array Value):SpecC prog 418 [.agg z,vLn f,vR t] (vLn (lred f t.P)) (t.R=0/\((M f.X0<=8589934592/\M f.X1<=8589934592)/\M f.Y0<=8589934592/\M f.Y1<=8589934592)/\M t.P<=8589934592):=⟨fun hp w=>by
 obtain⟨h0,⟨⟨h1,h2⟩,h3,h4⟩,h9⟩:=hp
 have hm0:M 0<=34359738368:=Wi Zgu.out (by decide)
 have:=MB.mk h1
 have:=MB.mk h2
 have:=MB.mk h3
 have:=MB.mk h4
 have:=MB.mk h9
 refine Zg Tryz.func418 rfl Tryz.ntmps418 rfl ?_
 repeat(refine wkB ?_;intros)
 (refine jD 6 6 (h:=?_);(repeat(first|refine wkH ?_|(refine tC rfl rfl ?_ ?_;focus(first|exact⟨h0,Wi h1 (by decide),Wi h2 (by decide),hm0,Wi h9 (by decide)⟩|exact⟨h0,Wi h3 (by decide),Wi h4 (by decide),hm0,Wi h9 (by decide)⟩))));refine Zn ?_;(repeat(refine Z4 ?_;intro _));refine Zr ?_)
 repeat(refine wkB ?_;intros)
 exact rtC rfl rfl⟩
end
section
abbrev PU :=Zau
abbrev UL :=ZN
abbrev rP :=Zb6
abbrev rU :=Za0
abbrev vPU (u:PU):Value:= .agg (Zaf (Zap u))
abbrev vUL (u:UL):Value:= .agg (ZD (ZE u))
abbrev vFn (f:FuncId):Value:= .func (.func f) #[] [].toArray
def toU (u:PU):UL:=⟨u.In,u.F⟩
def ofU (u:UL):PU:=⟨u.In,u.F⟩
instance ZJp (u:PU):SpecC prog 126 [vPU u] (vUL (toU u)) True:=⟨fun _ w=>by
 refine Zg Tryz.func126 rfl Tryz.ntmps126 rfl ?_
 repeat(refine wkB ?_;intros)
 exact rtC rfl rfl⟩
instance ZGz (u:UL):SpecC prog 180 [vUL u] (vPU (ofU u)) True:=⟨fun _ w=>by
 refine Zg Tryz.func180 rfl Tryz.ntmps180 rfl ?_
 repeat(refine wkB ?_;intros)
 exact rtC rfl rfl⟩
theorem ZnC (v:Value)(us:List PU)(w:World)(hv:ArgS w v rP us)(hl:us.length<=1048576):
  Calls prog 125 [v,vFn 126].toArray w (RetM (SlS rU 36 (mpN toU us us.length)) (fun s=>vSl s) (fun s=>mS 224 s) w):=by
 refine Zg Tryz.func125 rfl Tryz.ntmps125 rfl ?_
 obtain⟨p,cp,rfl⟩:=hv.form
 repeat(refine wkB ?_;intros)
 refine Zm (S:=(m:Nat)×SlS rU 36 (mpN toU us m)) (fun s=>s.1<=us.length) (fun s=>[(1,vFn 126),(5,vSl s.2),(8, .slice p us.length cp),(9, .int .i64 us.length),(10, .int .i64 (s.1:Nat))]) (fun s=>mS 224 s.2) (fun s=>us.length-s.1) ⟨0,SlS.no⟩
  (Wm _) sbB slB (fun s hm=>?_)
 obtain⟨m,s⟩:=s
 simp only at hm⊢
 repeat(refine wkB ?_;intros)
 refine Zl rfl (fun h=>?_) (fun h=>?_)
 ·have hlt:m<us.length:=by have:=Wa h;omega
  obtain⟨bw,ow,rfl,hrow'⟩:=hv.opn (k:=35) hlt
  repeat(refine wkB ?_;intros)
  have hml:=Zcl toU us m
  refine sU rfl rfl ?_ ?_ ?_ ?_
  ·rfl
  ·rfl
  ·exact⟨by decide,by omega,by omega⟩
  intro s'
  repeat(first|(refine wkB ?_;intros)|(refine wnM ?_ ?_;(focus(exact⟨by omega,by omega⟩));intros))
  exact Zh ⟨m+1,s'⟩ hlt sbB suB (by show us.length-(m+1)<us.length-m;omega)
 ·have hge:m=us.length:=by have:=Wb h;omega
  subst hge
  repeat(refine wkB ?_;intros)
  exact Zy rfl rfl (fun w hw=>⟨s,rfl,hw.sub sbl⟩)
theorem ZkC (v:Value)(us:List UL)(w:World)(hv:ArgS w v rU us)(hl:us.length<=1048576):
  Calls prog 179 [v,vFn 180].toArray w (RetM (SlS rP 36 (mpN ofU us us.length)) (fun s=>vSl s) (fun s=>mS 115 s) w):=by
 refine Zg Tryz.func179 rfl Tryz.ntmps179 rfl ?_
 obtain⟨p,cp,rfl⟩:=hv.form
 repeat(refine wkB ?_;intros)
 refine Zm (S:=(m:Nat)×SlS rP 36 (mpN ofU us m)) (fun s=>s.1<=us.length) (fun s=>[(1,vFn 180),(5,vSl s.2),(8, .slice p us.length cp),(9, .int .i64 us.length),(10, .int .i64 (s.1:Nat))]) (fun s=>mS 115 s.2) (fun s=>us.length-s.1) ⟨0,SlS.no⟩
  (Wm _) sbB slB (fun s hm=>?_)
 obtain⟨m,s⟩:=s
 simp only at hm⊢
 repeat(refine wkB ?_;intros)
 refine Zl rfl (fun h=>?_) (fun h=>?_)
 ·have hlt:m<us.length:=by have:=Wa h;omega
  obtain⟨bw,ow,rfl,hrow'⟩:=hv.opn (k:=35) hlt
  repeat(refine wkB ?_;intros)
  have hml:=Zcl ofU us m
  refine sU rfl rfl ?_ ?_ ?_ ?_
  ·rfl
  ·rfl
  ·exact⟨by decide,by omega,by omega⟩
  intro s'
  repeat(first|(refine wkB ?_;intros)|(refine wnM ?_ ?_;(focus(exact⟨by omega,by omega⟩));intros))
  exact Zh ⟨m+1,s'⟩ hlt sbB suB (by show us.length-(m+1)<us.length-m;omega)
 ·have hge:m=us.length:=by have:=Wb h;omega
  subst hge
  repeat(refine wkB ?_;intros)
  exact Zy rfl rfl (fun w hw=>⟨s,rfl,hw.sub sbl⟩)
instance ZGE (w0:World)(L:List Blk)(v:Value)(us:List PU)[h:LstC w0 L v PU rP us]:SpecR prog w0 L 125 [v,vFn 126] (SlS rU 36 (mpN toU us us.length)) (fun s=>vSl s) (fun s=>mS 224 s) (us.length<=1048576):=⟨fun hl w hw=>ZnC v us w (h.out w hw) hl⟩
instance Zzr (w0:World)(L:List Blk)(v:Value)(us:List UL)[h:LstC w0 L v UL rU us]:SpecR prog w0 L 179 [v,vFn 180] (SlS rP 36 (mpN ofU us us.length)) (fun s=>vSl s) (fun s=>mS 115 s) (us.length<=1048576):=⟨fun hl w hw=>ZkC v us w (h.out w hw) hl⟩
theorem ZtZ (v:Value)(us:List PU)(w:World)(hv:ArgS w v rP us)(hl:us.length<=1048576):
  Calls prog 72 [v].toArray w (RetM (SlS rU 36 (mpN toU us us.length)) (fun s=>vSl s) (fun s=>mS 224 s) w):=by
 have:=ArgC.mk hv
 refine Zg Tryz.func72 rfl Tryz.ntmps72 rfl ?_
 repeat(first|(refine wkB ?_;intros)|(refine wnM ?_ ?_;(focus(exact hl));intros))
 rename_i s
 exact Zy rfl rfl (fun w hw=>⟨s,rfl,hw.sub suB⟩)
theorem Zp9 (v:Value)(us:List UL)(w:World)(hv:ArgS w v rU us)(hl:us.length<=1048576):
  Calls prog 115 [v].toArray w (RetM (SlS rP 36 (mpN ofU us us.length)) (fun s=>vSl s) (fun s=>mS 115 s) w):=by
 have:=ArgC.mk hv
 refine Zg Tryz.func115 rfl Tryz.ntmps115 rfl ?_
 repeat(first|(refine wkB ?_;intros)|(refine wnM ?_ ?_;(focus(exact hl));intros))
 rename_i s
 exact Zy rfl rfl (fun w hw=>⟨s,rfl,hw.sub suB⟩)
instance ZKN (w0:World)(L:List Blk)(v:Value)(us:List PU)[h:LstC w0 L v PU rP us]:SpecR prog w0 L 72 [v] (SlS rU 36 (mpN toU us us.length)) (fun s=>vSl s) (fun s=>mS 224 s) (us.length<=1048576):=⟨fun hl w hw=>ZtZ v us w (h.out w hw) hl⟩
instance ZIX (w0:World)(L:List Blk)(v:Value)(us:List UL)[h:LstC w0 L v UL rU us]:SpecR prog w0 L 115 [v] (SlS rP 36 (mpN ofU us us.length)) (fun s=>vSl s) (fun s=>mS 115 s) (us.length<=1048576):=⟨fun hl w hw=>Zp9 v us w (h.out w hw) hl⟩
end
end Go.Vt
