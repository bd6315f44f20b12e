/- that the gaps between reports are those of the chain (part 9 of 32.) Conditions: those that each statement names. -/
import Derived.Laws.AppendOwn
import Derived.Test.YtjicdlilgjdefaaGreatDoorKG3
import Derived.Test.YtjicdlilgjdefaaGreatDoorKG8
set_option linter.unusedSimpArgs false
set_option linter.unusedVariables false
set_option maxHeartbeats 2000000
set_option linter.unusedSectionVars false
set_option maxRecDepth 100000
namespace Go.Vt
open Go.RowKit
section
variable {α : Type}
def rowL (enc:α->Array Value)(xs:List α):List Value:=xs.flatMap fun x=>(enc x).toList
def row (enc:α->Array Value)(xs:List α)(sp:List Value):Array Value:=(rowL enc xs++sp).toArray
class EncC (enc:α->Array Value)(k:outParam Nat):Prop where
 size:∀x,(enc x).size=k
 one:∀x,(enc x).all (·.oneCell')=true
def eI (k:IntKind)(z:Int):Array Value:=#[.int k z]
instance encI (k:IntKind):EncC (eI k) 1:=⟨fun _=>rfl,fun _=>by simp[eI,Value.oneCell']⟩
def gi [Inhabited α](xs:List α)(i:Int):α:=xs.getD i.toNat default
theorem Zc1 [Inhabited α]{xs:List α}{i:Int}(h:i.toNat<xs.length):gi xs i=xs[i.toNat]:=by
 unfold gi
 rw[List.getD_eq_getElem?_getD,List.getElem?_eq_getElem h]
 rfl
theorem Zj [Inhabited α]{xs:List α}{i:Nat}(h:i<xs.length):gi xs (i:Int)=xs[i]:=Zc1 (i:=(i:Int)) h
variable {enc : α -> Array Value} {k : Nat}
theorem Zr3 :rowL enc []=[]:=rfl
theorem Zbf (xs ys:List α):rowL enc (xs++ys)=rowL enc xs++rowL enc ys:=by simp[rowL]
theorem Z9 [h:EncC enc k](xs:List α):(rowL enc xs).length=xs.length*k:=by
 induction xs with
 |nil=>simp[rowL]
 |cons x xs ih=>
  have h1:=h.size x
  simp only[rowL,List.flatMap_cons,Wp,Array.length_toList,Wu,h1,Nat.add_mul] at ih⊢
  omega
theorem Ze0 [h:EncC enc k](xs:List α)(i j:Nat)(hi:i<xs.length)(hj:j<k):(rowL enc xs)[i*k+j]? =(enc xs[i])[j]? :=by
 induction xs generalizing i with
 |nil=>simp at hi
 |cons x xs ih=>
  have h1:=h.size x
  simp only[rowL,List.flatMap_cons] at ih⊢
  cases i with
  |zero=>
   rw[Nat.zero_mul,Nat.zero_add,List.getElem?_append_left (by simp;omega)]
   simp
  |succ i=>
   rw[List.getElem?_append_right (by simp[Nat.add_mul];omega)]
   have e:(i+1)*k+j-(enc x).toList.length=i*k+j:=by simp[Nat.add_mul,h1];omega
   rw[e,ih i (by simpa using hi)]
   simp
theorem Zb2 [h:EncC enc k](xs:List α)(sp:List Value)(i j:Nat)(hi:i<xs.length)(hj:j<k):(row enc xs sp)[i*k+j]? =(enc xs[i])[j]? :=by
 have hl:=Z9 (enc:=enc) xs
 have hlt:i*k+j<xs.length*k:=by
  have:=Nat.mul_le_mul_right k (show i+1<=xs.length from hi)
  rw[Nat.add_mul] at this
  omega
 rw[row,List.getElem?_toArray,List.getElem?_append_left (by omega)]
 exact Ze0 xs i j hi hj
theorem Zcg [h:EncC enc k](xs:List α)(sp:List Value):(row enc xs sp).size=xs.length*k+sp.length:=by
 simp[row,Z9]
theorem ZhP {P:Program}{T:TypeId}{f:Nat}{v:Value}[h:EncC enc k]{xs:List α}{sp:List Value}{i:Nat}(hi:i<xs.length)(hv:LdV P T (enc xs[i]) f v):LdV P T (row enc xs sp) (i*k+f) v:=by
 have hk:=h.size xs[i]
 have hle:=Nat.mul_le_mul_right k (show i+1<=xs.length from hi)
 rw[Nat.add_mul] at hle
 rcases hv with⟨n,ha,hs,rfl⟩|⟨ho,hv⟩
 ·refine .inl ⟨n,ha,by rw[Zcg (k:=k)];omega, ?_⟩
  congr 1
  apply Array.ext_getElem?
  intro j
  rw[Array.getElem?_extract,Array.getElem?_extract]
  by_cases hj:j<n
  ·rw[if_pos (by omega),if_pos (by rw[Zcg (k:=k)];omega),Nat.add_assoc,Zb2 xs sp i (f+j) hi (by omega)]
  ·rw[if_neg (by omega),if_neg (by rw[Zcg (k:=k)];omega)]
 ·have hf:f<k:=by
   rcases Nat.lt_or_ge f k with h1|h1
   ·exact h1
   ·rw[Array.getElem?_eq_none (by omega)] at hv
    cases hv
  exact .inr ⟨ho,by rw[Zb2 xs sp i f hi hf];exact hv⟩
theorem ZmJ [h:EncC enc k](xs:List α)(sp:List Value)(i:Nat)(z:α)(hi:i<xs.length):spl (row enc xs sp) (i*k) (enc z).toList=row enc (xs.set i z) sp:=by
 have hle:=Nat.mul_le_mul_right k (show i+1<=xs.length from hi)
 rw[Nat.add_mul] at hle
 have hz:=h.size z
 apply Array.ext_getElem?
 intro j
 rw[Zdg _ _ _ _ (by rw[Zcg (k:=k)];simp;omega)]
 simp only[Array.length_toList,hz]
 by_cases h1:i*k<=j/\j<i*k+k
 ·rw[if_pos h1]
  obtain⟨m,rfl⟩:∃m,j=i*k+m:=⟨j-i*k,by omega⟩
  rw[Zb2 _ sp i m (by simpa using hi) (by omega),Nat.add_sub_cancel_left]
  simp
 ·rw[if_neg h1]
  rcases Nat.lt_or_ge j (xs.length*k) with h2|h2
  ·rcases Nat.eq_zero_or_pos k with h0|h0
   ·subst h0;simp at h2
   ·obtain⟨q,m,rfl,hm⟩:∃q m,j=q*k+m/\m<k:=⟨j / k,j % k,by rw[Nat.mul_comm];exact(Nat.div_add_mod j k).symm,Nat.mod_lt _ h0⟩
    have hq:q<xs.length:=by
     rcases Nat.lt_or_ge q xs.length with h3|h3
     ·exact h3
     ·have:=Nat.mul_le_mul_right k h3
      omega
    have hqi:i≠q:=by
     rintro rfl
     exact h1 ⟨by omega,by omega⟩
    rw[Zb2 xs sp q m hq hm,Zb2 _ sp q m (by simpa using hq) hm]
    simp[List.getElem_set_ne hqi]
  ·rw[row,row,List.getElem?_toArray,List.getElem?_toArray,List.getElem?_append_right (by rw[Z9 (k:=k)];exact h2),List.getElem?_append_right (by rw[Z9 (k:=k)];simpa using h2)]
   simp[Z9 (k:=k)]
theorem ZcI [h:EncC enc k](xs:List α):∀u∈rowL enc xs,u.oneCell'=true:=fun u hu=>by
 obtain⟨x,_,hx⟩:=List.mem_flatMap.1 hu
 exact Array.all_eq_true_iff_forall_mem.1 (h.one x) u (Array.mem_toList_iff.1 hx)
end
class FoC (w0:World)(b:Nat)(cs:outParam (Array Value))(T:outParam TypeId):Prop where
 out:∃fz,w0.heap[b]? =some (.cells cs T fz)
class AtC (w0:World)(L:List Blk)(b:Nat)(cs:outParam (Array Value))(T:outParam TypeId):Prop where
 out:∀w,Own w0 L w->∃fz,w.heap[b]? =some (.cells cs T fz)
instance (priority :=high) atMem (w0:World)(L:List Blk)(b:Nat)(cs:Array Value)(T:TypeId)[h:MemC b L cs T]:AtC w0 L b cs T:=⟨fun _ hw=>⟨(0,0),(hw.mem _ h.out).2⟩⟩
instance (priority :=low) atFo (w0:World)(L:List Blk)(b:Nat)(cs:Array Value)(T:TypeId)[h:FoC w0 b cs T]:AtC w0 L b cs T:=⟨fun w hw=>by
 obtain⟨fz,hf⟩:=h.out
 exact⟨fz,by rw[hw.ext.block b (Zq hf)];exact hf⟩⟩
instance (priority :=low) sblA (X A B:List Blk)[h:SblC A B]:SblC A (X++B):=⟨h.out.trans (List.sublist_append_right _ _)⟩
instance (priority :=low) memSkip (b:Nat)(A L:List Blk)(cs:Array Value)(T:TypeId)[h:MemC b L cs T]:MemC b (A++L) cs T:=⟨List.mem_append_right _ h.out⟩
section
variable {P : Program} {w0 : World} {n : Nat} {ops : Array Oper} {L L' : List Blk} {E : Env}
variable {Q : Exit -> Act -> World -> Prop} {rest : List Oper} {v : Value}
variable {d : Option Tmp} {ty : TypeId} {pos : String} {aft : Array Edge} {gd : Option (Nat × Bool)} {t : Tmp}
variable {x y : Operand} {T : TypeId}
theorem Zd6 {T0:TypeId}{b off:Nat}{cs:Array Value}(hx:Env.ev E x=some (.pointer (some ⟨b,off,none⟩)))(h:∀w,Own w0 L w->∃fz,w.heap[b]? =some (.cells cs T0 fz))(hv:LdV P T cs off v):Yl P w0 n L E ⟨d, .load T x,ty,pos,aft,gd⟩ v:=
 ZaC (fun _=>loadVar T ⟨b,off,none⟩) (fun a ha=>by
  simp only[execOp,ha.ev hx,Instr.loadAt,Instr.sureAddr]
  rfl) (fun a w _ hw=>by
   obtain⟨fz,hf⟩:=h w hw
   exact ZbX hf hv)
instance (priority :=low) ZEc {T0:TypeId}{b off:Nat}{cs:Array Value}[IsC (evl E x) (.pointer (some ⟨b,off,none⟩))][h:FoC w0 b cs T0][hv:LdC P T cs off v]:YlC P w0 n L E (.load T x) v:=⟨fun _ _ _ _ _=>Zd6 isE (atFo w0 L b cs T0).out hv.out⟩
section
variable {α : Type} [Inhabited α] {enc : α -> Array Value} {k b f : Nat} {xs : List α} {sp : List Value} {T0 : TypeId} {i lo : Int}
instance ldEI {k:IntKind}{z:Int}[h:UndC P T (.int k)]:LdC P T (eI k z) 0 (.int k z):=⟨ZC (by simp[oneB,h.out]) rfl⟩
instance Znj [IsC (evl E x) (.pointer (some ⟨b,0+i.toNat*k,none⟩))][h:AtC w0 L b (row enc xs sp) T0][EncC enc k][hv:LdC P T (enc (gi xs i)) 0 v]:YsC P w0 n L E (.load T x) v (i.toNat<xs.length):=⟨fun hi _ _ _ _ _=>Zd6 isE h.out (by
 have h1:=ZhP (P:=P) (T:=T) (v:=v) (enc:=enc) (k:=k) (sp:=sp) (f:=0) hi (by rw[<-Zc1 hi];exact hv.out)
 rwa [Nat.add_zero,<-Nat.zero_add (i.toNat*k)] at h1)⟩
instance ZIN [IsC (evl E x) (.pointer (some ⟨b,0+i.toNat*k+f,none⟩))][h:AtC w0 L b (row enc xs sp) T0][EncC enc k][hv:LdC P T (enc (gi xs i)) f v]:YsC P w0 n L E (.load T x) v (i.toNat<xs.length):=⟨fun hi _ _ _ _ _=>Zd6 isE h.out (by
 have h1:=ZhP (P:=P) (T:=T) (v:=v) (enc:=enc) (k:=k) (sp:=sp) (f:=f) hi (by rw[<-Zc1 hi];exact hv.out)
 rwa [<-Nat.zero_add (i.toNat*k)] at h1)⟩
class ValC {α:Type}(enc:α->Array Value)(u:Value)(z:outParam α):Prop where
 out:u.cells=enc z
instance valI {k:IntKind}{z:Int}:ValC (eI k) (.int k z) z:=⟨rfl⟩
instance valA (enc:α->Array Value)(z:α):ValC enc (.agg (enc z)) z:=⟨rfl⟩
theorem sR {u:Value}{z:α}[hx:IsC (evl E x) (.pointer (some ⟨b,0+i.toNat*k,none⟩))][hy:IsC (evl E y) u][hk:SizeC P T k][MemC b L (row enc xs sp) T0][he:EncC enc k][hu:ValC enc u z][hU:UpdC b (row enc (xs.set i.toNat z) sp) L (row enc xs sp) T0 L']
  (hg:guardB ops E gd=some true) (s:i.toNat<xs.length) (h:JO P w0 n ops Q rest E L'):JO P w0 n ops Q (⟨none, .store T x y,ty,pos,aft,gd⟩::rest) E L:=by
 have h1:=he.size z
 have hle:=Nat.mul_le_mul_right k (show i.toNat+1<=xs.length from s)
 rw[Nat.add_mul] at hle
 exact Zdc (u:=u) k isE isE hU.out hk.out (by rw[hu.out,h1]) (by rw[Zcg (k:=k)];exact Nat.ble_eq_true_of_le (by omega)) (by rw[hu.out];exact he.one z) (by rw[hu.out,Nat.zero_add];exact ZmJ xs sp _ z s) hg rfl h
end
class StC (P:Program)(T:TypeId)(cs:Array Value)(off:Nat)(u:Value)(cs':outParam (Array Value)):Prop where
 size:(P.info? T).map (·.size)=some u.cells.size
 fit:Nat.ble (off+u.cells.size) cs.size=true
 one:u.cells.all (·.oneCell')=true
 out:spl cs off u.cells.toList=cs'
theorem sF {T0:TypeId}{b off:Nat}{cs cs':Array Value}{u:Value}[hx:IsC (evl E x) (.pointer (some ⟨b,off,none⟩))][hy:IsC (evl E y) u][MemC b L cs T0][hs:StC P T cs off u cs'][hU:UpdC b cs' L cs T0 L'](hg:guardB ops E gd=some true)
  (h:JO P w0 n ops Q rest E L'):JO P w0 n ops Q (⟨none, .store T x y,ty,pos,aft,gd⟩::rest) E L:=Zdc (u:=u) u.cells.size isE isE hU.out hs.size rfl hs.fit hs.one hs.out hg rfl h
theorem eF {K:Env->List Blk->Prop}{Lw:List Blk}{T0:TypeId}{b off:Nat}{cs cs':Array Value}{u:Value}[hx:IsC (evl E x) (.pointer (some ⟨b,off,none⟩))][hy:IsC (evl E y) u][MemC b L cs T0][hs:StC P T cs off u cs'][hU:UpdC b cs' L cs T0 L'](hg:guardB ops E gd=some true)[hw:SblC Lw L']
  (h:JE P w0 n ops Lw K rest E L'):JE P w0 n ops Lw K (⟨none, .store T x y,ty,pos,aft,gd⟩::rest) E L:=Ze6 (u:=u) u.cells.size isE isE hU.out hs.size rfl hs.fit hs.one hs.out hg hw.out h
class SpecM (P:Program)(w0:World)(L:List Blk)(f:FuncId)(args:List Value)(v:outParam Value)(pre:outParam Prop):Prop where
 out:pre->∀w,Own w0 L w->Calls P f args.toArray w (Ret v w)
instance (priority :=low) ZIO {f:FuncId}{args:List Value}{pre:Prop}[h:SpecC P f args v pre]:SpecM P w0 L f args v pre:=⟨fun hp w _=>h.out hp w⟩
instance (priority :=low) ZE7 {f:FuncId}{xs:List Operand}{l:List Value}{ats:Array TypeId}{pre:Prop}[hf:CallC P f][IsC (evsl E xs) l][h:SpecM P w0 L f l v pre]:YcC P w0 n L E (.call ⟨.value (.func f),xs.toArray,ats⟩) v pre:=⟨fun hp _ _ _ _ _=>ZhF hf.out isS (h.out hp)⟩
theorem ZlA {f:Fn}{xs:List Operand}{l:List Value}(hl:Env.evs E xs=some l):Yl P w0 n L E ⟨d, .makeFunc f #[] xs.toArray,ty,pos,aft,gd⟩ (.func f #[] l.toArray):=
 ZaC (fun _=>Instr.makeFunc f #[] l.toArray) (fun a ha=>by
  have h1:xs.toArray.map a.eval=l.toArray:=by rw[<-ha.evs xs l hl];simp
  simp only[execOp,h1,Array.map_empty]) (fun a w _ _=>by simp[Instr.makeFunc])
instance Zxz {f:Fn}{xs:List Operand}{l:List Value}[IsC (evsl E xs) l]:YlC P w0 n L E (.makeFunc f #[] xs.toArray) (.func f #[] l.toArray):=⟨fun _ _ _ _ _=>ZlA isS⟩
class AppC (a b:List Value)(c:outParam (List Value)):Prop where out:a++b=c
instance appN (b:List Value):AppC [] b b:=⟨rfl⟩
instance appS (x:Value)(a b c:List Value)[h:AppC a b c]:AppC (x::a) b (x::c):=⟨by rw[<-h.out];rfl⟩
theorem Zhh {f:FuncId}{g:Operand}{xs:List Operand}{l cap c:List Value}{ats:Array TypeId}{a:Act}{w:World}(hf:callableB P f=true)(ha:Rep n E a)(hg:Env.ev E g=some (.func (.func f) #[] cap.toArray))(hl:Env.evs E xs=some l)(hc:l++cap=c):
  (execOp a.eval ⟨d, .call ⟨.value g,xs.toArray,ats⟩,ty,pos,aft,gd⟩).run P w= .ok (.enter f c.toArray) w:=by
 have h1:xs.toArray.map a.eval=l.toArray:=by rw[<-ha.evs xs l hl];simp
 simp only[execOp,resolve,h1,ha.ev hg,Deferred.ofValue,Sem.run_bind,Sem.run_pure,Result.andThen,invoke]
 rw[show(#[]++l.toArray:Array Value)=l.toArray from Array.empty_append]
 have h2:l.toArray++cap.toArray=c.toArray:=by rw[<-hc];simp
 rw[h2]
 exact ZbH hf _ _
instance ZBW {f:FuncId}{u:Tmp}{xs:List Operand}{l cap c:List Value}{ats:Array TypeId}{pre:Prop}[hu:IsC (evl E (.tmp u)) (.func (.func f) #[] cap.toArray)][hf:CallC P f][IsC (evsl E xs) l][hc:AppC l cap c][h:SpecM P w0 L f c v pre]:YcC P w0 n L E (.call ⟨.value (.tmp u),xs.toArray,ats⟩) v pre:=⟨fun hp _ _ _ _ _=>⟨fun a w ha hw=>by
 unfold calm
 rw[Zhh hf.out ha isE isS hc.out]
 exact⟨rfl,h.out hp w hw⟩⟩⟩
def RetM (S:Type)(val:S->Value)(mem:S->List Blk)(w:World)(e:Ending)(w':World):Prop:=∃s,e= .returned (val s)/\Own w (mem s) w'
theorem Own.join {w w':World}{G:List Blk}(h:Own w0 L w)(k:Own w G w'):Own w0 (G++L) w':=by
 have h':=h.to k.ext
 refine⟨h'.ext,fun e he=>?_, ?_⟩
 ·rcases List.mem_append.1 he with he|he
  ·exact⟨Wi h.ext.size (k.mem e he).1,(k.mem e he).2⟩
  ·exact h'.mem e he
 ·rw[List.map_append]
  refine List.nodup_append.2 ⟨k.nd,h.nd,fun a ha b hb hab=>?_⟩
  obtain⟨e1,h1,rfl⟩:=List.mem_map.1 ha
  obtain⟨e2,h2,rfl⟩:=List.mem_map.1 hb
  have h3:=(k.mem e1 h1).1
  have h4:=h.lt h2
  omega
class SpecR (P:Program)(w0:World)(L:List Blk)(f:FuncId)(args:List Value)(S:outParam Type)(val:outParam (S->Value))(mem:outParam (S->List Blk))(pre:outParam Prop):Prop where
 out:pre->∀w,Own w0 L w->Calls P f args.toArray w (RetM S val mem w)
theorem Zsm {S:Type}{val:S->Value}{mem:S->List Blk}{f:FuncId}{xs:List Operand}{l:List Value}{ats:Array TypeId}(hl:Env.evs E xs=some l)(hf:callableB P f=true)(hc:∀w,Own w0 L w->Calls P f l.toArray w (RetM S val mem w))
  (hg:guardB ops E gd=some true) (hd:Nat.blt t n=true) (h:∀s,JO P w0 n ops Q rest ((t,val s)::E) (mem s++L)):JO P w0 n ops Q (⟨some t, .call ⟨.value (.func f),xs.toArray,ats⟩,ty,pos,aft,gd⟩::rest) E L:=
 ZkT (S:=S) (o:=⟨some t, .call ⟨.value (.func f),xs.toArray,ats⟩,ty,pos,aft,gd⟩) hg hd val (fun s=>mem s++L) (fun _ _ ha=>ZcF hf ha hl)
  (fun w hw=>(hc w hw).mono fun _ _ ⟨s,he,ho⟩=>⟨s,he,hw.join ho⟩) h
theorem sN {S:Type}{val:S->Value}{mem:S->List Blk}{f:FuncId}{xs:List Operand}{l:List Value}{ats:Array TypeId}{pre:Prop}[hf:CallC P f][hl:IsC (evsl E xs) l][hc:SpecR P w0 L f l S val mem pre]
  (hg:guardB ops E gd=some true) (hd:Nat.blt t n=true) (s:pre) (h:∀s,JO P w0 n ops Q rest ((t,val s)::E) (mem s++L)):JO P w0 n ops Q (⟨some t, .call ⟨.value (.func f),xs.toArray,ats⟩,ty,pos,aft,gd⟩::rest) E L:=Zsm isS hf.out (hc.out s) hg hd h
theorem eN {K:Env->List Blk->Prop}{Lw:List Blk}{S:Type}{val:S->Value}{mem:S->List Blk}{f:FuncId}{xs:List Operand}{l:List Value}{ats:Array TypeId}{pre:Prop}[hf:CallC P f][hl:IsC (evsl E xs) l][hc:SpecR P w0 L f l S val mem pre]
  (hg:guardB ops E gd=some true) (hd:Nat.blt t n=true) [hw:SblC Lw L] (s:pre) (h:∀s,JE P w0 n ops Lw K rest ((t,val s)::E) (mem s++L)):JE P w0 n ops Lw K (⟨some t, .call ⟨.value (.func f),xs.toArray,ats⟩,ty,pos,aft,gd⟩::rest) E L:=
 ZvH (S:=S) (o:=⟨some t, .call ⟨.value (.func f),xs.toArray,ats⟩,ty,pos,aft,gd⟩) hg hd val (fun s=>mem s++L) (fun _ _ ha=>ZcF hf.out ha isS)
  (fun w hw'=>(hc.out s w hw').mono fun _ _ ⟨s,he,ho⟩=>⟨s,he,hw'.join ho⟩) (fun _=>Zaq (hw.out.trans (List.sublist_append_right _ _))) h
theorem eX {K:Env->List Blk->Prop}{Lw:List Blk}{op:Op}[h:YlC P w0 n L E op v](hg:guardB ops E gd=some true)(hd:Nat.blt t n=true)[hw:SblC Lw L](k:JE P w0 n ops Lw K rest ((t,v)::E) L):JE P w0 n ops Lw K (⟨some t,op,ty,pos,aft,gd⟩::rest) E L:=
 ⟨hg,hd,Unit,fun _=>v,fun _=>L,fun a w ha hw=>by
  have h1:=(h.out (some t) ty pos aft gd).out a w ha hw
  unfold calm at h1
  generalize (execOp a.eval ⟨some t,op,ty,pos,aft,gd⟩).run P w=r at*
  cases r with
  |ok x w'=>
   cases x <;> simp only[calmUpon] at h1 <;> simp only[Hap]
   case value u=>exact⟨(),h1.1,hw.to h1.2⟩
   case skip=>exact⟨(),h1.1.symm,hw.to h1.2⟩
   case enter f args=>
    obtain⟨rfl,h2⟩:=h1
    exact h2.mono fun e w'' ⟨he,hx⟩=>⟨_,he,(),rfl,hw.to hx⟩
  |halt x w'=>simp only[calmUpon] at h1,fun _=>Zaq hw.out,fun _=>k⟩
theorem sB {len:Nat}{ps:List (Nat×Operand)}{l:List (Nat×Value)}{cs:Array Value}{e:TypeId}[hp:IsC (evpl E ps) l][hb:BsC P T len l cs e](hg:guardB ops E gd=some true)(hd:Nat.blt t n=true)
  (h:∀b,JO P w0 n ops Q rest ((t, .slice (some ⟨b,0,none⟩) len len)::E) (⟨b,cs,e⟩::L)):JO P w0 n ops Q (⟨some t, .buildSlice T len ps.toArray,ty,pos,aft,gd⟩::rest) E L:=ZiE isP hg hd h
theorem eB {K:Env->List Blk->Prop}{Lw:List Blk}{len:Nat}{ps:List (Nat×Operand)}{l:List (Nat×Value)}{cs:Array Value}{e:TypeId}[hp:IsC (evpl E ps) l][hb:BsC P T len l cs e](hg:guardB ops E gd=some true)(hd:Nat.blt t n=true)[hw:SblC Lw L]
  (h:∀b,JE P w0 n ops Lw K rest ((t, .slice (some ⟨b,0,none⟩) len len)::E) (⟨b,cs,e⟩::L)):JE P w0 n ops Lw K (⟨some t, .buildSlice T len ps.toArray,ty,pos,aft,gd⟩::rest) E L:=Zo9 isP hg hd hw.out h
end
class DelC (b:Nat)(L:List Blk)(cs:outParam (Array Value))(T:outParam TypeId)(L1:outParam (List Blk)):Prop where
 out:L.Perm (⟨b,cs,T⟩::L1)
instance (priority :=high) delHere (b:Nat)(cs:Array Value)(T:TypeId)(L:List Blk):DelC b (⟨b,cs,T⟩::L) cs T L:=⟨.refl _⟩
instance (priority :=low) delThere (b:Nat)(e:Blk)(cs:Array Value)(T:TypeId)(L L1:List Blk)[h:DelC b L cs T L1]:DelC b (e::L) cs T (e::L1):=⟨(h.out.cons e).trans (.swap _ _ _)⟩
section
variable {P : Program} {w0 : World} {n : Nat} {ops : Array Oper} {L L1 : List Blk} {E : Env}
variable {Q : Exit -> Act -> World -> Prop} {rest : List Oper}
variable {ty : TypeId} {pos : String} {aft : Array Edge} {gd : Option (Nat × Bool)} {t : Tmp} {x y : Operand}
theorem Zbx {T:TypeId}{β:Type}{g:TypeInfo->β}{v:β}(h:(P.info? T).map g=some v):∃i,P.info? T=some i/\g i=v:=by
 cases hi:P.info? T with
 |none=>simp[hi] at h
 |some i=>exact⟨i,rfl,by simpa [hi] using h⟩
theorem ZeQ {S T:TypeId}{b len c b2 off2 m c2 k B:Nat}{xs sp news:List Value}{cs2:Array Value}{z:Value}{zc:Array Value}{w:World}(hT:P.underlying S=some (.slice T))(hz:(P.info? T).bind (·.zero)=some z)(hzc:z.cells=zc)(hk:(P.info? T).map (·.size)=some k)(hB:(P.info? T).map (·.bytes)=some B)
  (hzk:zc.size=k) (hw:Own w0 L w) (hd:L.Perm (⟨b,(xs++sp).toArray,T⟩::L1)) (hx:xs.length=len*k) (hs:sp.length=(c-len)*k) (hc:len<=c) (h2:∃T2 fz,w.heap[b2]? =some (.cells cs2 T2 fz)) (hn:news.length=m*k) (hcs:∀j u,news[j]? =some u->cs2[off2+j]? =some u)
  (h1:∀u∈news,u.oneCell'=true) (hbytes:(len+m)*B<=140737488355328) (h63:len+m<=9223372036854775807):
  ∃s:{s:Nat×Nat×List Value // len+m<=s.2.1/\s.2.2.length=(s.2.1-(len+m))*k},∃w',(Builtin.append_ #[S,S] ty #[.slice (some ⟨b,0,none⟩) len c, .slice (some ⟨b2,off2,none⟩) m c2]).run P w= .ok (.slice (some ⟨s.1.1,0,none⟩) (len+m) s.1.2.1) w'/\Own w0 (⟨s.1.1,(xs++news++s.1.2.2).toArray,T⟩::L1) w':=by
 have hwp:=hw.perm hd
 have hb:=(hwp.mem _ (.head _)).2
 obtain⟨i,hi,hik⟩:=Zbx hk
 obtain⟨i',hi',hiB⟩:=Zbx hB
 obtain rfl:i'=i:=Option.some.inj (hi'.symm.trans hi)
 have hz':i'.zero=some z:=by simpa [hi] using hz
 obtain⟨T2,fz,h2⟩:=h2
 have hnew:∀j u,news[j]? =some u->w.cell? ((⟨b2,off2,none⟩:Addr).add j)=some u:=fun j u hu=>by rw[ZaG,Zaw h2];exact hcs j u hu
 by_cases hroom:len+m<=c
 ·have hle:(c-len)*k=(c-(len+m))*k+m*k:=by rw[<-Nat.add_mul,show c-(len+m)+m=c-len by omega]
  have hr:=run_append_room w S ty T i' hT hi b len c (xs++sp).toArray hb ⟨b2,off2,none⟩ m c2 news (by rw[hik];exact hn) hnew h1 hroom (by rw[hik];simp;omega)
  refine⟨⟨(b,c,sp.drop (m*k)),hroom,by rw[List.length_drop];simp only;omega⟩,_,hr, ?_⟩
  have e1:((xs++sp).toArray.toList.take (len*i'.size)++news++(xs++sp).toArray.toList.drop (len*i'.size+news.length))=xs++news++sp.drop (m*k):=by
   rw[hik,hn,<-hx]
   simp only[List.take_left',List.drop_append,List.append_assoc]
   rw[List.drop_eq_nil_of_le (by omega),Nat.add_sub_cancel_left]
   simp
  rw[e1]
  refine hwp.turn (b:=b) (cs:=(xs++sp).toArray) (T:=T) .here ?_
  have hsz:b<w.heap.size:=Zq hb
  refine⟨by simp[World.setRow],by simp[World.setRow],by simp[World.setRow],by simp[World.setRow],by simp[World.setRow],fun q hq=>?_, ?_⟩
  ·simp[World.setRow,Array.getElem?_modify,Ne.symm hq]
  ·simp[World.setRow,Array.getElem?_modify,hb]
 ·have hold:∀j u,xs[j]? =some u->w.cell? ((⟨b,0,none⟩:Addr).add j)=some u:=fun j u hu=>by
   rw[ZaG,Zaw hb,Nat.zero_add,List.getElem?_toArray,List.getElem?_append_left (by
    rcases Nat.lt_or_ge j xs.length with h|h
    ·exact h
    ·rw[List.getElem?_eq_none h] at hu;cases hu)]
   exact hu
  have hr:=run_append_grow w S ty T i' z hT hi hz' ⟨b,0,none⟩ len c xs (by rw[hik];exact hx) hold ⟨b2,off2,none⟩ m c2 news (by rw[hik];exact hn) hnew (by omega) (by omega) (growslice_fits (by omega) (by rw[hiB];exact hbytes))
  have hge:=grownCap_ge w (len+m) c T
  refine⟨⟨(w.heap.size,grownCap w (len+m) c T,(Builtin.zeroCells z.cells (grownCap w (len+m) c T-(len+m))).toList),hge,by rw[Array.length_toList,size_zeroCells,hzc,hzk]⟩,_,hr, ?_⟩
  have hL1:Own w0 L1 w:=hwp.sub (List.sublist_cons_self _ _)
  have h3:=(hL1.to (Ext.drew w)).alloc (xs.toArray++news.toArray++Builtin.zeroCells z.cells (grownCap w (len+m) c T-(len+m))) T
  have e2:xs.toArray++news.toArray++Builtin.zeroCells z.cells (grownCap w (len+m) c T-(len+m))=(xs++news++(Builtin.zeroCells z.cells (grownCap w (len+m) c T-(len+m))).toList).toArray:=by
   apply Array.ext'
   simp
  rw[e2] at h3
  rw[e2]
  exact h3
theorem Zdo {S T:TypeId}{b2 off2 m c2 k B:Nat}{news:List Value}{cs2:Array Value}{z:Value}{zc:Array Value}{w:World}(hT:P.underlying S=some (.slice T))(hz:(P.info? T).bind (·.zero)=some z)(hzc:z.cells=zc)(hk:(P.info? T).map (·.size)=some k)(hB:(P.info? T).map (·.bytes)=some B)
  (hzk:zc.size=k) (hw:Own w0 L w) (h2:∃T2 fz,w.heap[b2]? =some (.cells cs2 T2 fz)) (hn:news.length=m*k) (hcs:∀j u,news[j]? =some u->cs2[off2+j]? =some u)
  (hm:0<m) (hbytes:m*B<=140737488355328) (h63:m<=9223372036854775807):
  ∃s:{s:Nat×Nat×List Value // m<=s.2.1/\s.2.2.length=(s.2.1-m)*k},∃w',(Builtin.append_ #[S,S] ty #[.slice none 0 0, .slice (some ⟨b2,off2,none⟩) m c2]).run P w= .ok (.slice (some ⟨s.1.1,0,none⟩) m s.1.2.1) w'/\Own w0 (⟨s.1.1,(news++s.1.2.2).toArray,T⟩::L) w':=by
 obtain⟨i,hi,hik⟩:=Zbx hk
 obtain⟨i',hi',hiB⟩:=Zbx hB
 obtain rfl:i'=i:=Option.some.inj (hi'.symm.trans hi)
 have hz':i'.zero=some z:=by simpa [hi] using hz
 obtain⟨T2,fz,h2⟩:=h2
 have hnew:∀j u,news[j]? =some u->w.cell? ((⟨b2,off2,none⟩:Addr).add j)=some u:=fun j u hu=>by rw[ZaG,Zaw h2];exact hcs j u hu
 have hr:=run_append_nil w S ty T i' z hT hi hz' ⟨b2,off2,none⟩ m c2 news (by rw[hik];exact hn) hnew hm (by omega) (by rw[hiB];omega)
 have hge:=grownCap_ge w m 0 T
 refine⟨⟨(w.heap.size,grownCap w m 0 T,(Builtin.zeroCells z.cells (grownCap w m 0 T-m)).toList),hge,by rw[Array.length_toList,size_zeroCells,hzc,hzk]⟩,_,hr, ?_⟩
 have h3:=(hw.to (Ext.drew w)).alloc (news.toArray++Builtin.zeroCells z.cells (grownCap w m 0 T-m)) T
 have e2:news.toArray++Builtin.zeroCells z.cells (grownCap w m 0 T-m)=(news++(Builtin.zeroCells z.cells (grownCap w m 0 T-m)).toList).toArray:=by
  apply Array.ext'
  simp
 rw[e2] at h3
 rw[e2]
 exact h3
theorem ZaM {S:TypeId}{vx vy:Value}{a:Act}{w w':World}{r:Value}{d:Option Tmp}(ha:Rep n E a)(hx:Env.ev E x=some vx)(hy:Env.ev E y=some vy)(hr:(Builtin.append_ #[S,S] ty #[vx,vy]).run P w= .ok r w'):
  (execOp a.eval ⟨d, .call ⟨.builtin .append,#[x,y],#[S,S]⟩,ty,pos,aft,gd⟩).run P w= .ok (.value r) w':=by
 have h1:(#[x,y]:Array Operand).map a.eval=#[vx,vy]:=by simp[ha.ev hx,ha.ev hy]
 have h2:∀cs:Array Bool,(builtin .append #[S,S] ty cs #[vx,vy]).run P w= .ok (.value r) w':=fun cs=>by
  show Sem.run P (do pure (Next.value (<-Builtin.append_ #[S,S] ty #[vx,vy])):Sem Next) w=_
  rw[Sem.run_bind,hr]
  rfl
 simp only[execOp,resolve,h1,Sem.run_bind,Sem.run_pure,Result.andThen,invoke]
 exact h2 _
theorem ZgO (k:IntKind)(xs:List Int):nums k xs=row (eI k) xs []:=by
 have h:∀l:List Int,l.flatMap (fun x=>[Value.int k x])=l.map (Value.int k):=by
  intro l
  induction l with
  |nil=>rfl
  |cons a l ih=>simp[ih]
 simp[nums,row,rowL,eI,h]
theorem sM {T e:TypeId}{k:IntKind}{B m:Nat}[hT:UndC P T (.slice e)][hz:ZeroC P e (.int k 0) #[.int k 0]][hs:SizeC P e 1][hB:BytesC P e B][hx:IsC (evl E x) (.int .i64 (m:Nat))][hy:IsC (evl E y) (.int .i64 (m:Nat))](hg:guardB ops E gd=some true)(hd:Nat.blt t n=true)(hm:B*m<=281474976710656/\m<=281474976710656)
  (h:∀b,JO P w0 n ops Q rest ((t, .slice (some ⟨b,0,none⟩) m m)::E) (⟨b,row (eI k) (List.replicate m 0) [],e⟩::L)):JO P w0 n ops Q (⟨some t, .makeSlice T x y,ty,pos,aft,gd⟩::rest) E L:=
 Zml isE isE hm hg hd (fun b=>by rw[ZgO];exact h b)
end
theorem wkB {P Q:Prop}(k:Q)(h:Wr Q->P:=by intro hq;(first|refine sX rfl rfl ?_|(refine sS rfl rfl ?_ ?_;focus omega)|(refine sC rfl rfl ?_ ?_;focus(first|exact trivial|assumption|constructor <;> assumption|exact mb2 rfl rfl|exact mb4 rfl rfl rfl rfl))|refine cX ?_|refine cY ?_|(refine sA rfl rfl ?_)|refine sT rfl ?_|refine sF rfl ?_|(refine sR rfl ?_ ?_;focus omega)|(refine sB rfl rfl ?_)|(refine sN rfl rfl ?_ ?_;(focus(first|exact trivial|assumption|constructor <;> assumption|exact mb2 rfl rfl|exact mb4 rfl rfl rfl rfl));(try simp only[Wf,Wg,Wh]))|refine sW rfl rfl ?_|refine sK rfl rfl ?_|refine ZkP rfl ?_|refine ZeC rfl ?_|refine pkT rfl rfl rfl rfl ?_|refine pkF rfl rfl rfl rfl ?_);(repeat(first|refine sX rfl rfl ?_|(refine sS rfl rfl ?_ ?_;focus omega)|(refine sC rfl rfl ?_ ?_;focus(first|exact trivial|assumption|constructor <;> assumption|exact mb2 rfl rfl|exact mb4 rfl rfl rfl rfl))|refine cX ?_|refine cY ?_|(refine sA rfl rfl ?_)|refine sT rfl ?_|refine sF rfl ?_|(refine sR rfl ?_ ?_;focus omega)|(refine sB rfl rfl ?_)|(refine sN rfl rfl ?_ ?_;(focus(first|exact trivial|assumption|constructor <;> assumption|exact mb2 rfl rfl|exact mb4 rfl rfl rfl rfl));(try simp only[Wf,Wg,Wh]))|refine sW rfl rfl ?_|refine sK rfl rfl ?_|refine ZkP rfl ?_|refine ZeC rfl ?_|refine pkT rfl rfl rfl rfl ?_|refine pkF rfl rfl rfl rfl ?_));exact hq.out):P:=h ⟨k⟩
theorem wnM {P Q pre:Prop}(hp:pre)(k:Q)(h:Wr pre->Wr Q->P:=by intro hp hq;(first|(refine sC rfl rfl ?_ ?_;(focus exact hp.out))|(refine sN rfl rfl ?_ ?_;(focus exact hp.out);(try simp only[Wf,Wg,Wh])));exact hq.out):P:=h ⟨hp⟩ ⟨k⟩
end Go.Vt
namespace Go.Vt
open Go.RowKit Go.Proofs
open Go.Proofs.Tryz (prog)
section
instance : Inhabited Z7:=⟨ZfK⟩
instance Zok :EncC Z5 8:=⟨fun _=>CsC.size,fun _=>CsC.one⟩
instance : Inhabited Zb:=⟨Zat⟩
instance ZtJ :EncC Zd 8:=⟨fun _=>CsC.size,fun _=>CsC.one⟩
instance : Inhabited ZaI:=⟨Zcz⟩
instance Zu0 :EncC ZB 2:=⟨fun _=>CsC.size,fun _=>CsC.one⟩
abbrev Zi (x:Zc):Array Value:=ZL (ZJ x)
instance : Inhabited Zc:=⟨ZcU⟩
instance ZsC :EncC Zi 12:=⟨fun _=>CsC.size,fun _=>CsC.one⟩
abbrev Zaa (x:Zp):Array Value:=Zs (Zw x)
instance : Inhabited Zp:=⟨Zbh⟩
instance Zvb :EncC Zaa 9:=⟨fun _=>CsC.size,fun _=>CsC.one⟩
abbrev ZaD (x:Ze):Array Value:=Zz (Zx x)
instance : Inhabited Ze:=⟨Zbt⟩
instance Zrl :EncC ZaD 20:=⟨fun _=>CsC.size,fun _=>CsC.one⟩
abbrev Zb6 (x:Zau):Array Value:=Zaf (Zap x)
instance : Inhabited Zau:=⟨ZcC⟩
instance ZqS :EncC Zb6 36:=⟨fun _=>CsC.size,fun _=>CsC.one⟩
instance : Inhabited ZT:=⟨ZfJ⟩
instance Zn6 :EncC Zak 2:=⟨fun _=>CsC.size,fun _=>CsC.one⟩
instance : Inhabited Za:=⟨Zdh⟩
instance ZrE :EncC Zf 5:=⟨fun _=>CsC.size,fun _=>CsC.one⟩
instance : Inhabited Zai:=⟨ZfS⟩
instance Zn2 :EncC Zae 6:=⟨fun _=>CsC.size,fun _=>CsC.one⟩
abbrev Zbd (x:ZS):Array Value:=Z3 (Z8 x)
instance : Inhabited ZS:=⟨ZbF⟩
instance Zlr :EncC Zbd 12:=⟨fun _=>CsC.size,fun _=>CsC.one⟩
abbrev Za0 (x:ZN):Array Value:=ZD (ZE x)
instance : Inhabited ZN:=⟨Zbr⟩
instance ZkF :EncC Za0 36:=⟨fun _=>CsC.size,fun _=>CsC.one⟩
instance ZGU (x:ZaI)(a:Option Addr)(l c:Nat):StC prog 37 (ZB x) 0 (.slice a l c) (ZB {x with Reports:=⟨a,l,c⟩}):=⟨by kernel_rfl,by kernel_rfl,by kernel_rfl,by kernel_rfl⟩
instance ZHy (x:ZaI)(a:Option Addr)(l c:Nat):StC prog 38 (ZB x) 1 (.slice a l c) (ZB {x with Exchanges:=⟨a,l,c⟩}):=⟨by kernel_rfl,by kernel_rfl,by kernel_rfl,by kernel_rfl⟩
instance ZzM (x:ZN)(v:Zp):StC prog 97 (ZD (ZE x)) 9 (.agg (Zs (Zw v))) (ZD (ZE {x with In:={x.In with To:=v}})):=⟨by kernel_rfl,by kernel_rfl,by kernel_rfl,by kernel_rfl⟩
instance Zyd (x:ZN)(v:Bool):StC prog 4 (ZD (ZE x)) 18 (.bool v) (ZD (ZE {x with In:={x.In with OpenFrom:=v}})):=⟨by kernel_rfl,by kernel_rfl,by kernel_rfl,by kernel_rfl⟩
instance Zy6 (x:ZN)(v:Bool):StC prog 4 (ZD (ZE x)) 19 (.bool v) (ZD (ZE {x with In:={x.In with OpenTo:=v}})):=⟨by kernel_rfl,by kernel_rfl,by kernel_rfl,by kernel_rfl⟩
instance ZDi (x:ZN)(v:ZG):StC prog 113 (ZD (ZE x)) 20 (.agg (ZV (ZW v))) (ZD (ZE {x with F:=v})):=⟨by kernel_rfl,by kernel_rfl,by kernel_rfl,by kernel_rfl⟩
instance ZEt (x:Zbj)(a:Option Addr)(l c:Nat):StC prog 106 (ZP x) 1 (.slice a l c) (ZP {x with some:=⟨a,l,c⟩}):=⟨by kernel_rfl,by kernel_rfl,by kernel_rfl,by kernel_rfl⟩
theorem Zr9 (x0:ZaI)(w:World):(Instr.buildSlice 29 1 [(0, .agg (ZB x0))].toArray).run prog w= .ok (.slice (some ⟨w.heap.size,0,none⟩) 1 1) (w.alloc (.cells (row (ZB) [x0] []) 40)):=by kernel_rfl
instance (priority :=high) ZFO (x0:ZaI):BsC prog 29 1 [(0, .agg (ZB x0))] (row (ZB) [x0] []) 40:=⟨Zr9 x0⟩
theorem Zre (x0:Zb)(w:World):(Instr.buildSlice 37 1 [(0, .agg (Zd x0))].toArray).run prog w= .ok (.slice (some ⟨w.heap.size,0,none⟩) 1 1) (w.alloc (.cells (row (Zd) [x0] []) 35)):=by kernel_rfl
instance (priority :=high) ZGr (x0:Zb):BsC prog 37 1 [(0, .agg (Zd x0))] (row (Zd) [x0] []) 35:=⟨Zre x0⟩
theorem Zr7 (x0 x1 x2 x3:Zb)(w:World):(Instr.buildSlice 37 4 [(0, .agg (Zd x0)),(1, .agg (Zd x1)),(2, .agg (Zd x2)),(3, .agg (Zd x3))].toArray).run prog w= .ok (.slice (some ⟨w.heap.size,0,none⟩) 4 4) (w.alloc (.cells (row (Zd) [x0,x1,x2,x3] []) 35)):=by kernel_rfl
instance (priority :=high) ZFN (x0 x1 x2 x3:Zb):BsC prog 37 4 [(0, .agg (Zd x0)),(1, .agg (Zd x1)),(2, .agg (Zd x2)),(3, .agg (Zd x3))] (row (Zd) [x0,x1,x2,x3] []) 35:=⟨Zr7 x0 x1 x2 x3⟩
theorem Zrk (x0:Za)(w:World):(Instr.buildSlice 38 1 [(0, .agg (Zf x0))].toArray).run prog w= .ok (.slice (some ⟨w.heap.size,0,none⟩) 1 1) (w.alloc (.cells (row (Zf) [x0] []) 122)):=by kernel_rfl
instance (priority :=high) ZDP (x0:Za):BsC prog 38 1 [(0, .agg (Zf x0))] (row (Zf) [x0] []) 122:=⟨Zrk x0⟩
theorem Zsr (x0:Zc)(w:World):(Instr.buildSlice 48 1 [(0, .agg (ZL (ZJ x0)))].toArray).run prog w= .ok (.slice (some ⟨w.heap.size,0,none⟩) 1 1) (w.alloc (.cells (row (Zi) [x0] []) 56)):=by kernel_rfl
instance (priority :=high) ZCX (x0:Zc):BsC prog 48 1 [(0, .agg (ZL (ZJ x0)))] (row (Zi) [x0] []) 56:=⟨Zsr x0⟩
theorem Zr1 (x0 x1 x2:Zc)(w:World):(Instr.buildSlice 48 3 [(0, .agg (ZL (ZJ x0))),(1, .agg (ZL (ZJ x1))),(2, .agg (ZL (ZJ x2)))].toArray).run prog w= .ok (.slice (some ⟨w.heap.size,0,none⟩) 3 3) (w.alloc (.cells (row (Zi) [x0,x1,x2] []) 56)):=by kernel_rfl
instance (priority :=high) ZC4 (x0 x1 x2:Zc):BsC prog 48 3 [(0, .agg (ZL (ZJ x0))),(1, .agg (ZL (ZJ x1))),(2, .agg (ZL (ZJ x2)))] (row (Zi) [x0,x1,x2] []) 56:=⟨Zr1 x0 x1 x2⟩
theorem Zr0 (x0 x1 x2 x3:Zc)(w:World):(Instr.buildSlice 48 4 [(0, .agg (ZL (ZJ x0))),(1, .agg (ZL (ZJ x1))),(2, .agg (ZL (ZJ x2))),(3, .agg (ZL (ZJ x3)))].toArray).run prog w= .ok (.slice (some ⟨w.heap.size,0,none⟩) 4 4) (w.alloc (.cells (row (Zi) [x0,x1,x2,x3] []) 56)):=by kernel_rfl
instance (priority :=high) ZD4 (x0 x1 x2 x3:Zc):BsC prog 48 4 [(0, .agg (ZL (ZJ x0))),(1, .agg (ZL (ZJ x1))),(2, .agg (ZL (ZJ x2))),(3, .agg (ZL (ZJ x3)))] (row (Zi) [x0,x1,x2,x3] []) 56:=⟨Zr0 x0 x1 x2 x3⟩
theorem Zq4 (x0:Zau)(w:World):(Instr.buildSlice 58 1 [(0, .agg (Zaf (Zap x0)))].toArray).run prog w= .ok (.slice (some ⟨w.heap.size,0,none⟩) 1 1) (w.alloc (.cells (row (Zb6) [x0] []) 115)):=by kernel_rfl
instance (priority :=high) ZEr (x0:Zau):BsC prog 58 1 [(0, .agg (Zaf (Zap x0)))] (row (Zb6) [x0] []) 115:=⟨Zq4 x0⟩
theorem Zq6 (x0:Ze)(w:World):(Instr.buildSlice 84 1 [(0, .agg (Zz (Zx x0)))].toArray).run prog w= .ok (.slice (some ⟨w.heap.size,0,none⟩) 1 1) (w.alloc (.cells (row (ZaD) [x0] []) 111)):=by kernel_rfl
instance (priority :=high) ZGA (x0:Ze):BsC prog 84 1 [(0, .agg (Zz (Zx x0)))] (row (ZaD) [x0] []) 111:=⟨Zq6 x0⟩
theorem ZoI (x0:Int)(w:World):(Instr.buildSlice 106 1 [(0, .int .i64 x0)].toArray).run prog w= .ok (.slice (some ⟨w.heap.size,0,none⟩) 1 1) (w.alloc (.cells (row (eI .i64) [x0] []) 3)):=by kernel_rfl
instance (priority :=high) ZBa (x0:Int):BsC prog 106 1 [(0, .int .i64 x0)] (row (eI .i64) [x0] []) 3:=⟨ZoI x0⟩
theorem Zp7 (x0 x1:Int)(w:World):(Instr.buildSlice 106 2 [(0, .int .i64 x0),(1, .int .i64 x1)].toArray).run prog w= .ok (.slice (some ⟨w.heap.size,0,none⟩) 2 2) (w.alloc (.cells (row (eI .i64) [x0,x1] []) 3)):=by kernel_rfl
instance (priority :=high) ZAr (x0 x1:Int):BsC prog 106 2 [(0, .int .i64 x0),(1, .int .i64 x1)] (row (eI .i64) [x0,x1] []) 3:=⟨Zp7 x0 x1⟩
theorem Zpu (x0 x1 x2:Int)(w:World):(Instr.buildSlice 106 3 [(0, .int .i64 x0),(1, .int .i64 x1),(2, .int .i64 x2)].toArray).run prog w= .ok (.slice (some ⟨w.heap.size,0,none⟩) 3 3) (w.alloc (.cells (row (eI .i64) [x0,x1,x2] []) 3)):=by kernel_rfl
instance (priority :=high) ZBX (x0 x1 x2:Int):BsC prog 106 3 [(0, .int .i64 x0),(1, .int .i64 x1),(2, .int .i64 x2)] (row (eI .i64) [x0,x1,x2] []) 3:=⟨Zpu x0 x1 x2⟩
theorem ZoR (x0 x1 x2 x3:Int)(w:World):(Instr.buildSlice 106 4 [(0, .int .i64 x0),(1, .int .i64 x1),(2, .int .i64 x2),(3, .int .i64 x3)].toArray).run prog w= .ok (.slice (some ⟨w.heap.size,0,none⟩) 4 4) (w.alloc (.cells (row (eI .i64) [x0,x1,x2,x3] []) 3)):=by kernel_rfl
instance (priority :=high) ZCJ (x0 x1 x2 x3:Int):BsC prog 106 4 [(0, .int .i64 x0),(1, .int .i64 x1),(2, .int .i64 x2),(3, .int .i64 x3)] (row (eI .i64) [x0,x1,x2,x3] []) 3:=⟨ZoR x0 x1 x2 x3⟩
theorem Zp4 (x0 x1 x2 x3 x4:Int)(w:World):(Instr.buildSlice 106 5 [(0, .int .i64 x0),(1, .int .i64 x1),(2, .int .i64 x2),(3, .int .i64 x3),(4, .int .i64 x4)].toArray).run prog w= .ok (.slice (some ⟨w.heap.size,0,none⟩) 5 5) (w.alloc (.cells (row (eI .i64) [x0,x1,x2,x3,x4] []) 3)):=by kernel_rfl
instance (priority :=high) ZBh (x0 x1 x2 x3 x4:Int):BsC prog 106 5 [(0, .int .i64 x0),(1, .int .i64 x1),(2, .int .i64 x2),(3, .int .i64 x3),(4, .int .i64 x4)] (row (eI .i64) [x0,x1,x2,x3,x4] []) 3:=⟨Zp4 x0 x1 x2 x3 x4⟩
theorem Zqb (x0:ZS)(w:World):(Instr.buildSlice 141 1 [(0, .agg (Z3 (Z8 x0)))].toArray).run prog w= .ok (.slice (some ⟨w.heap.size,0,none⟩) 1 1) (w.alloc (.cells (row (Zbd) [x0] []) 143)):=by kernel_rfl
instance (priority :=high) ZAR (x0:ZS):BsC prog 141 1 [(0, .agg (Z3 (Z8 x0)))] (row (Zbd) [x0] []) 143:=⟨Zqb x0⟩
theorem Zqs (x0:Zp)(w:World):(Instr.buildSlice 151 1 [(0, .agg (Zs (Zw x0)))].toArray).run prog w= .ok (.slice (some ⟨w.heap.size,0,none⟩) 1 1) (w.alloc (.cells (row (Zaa) [x0] []) 97)):=by kernel_rfl
instance (priority :=high) ZCj (x0:Zp):BsC prog 151 1 [(0, .agg (Zs (Zw x0)))] (row (Zaa) [x0] []) 97:=⟨Zqs x0⟩
theorem ZpG (x0 x1:Zp)(w:World):(Instr.buildSlice 151 2 [(0, .agg (Zs (Zw x0))),(1, .agg (Zs (Zw x1)))].toArray).run prog w= .ok (.slice (some ⟨w.heap.size,0,none⟩) 2 2) (w.alloc (.cells (row (Zaa) [x0,x1] []) 97)):=by kernel_rfl
instance (priority :=high) ZBK (x0 x1:Zp):BsC prog 151 2 [(0, .agg (Zs (Zw x0))),(1, .agg (Zs (Zw x1)))] (row (Zaa) [x0,x1] []) 97:=⟨ZpG x0 x1⟩
theorem Zpb (x0:ZN)(w:World):(Instr.buildSlice 157 1 [(0, .agg (ZD (ZE x0)))].toArray).run prog w= .ok (.slice (some ⟨w.heap.size,0,none⟩) 1 1) (w.alloc (.cells (row (Za0) [x0] []) 224)):=by kernel_rfl
instance (priority :=high) ZBv (x0:ZN):BsC prog 157 1 [(0, .agg (ZD (ZE x0)))] (row (Za0) [x0] []) 224:=⟨Zpb x0⟩
end
section
abbrev vLn (f:ZG):Value:= .agg (ZV (ZW f))
def stl (a b:ZS):ZG:=⟨(lin a.T a.P.X b.T b.P.X).C0,(lin a.T a.P.X b.T b.P.X).C1,(lin a.T a.P.Y b.T b.P.Y).C0,(lin a.T a.P.Y b.T b.P.Y).C1⟩
def pos (f:ZG)(t:Rat):Zal:=⟨f.X0+t*(f.X1+t*0),f.Y0+t*(f.Y1+t*0)⟩
instance ZIu (t v u x:Rat)(i j k l:Nat)[h1:MB t i][h2:MB v j][h3:MB u k][h4:MB x l]:MB (lin t v u x).C0 (2*i+2*j+k+l+4):=⟨by
 unfold lin
 split
 ·exact Wi (Zgu.out) (by omega)
 ·have:=(inferInstance:MB (v-(x-v) / (u-t)*t) _).out
  simp only
  omega⟩
instance ZH0 (t v u x:Rat)(i j k l:Nat)[h1:MB t i][h2:MB v j][h3:MB u k][h4:MB x l]:MB (lin t v u x).C1 (i+j+k+l+3):=⟨by
 unfold lin
 split
 ·exact Wi (Zgu.out) (by omega)
 ·have:=(inferInstance:MB ((x-v) / (u-t)) _).out
  simp only
  omega⟩
instance ZDl (a b:ZS)(i j k l:Nat)[MB a.T i][MB a.P.X j][MB b.T k][MB b.P.X l]:MB (stl a b).X0 (2*i+2*j+k+l+4):=inferInstanceAs (MB (lin a.T a.P.X b.T b.P.X).C0 _)
instance ZFP (a b:ZS)(i j k l:Nat)[MB a.T i][MB a.P.X j][MB b.T k][MB b.P.X l]:MB (stl a b).X1 (i+j+k+l+3):=inferInstanceAs (MB (lin a.T a.P.X b.T b.P.X).C1 _)
instance ZEE (a b:ZS)(i j k l:Nat)[MB a.T i][MB a.P.Y j][MB b.T k][MB b.P.Y l]:MB (stl a b).Y0 (2*i+2*j+k+l+4):=inferInstanceAs (MB (lin a.T a.P.Y b.T b.P.Y).C0 _)
instance ZFn (a b:ZS)(i j k l:Nat)[MB a.T i][MB a.P.Y j][MB b.T k][MB b.P.Y l]:MB (stl a b).Y1 (i+j+k+l+3):=inferInstanceAs (MB (lin a.T a.P.Y b.T b.P.Y).C1 _)
abbrev PB :Nat:=1048576
def Bnd (pts:List ZS):Prop:=∀i:Int,M (gi pts i).T<=PB/\M (gi pts i).P.X<=PB/\M (gi pts i).P.Y<=PB
end
section
abbrev rS :=Zbd
variable {ok : Nat -> Nat -> Bool} {l i k : Nat} {s : List Int × List Int}
end
end Go.Vt
namespace Go.Vt
open Go.RowKit
class RowC (w0:World)(L:List Blk)(b o:Nat)(α:outParam Type)(enc:outParam (α->Array Value))(xs:outParam (List α)):Prop where
 out:∀w,Own w0 L w->∃cs T fz,w.heap[b]? =some (.cells cs T fz)/\∀(i f k:Nat)(u:Value)(hi:i<xs.length),(∀x,(enc x).size=k)->(enc xs[i])[f]? =some u->cs[o+i*k+f]? =some u/\o+xs.length*k<=cs.size
structure ArgS {α:Type}(w0:World)(v:Value)(enc:α->Array Value)(xs:List α):Prop where
 out:(v= .slice none 0 0/\xs=[])\/∃(a:Addr)(c:Nat),v= .slice (some a) xs.length c/\xs.length<=c/\∀(i f k:Nat)(u:Value)(hi:i<xs.length),(∀x,(enc x).size=k)->(enc xs[i])[f]? =some u->w0.cell? (a.add (i*k+f))=some u
class ArgC (w0:World)(v:Value)(α:outParam Type)(enc:outParam (α->Array Value))(xs:outParam (List α)):Prop where
 out:ArgS w0 v enc xs
theorem Zi0 {w:World}{a:Addr}{v:Value}(h:w.cell? a=some v):a=⟨a.block,a.off,none⟩/\∃cs T fz,w.heap[a.block]? =some (.cells cs T fz)/\cs[a.off]? =some v:=by
 unfold World.cell? at h
 split at h
 ·rename_i c T fz hb
  split at h
  ·cases h
  ·rename_i hs
   obtain⟨b,o,s⟩:=a
   cases s with
   |none=>exact⟨rfl,c,T,fz,hb,h⟩
   |some s=>exact absurd rfl hs
 ·cases h
theorem ArgS.blk {α:Type}{w0:World}{v:Value}{enc:α->Array Value}{xs:List α}{k:Nat}[he:EncC enc (k+1)](h:ArgS w0 v enc xs)(hne:xs≠[])(L:List Blk):∃b o c,v= .slice (some ⟨b,o,none⟩) xs.length c/\xs.length<=c/\RowC w0 L b o α enc xs:=by
 rcases h.out with⟨_,h0⟩|⟨a,c,hv,hc,hcell⟩
 ·exact absurd h0 hne
 have hlen:0<xs.length:=List.length_pos_iff.2 hne
 have hfirst:∃u,(enc xs[0])[0]? =some u:=by
  have:=he.size xs[0]
  exact⟨(enc xs[0])[0]'(by omega),by simp⟩
 obtain⟨u,hu⟩:=hfirst
 have h0:=hcell 0 0 (k+1) u hlen he.size hu
 rw[Nat.zero_mul,Nat.add_zero] at h0
 have ha:a.add 0=a:=by simp[Addr.add]
 rw[ha] at h0
 obtain⟨hae,cs,T,fz,hb,_⟩:=Zi0 h0
 obtain⟨b,o,s⟩:=a
 simp only[Addr.mk.injEq,true_and] at hae
 subst hae
 refine⟨b,o,c,hv,hc,⟨fun w hw=>⟨cs,T,fz,by rw[hw.ext.block b (Zq hb)];exact hb,fun i f k' u hi hk hu=>?_⟩⟩⟩
 have h1:=hcell i f k' u hi hk hu
 rw[ZaG,Zaw hb] at h1
 refine⟨by rw[Nat.add_assoc];exact h1, ?_⟩
 have hkk:k'=k+1:=by rw[<-hk xs[0],he.size xs[0]]
 subst hkk
 have hl:xs.length-1<xs.length:=by omega
 obtain⟨u2,hu2⟩:∃u,(enc xs[xs.length-1])[k]? =some u:=⟨(enc xs[xs.length-1])[k]'(by rw[he.size];omega),by simp⟩
 have h2:=hcell (xs.length-1) k (k+1) u2 hl he.size hu2
 rw[ZaG,Zaw hb] at h2
 have h3:o+((xs.length-1)*(k+1)+k)<cs.size:=by
  rcases Nat.lt_or_ge (o+((xs.length-1)*(k+1)+k)) cs.size with h|h
  ·exact h
  ·rw[Array.getElem?_eq_none h] at h2;cases h2
 have h4:xs.length*(k+1)=(xs.length-1)*(k+1)+(k+1):=by
  rw[<-Nat.succ_mul]
  congr 1
  omega
 omega
theorem ArgS.opn {α:Type}{w0:World}{p:Option Addr}{n c:Nat}{enc:α->Array Value}{xs:List α}{k:Nat}[he:EncC enc (k+1)](h:ArgS w0 (.slice p n c) enc xs){i:Nat}(hi:i<xs.length):∃b o,p=some ⟨b,o,none⟩/\∀L,RowC w0 L b o α enc xs:=by
 obtain⟨b,o,c',h1, -,h2⟩:=h.blk (k:=k) (fun h0=>by rw[h0] at hi;cases hi) []
 injection h1 with e1
 exact⟨b,o,e1,fun L=>⟨fun w' hw'=>h2.out w' (hw'.sub (Wk _))⟩⟩
section
variable {P : Program} {w0 : World} {n : Nat} {ops : Array Oper} {L : List Blk} {E : Env} {v : Value} {x : Operand} {T : TypeId}
variable {α : Type} [Inhabited α] {enc : α -> Array Value} {k b o f : Nat} {xs : List α} {i : Int}
theorem ZmA [he:EncC enc k][h:RowC w0 L b o α enc xs]{d:Option Tmp}{ty:TypeId}{pos:String}{aft:Array Edge}{gd:Option (Nat×Bool)}(hk:0<k)(hx:Env.ev E x=some (.pointer (some ⟨b,o+i.toNat*k+f,none⟩)))(hi:i.toNat<xs.length)(hv:LdV P T (enc (gi xs i)) f v):Yl P w0 n L E ⟨d, .load T x,ty,pos,aft,gd⟩ v:=
 ZaC (fun _=>loadVar T ⟨b,o+i.toNat*k+f,none⟩) (fun a ha=>by
  simp only[execOp,ha.ev hx,Instr.loadAt,Instr.sureAddr]
  rfl) (fun a w _ hw=>by
   obtain⟨cs,T0,fz,hb,hc⟩:=h.out w hw
   rw[Zc1 hi] at hv
   refine ZbX hb ?_
   have hsz:=he.size xs[i.toNat]
   have hle:=Nat.mul_le_mul_right k (show i.toNat+1<=xs.length from hi)
   rw[Nat.add_mul,Nat.one_mul] at hle
   rcases hv with⟨m,ha,hs,rfl⟩|⟨ho,hv⟩
   ·have hbig:=(hc i.toNat 0 k _ hi he.size (show(enc xs[i.toNat])[0]? =some ((enc xs[i.toNat])[0]'(by omega)) by simp)).2
    refine .inl ⟨m,ha,by omega, ?_⟩
    congr 1
    apply Array.ext_getElem?
    intro j
    rw[Array.getElem?_extract,Array.getElem?_extract]
    by_cases hj:j<m
    ·rw[if_pos (by omega),if_pos (by omega)]
     have hfj:f+j<(enc xs[i.toNat]).size:=by omega
     have:=(hc i.toNat (f+j) k _ hi he.size (show(enc xs[i.toNat])[f+j]? =some ((enc xs[i.toNat])[f+j]'hfj) by simp)).1
     rw[show o+i.toNat*k+f+j=o+i.toNat*k+(f+j) by omega,this]
     simp
    ·rw[if_neg (by omega),if_neg (by omega)]
   ·exact .inr ⟨ho,(hc i.toNat f k v hi he.size hv).1⟩)
instance (priority :=low) ZGc [IsC (evl E x) (.pointer (some ⟨b,o+i.toNat*k,none⟩))][h:RowC w0 L b o α enc xs][he:EncC enc k][hv:LdC P T (enc (gi xs i)) 0 v]:YsC P w0 n L E (.load T x) v (0<k/\i.toNat<xs.length):=⟨fun hi _ _ _ _ _=>ZmA (f:=0) (k:=k) hi.1 (by rw[Nat.add_zero];exact isE) hi.2 hv.out⟩
instance (priority :=low) ZF1 [IsC (evl E x) (.pointer (some ⟨b,o+i.toNat*k+f,none⟩))][h:RowC w0 L b o α enc xs][he:EncC enc k][hv:LdC P T (enc (gi xs i)) f v]:YsC P w0 n L E (.load T x) v (0<k/\i.toNat<xs.length):=⟨fun hi _ _ _ _ _=>ZmA hi.1 isE hi.2 hv.out⟩
instance (priority :=low) ZHz {kd:IntKind}{T':TypeId}{y:Operand}{a c:Int}[hx:IsC (evl E x) (.int kd a)][hy:IsC (evl E y) (.int kd c)]:YsC P w0 n L E (.binOp .rem T x y T') (.int kd (a % c)) (0<=a/\1<=c):=⟨fun h _ _ _ _ _=>Zbl isE isE fun w=>by rw[Zh4 _ _ (by omega),IntWalk.rem_in _ _ h.1]⟩
end
end Go.Vt
namespace Go.Vt
open Go.RowKit Go.Proofs
open Go.Proofs.Tryz (prog)
theorem Upd.app {b:Nat}{cs cs':Array Value}{T:TypeId}{L L':List Blk}(h:Upd b cs T cs' L L'):∀A:List Blk,Upd b cs T cs' (A++L) (A++L')
 |[]=>h
 |_::A=>(h.app A).there
instance (priority :=low) updSkip (b:Nat)(cs':Array Value)(A L L':List Blk)(cs:Array Value)(T:TypeId)[h:UpdC b cs' L cs T L']:UpdC b cs' (A++L) cs T (A++L'):=⟨h.out.app A⟩
theorem ArgS.form {α:Type}{w0:World}{v:Value}{enc:α->Array Value}{xs:List α}(h:ArgS w0 v enc xs):∃p c,v= .slice p xs.length c:=by
 rcases h.out with⟨h1,h2⟩|⟨a,c,h1,_⟩
 ·subst h2
  exact⟨none,0,h1⟩
 ·exact⟨some a,c,h1⟩
theorem ArgS.to {α:Type}{w0 w:World}{v:Value}{enc:α->Array Value}{xs:List α}(h:ArgS w0 v enc xs)(hx:Ext w0 w):ArgS w v enc xs:=by
 rcases h.out with h1|⟨a,c,h1,h2,h3⟩
 ·exact⟨.inl h1⟩
 ·refine⟨.inr ⟨a,c,h1,h2,fun i f k u hi hk hu=>?_⟩⟩
  have h4:=h3 i f k u hi hk hu
  obtain⟨hae,cs,T,fz,hb,hc⟩:=Zi0 h4
  rw[hae]
  have hb':w.heap[(a.add (i*k+f)).block]? =some (.cells cs T fz):=by rw[hx.block _ (Zq hb)];exact hb
  rw[Zaw hb']
  exact hc
end Go.Vt
