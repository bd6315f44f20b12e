/- For any up to 12 units whose ends have up to 20 bytes, and for any decoded moving label (up to 8 stretches), Check returns OK or the first error. Conditions: none. (part 4 of 28.) Conditions: those that each statement names. -/
import Derived.Test.YtcgkgdgpdpihmaaGreatDoorProg
import Derived.Laws.AppendOwn
import Derived.Test.YtcgkgdgpdpihmaaGreatDoorKC1
import Derived.Test.YtcgkgdgpdpihmaaGreatDoorKC3
set_option linter.unusedSimpArgs false
set_option linter.unusedVariables false
set_option maxHeartbeats 2000000
set_option linter.unusedSectionVars false
set_option maxRecDepth 100000
namespace Go.Vt
open Go.RowKit
section
variable {α : Type}
def rowL (enc:α->Array Value)(xs:List α):List Value:=xs.flatMap fun x=>(enc x).toList
def row (enc:α->Array Value)(xs:List α)(sp:List Value):Array Value:=(rowL enc xs++sp).toArray
class EncC (enc:α->Array Value)(k:outParam Nat):Prop where
 size:∀x,(enc x).size=k
 one:∀x,(enc x).all (·.oneCell')=true
def eI (k:IntKind)(z:Int):Array Value:=#[.int k z]
instance encI (k:IntKind):EncC (eI k) 1:=⟨fun _=>rfl,fun _=>by simp[eI,Value.oneCell']⟩
def gi [Inhabited α](xs:List α)(i:Int):α:=xs.getD i.toNat default
theorem Zbk [Inhabited α]{xs:List α}{i:Int}(h:i.toNat<xs.length):gi xs i=xs[i.toNat]:=by
 unfold gi
 rw[List.getD_eq_getElem?_getD,List.getElem?_eq_getElem h]
 rfl
theorem Zw [Inhabited α]{xs:List α}{i:Nat}(h:i<xs.length):gi xs (i:Int)=xs[i]:=Zbk (i:=(i:Int)) h
variable {enc : α -> Array Value} {k : Nat}
theorem ZnV :rowL enc []=[]:=rfl
theorem Zda (xs ys:List α):rowL enc (xs++ys)=rowL enc xs++rowL enc ys:=by simp[rowL]
theorem ZX [h:EncC enc k](xs:List α):(rowL enc xs).length=xs.length*k:=by
 induction xs with
 |nil=>simp[rowL]
 |cons x xs ih=>
  have h1:=h.size x
  simp only[rowL,List.flatMap_cons,Wp,Array.length_toList,Wu,h1,Nat.add_mul] at ih⊢
  omega
theorem Ze7 [h:EncC enc k](xs:List α)(i j:Nat)(hi:i<xs.length)(hj:j<k):(rowL enc xs)[i*k+j]? =(enc xs[i])[j]? :=by
 induction xs generalizing i with
 |nil=>simp at hi
 |cons x xs ih=>
  have h1:=h.size x
  simp only[rowL,List.flatMap_cons] at ih⊢
  cases i with
  |zero=>
   rw[Nat.zero_mul,Nat.zero_add,List.getElem?_append_left (by simp;omega)]
   simp
  |succ i=>
   rw[List.getElem?_append_right (by simp[Nat.add_mul];omega)]
   have e:(i+1)*k+j-(enc x).toList.length=i*k+j:=by simp[Nat.add_mul,h1];omega
   rw[e,ih i (by simpa using hi)]
   simp
theorem Za3 [h:EncC enc k](xs:List α)(sp:List Value)(i j:Nat)(hi:i<xs.length)(hj:j<k):(row enc xs sp)[i*k+j]? =(enc xs[i])[j]? :=by
 have hl:=ZX (enc:=enc) xs
 have hlt:i*k+j<xs.length*k:=by
  have:=Nat.mul_le_mul_right k (show i+1<=xs.length from hi)
  rw[Nat.add_mul] at this
  omega
 rw[row,List.getElem?_toArray,List.getElem?_append_left (by omega)]
 exact Ze7 xs i j hi hj
theorem ZaA [h:EncC enc k](xs:List α)(sp:List Value):(row enc xs sp).size=xs.length*k+sp.length:=by
 simp[row,ZX]
theorem ZjO {P:Program}{T:TypeId}{f:Nat}{v:Value}[h:EncC enc k]{xs:List α}{sp:List Value}{i:Nat}(hi:i<xs.length)(hv:LdV P T (enc xs[i]) f v):LdV P T (row enc xs sp) (i*k+f) v:=by
 have hk:=h.size xs[i]
 have hle:=Nat.mul_le_mul_right k (show i+1<=xs.length from hi)
 rw[Nat.add_mul] at hle
 rcases hv with⟨n,ha,hs,rfl⟩|⟨ho,hv⟩
 ·refine .inl ⟨n,ha,by rw[ZaA (k:=k)];omega, ?_⟩
  congr 1
  apply Array.ext_getElem?
  intro j
  rw[Array.getElem?_extract,Array.getElem?_extract]
  by_cases hj:j<n
  ·rw[if_pos (by omega),if_pos (by rw[ZaA (k:=k)];omega),Nat.add_assoc,Za3 xs sp i (f+j) hi (by omega)]
  ·rw[if_neg (by omega),if_neg (by rw[ZaA (k:=k)];omega)]
 ·have hf:f<k:=by
   rcases Nat.lt_or_ge f k with h1|h1
   ·exact h1
   ·rw[Array.getElem?_eq_none (by omega)] at hv
    cases hv
  exact .inr ⟨ho,by rw[Za3 xs sp i f hi hf];exact hv⟩
theorem ZjK [h:EncC enc k](xs:List α)(sp:List Value)(i:Nat)(z:α)(hi:i<xs.length):spl (row enc xs sp) (i*k) (enc z).toList=row enc (xs.set i z) sp:=by
 have hle:=Nat.mul_le_mul_right k (show i+1<=xs.length from hi)
 rw[Nat.add_mul] at hle
 have hz:=h.size z
 apply Array.ext_getElem?
 intro j
 rw[Zb5 _ _ _ _ (by rw[ZaA (k:=k)];simp;omega)]
 simp only[Array.length_toList,hz]
 by_cases h1:i*k<=j/\j<i*k+k
 ·rw[if_pos h1]
  obtain⟨m,rfl⟩:∃m,j=i*k+m:=⟨j-i*k,by omega⟩
  rw[Za3 _ sp i m (by simpa using hi) (by omega),Nat.add_sub_cancel_left]
  simp
 ·rw[if_neg h1]
  rcases Nat.lt_or_ge j (xs.length*k) with h2|h2
  ·rcases Nat.eq_zero_or_pos k with h0|h0
   ·subst h0;simp at h2
   ·obtain⟨q,m,rfl,hm⟩:∃q m,j=q*k+m/\m<k:=⟨j / k,j % k,by rw[Nat.mul_comm];exact(Nat.div_add_mod j k).symm,Nat.mod_lt _ h0⟩
    have hq:q<xs.length:=by
     rcases Nat.lt_or_ge q xs.length with h3|h3
     ·exact h3
     ·have:=Nat.mul_le_mul_right k h3
      omega
    have hqi:i≠q:=by
     rintro rfl
     exact h1 ⟨by omega,by omega⟩
    rw[Za3 xs sp q m hq hm,Za3 _ sp q m (by simpa using hq) hm]
    simp[List.getElem_set_ne hqi]
  ·rw[row,row,List.getElem?_toArray,List.getElem?_toArray,List.getElem?_append_right (by rw[ZX (k:=k)];exact h2),List.getElem?_append_right (by rw[ZX (k:=k)];simpa using h2)]
   simp[ZX (k:=k)]
theorem Zgc [h:EncC enc k](xs:List α):∀u∈rowL enc xs,u.oneCell'=true:=fun u hu=>by
 obtain⟨x,_,hx⟩:=List.mem_flatMap.1 hu
 exact Array.all_eq_true_iff_forall_mem.1 (h.one x) u (Array.mem_toList_iff.1 hx)
end
class FoC (w0:World)(b:Nat)(cs:outParam (Array Value))(T:outParam TypeId):Prop where
 out:∃fz,w0.heap[b]? =some (.cells cs T fz)
class AtC (w0:World)(L:List Blk)(b:Nat)(cs:outParam (Array Value))(T:outParam TypeId):Prop where
 out:∀w,Own w0 L w->∃fz,w.heap[b]? =some (.cells cs T fz)
instance (priority :=high) atMem (w0:World)(L:List Blk)(b:Nat)(cs:Array Value)(T:TypeId)[h:MemC b L cs T]:AtC w0 L b cs T:=⟨fun _ hw=>⟨(0,0),(hw.mem _ h.out).2⟩⟩
instance (priority :=low) atFo (w0:World)(L:List Blk)(b:Nat)(cs:Array Value)(T:TypeId)[h:FoC w0 b cs T]:AtC w0 L b cs T:=⟨fun w hw=>by
 obtain⟨fz,hf⟩:=h.out
 exact⟨fz,by rw[hw.ext.block b (Zae hf)];exact hf⟩⟩
instance (priority :=low) sblA (X A B:List Blk)[h:SblC A B]:SblC A (X++B):=⟨h.out.trans (List.sublist_append_right _ _)⟩
instance (priority :=low) memSkip (b:Nat)(A L:List Blk)(cs:Array Value)(T:TypeId)[h:MemC b L cs T]:MemC b (A++L) cs T:=⟨List.mem_append_right _ h.out⟩
section
variable {P : Program} {w0 : World} {n : Nat} {ops : Array Oper} {L L' : List Blk} {E : Env}
variable {Q : Exit -> Act -> World -> Prop} {rest : List Oper} {v : Value}
variable {d : Option Tmp} {ty : TypeId} {pos : String} {aft : Array Edge} {gd : Option (Nat × Bool)} {t : Tmp}
variable {x y : Operand} {T : TypeId}
theorem ZeO {T0:TypeId}{b off:Nat}{cs:Array Value}(hx:Env.ev E x=some (.pointer (some ⟨b,off,none⟩)))(h:∀w,Own w0 L w->∃fz,w.heap[b]? =some (.cells cs T0 fz))(hv:LdV P T cs off v):Yl P w0 n L E ⟨d, .load T x,ty,pos,aft,gd⟩ v:=
 Z4 (fun _=>loadVar T ⟨b,off,none⟩) (fun a ha=>by
  simp only[execOp,ha.ev hx,Instr.loadAt,Instr.sureAddr]
  rfl) (fun a w _ hw=>by
   obtain⟨fz,hf⟩:=h w hw
   exact Zbi hf hv)
instance (priority :=low) ZxL {T0:TypeId}{b off:Nat}{cs:Array Value}[IsC (evl E x) (.pointer (some ⟨b,off,none⟩))][h:FoC w0 b cs T0][hv:LdC P T cs off v]:YlC P w0 n L E (.load T x) v:=⟨fun _ _ _ _ _=>ZeO isE (atFo w0 L b cs T0).out hv.out⟩
section
variable {α : Type} [Inhabited α] {enc : α -> Array Value} {k b f : Nat} {xs : List α} {sp : List Value} {T0 : TypeId} {i lo : Int}
instance ldEI {k:IntKind}{z:Int}[h:UndC P T (.int k)]:LdC P T (eI k z) 0 (.int k z):=⟨ZD (by simp[oneB,h.out]) rfl⟩
instance Zkf [IsC (evl E x) (.pointer (some ⟨b,0+i.toNat*k,none⟩))][h:AtC w0 L b (row enc xs sp) T0][EncC enc k][hv:LdC P T (enc (gi xs i)) 0 v]:YsC P w0 n L E (.load T x) v (i.toNat<xs.length):=⟨fun hi _ _ _ _ _=>ZeO isE h.out (by
 have h1:=ZjO (P:=P) (T:=T) (v:=v) (enc:=enc) (k:=k) (sp:=sp) (f:=0) hi (by rw[<-Zbk hi];exact hv.out)
 rwa [Nat.add_zero,<-Nat.zero_add (i.toNat*k)] at h1)⟩
instance ZAB [IsC (evl E x) (.pointer (some ⟨b,0+i.toNat*k+f,none⟩))][h:AtC w0 L b (row enc xs sp) T0][EncC enc k][hv:LdC P T (enc (gi xs i)) f v]:YsC P w0 n L E (.load T x) v (i.toNat<xs.length):=⟨fun hi _ _ _ _ _=>ZeO isE h.out (by
 have h1:=ZjO (P:=P) (T:=T) (v:=v) (enc:=enc) (k:=k) (sp:=sp) (f:=f) hi (by rw[<-Zbk hi];exact hv.out)
 rwa [<-Nat.zero_add (i.toNat*k)] at h1)⟩
class ValC {α:Type}(enc:α->Array Value)(u:Value)(z:outParam α):Prop where
 out:u.cells=enc z
instance valI {k:IntKind}{z:Int}:ValC (eI k) (.int k z) z:=⟨rfl⟩
instance valA (enc:α->Array Value)(z:α):ValC enc (.agg (enc z)) z:=⟨rfl⟩
theorem sR {u:Value}{z:α}[hx:IsC (evl E x) (.pointer (some ⟨b,0+i.toNat*k,none⟩))][hy:IsC (evl E y) u][hk:SizeC P T k][MemC b L (row enc xs sp) T0][he:EncC enc k][hu:ValC enc u z][hU:UpdC b (row enc (xs.set i.toNat z) sp) L (row enc xs sp) T0 L']
  (hg:guardB ops E gd=some true) (s:i.toNat<xs.length) (h:JO P w0 n ops Q rest E L'):JO P w0 n ops Q (⟨none, .store T x y,ty,pos,aft,gd⟩::rest) E L:=by
 have h1:=he.size z
 have hle:=Nat.mul_le_mul_right k (show i.toNat+1<=xs.length from s)
 rw[Nat.add_mul] at hle
 exact ZbY (u:=u) k isE isE hU.out hk.out (by rw[hu.out,h1]) (by rw[ZaA (k:=k)];exact Nat.ble_eq_true_of_le (by omega)) (by rw[hu.out];exact he.one z) (by rw[hu.out,Nat.zero_add];exact ZjK xs sp _ z s) hg rfl h
end
class StC (P:Program)(T:TypeId)(cs:Array Value)(off:Nat)(u:Value)(cs':outParam (Array Value)):Prop where
 size:(P.info? T).map (·.size)=some u.cells.size
 fit:Nat.ble (off+u.cells.size) cs.size=true
 one:u.cells.all (·.oneCell')=true
 out:spl cs off u.cells.toList=cs'
theorem sF {T0:TypeId}{b off:Nat}{cs cs':Array Value}{u:Value}[hx:IsC (evl E x) (.pointer (some ⟨b,off,none⟩))][hy:IsC (evl E y) u][MemC b L cs T0][hs:StC P T cs off u cs'][hU:UpdC b cs' L cs T0 L'](hg:guardB ops E gd=some true)
  (h:JO P w0 n ops Q rest E L'):JO P w0 n ops Q (⟨none, .store T x y,ty,pos,aft,gd⟩::rest) E L:=ZbY (u:=u) u.cells.size isE isE hU.out hs.size rfl hs.fit hs.one hs.out hg rfl h
class SpecM (P:Program)(w0:World)(L:List Blk)(f:FuncId)(args:List Value)(v:outParam Value)(pre:outParam Prop):Prop where
 out:pre->∀w,Own w0 L w->Calls P f args.toArray w (Ret v w)
instance (priority :=low) ZAI {f:FuncId}{args:List Value}{pre:Prop}[h:SpecC P f args v pre]:SpecM P w0 L f args v pre:=⟨fun hp w _=>h.out hp w⟩
instance (priority :=low) ZxG {f:FuncId}{xs:List Operand}{l:List Value}{ats:Array TypeId}{pre:Prop}[hf:CallC P f][IsC (evsl E xs) l][h:SpecM P w0 L f l v pre]:YcC P w0 n L E (.call ⟨.value (.func f),xs.toArray,ats⟩) v pre:=⟨fun hp _ _ _ _ _=>ZfP hf.out isS (h.out hp)⟩
theorem ZiT {f:Fn}{xs:List Operand}{l:List Value}(hl:Env.evs E xs=some l):Yl P w0 n L E ⟨d, .makeFunc f #[] xs.toArray,ty,pos,aft,gd⟩ (.func f #[] l.toArray):=
 Z4 (fun _=>Instr.makeFunc f #[] l.toArray) (fun a ha=>by
  have h1:xs.toArray.map a.eval=l.toArray:=by rw[<-ha.evs xs l hl];simp
  simp only[execOp,h1,Array.map_empty]) (fun a w _ _=>by simp[Instr.makeFunc])
instance Ztk {f:Fn}{xs:List Operand}{l:List Value}[IsC (evsl E xs) l]:YlC P w0 n L E (.makeFunc f #[] xs.toArray) (.func f #[] l.toArray):=⟨fun _ _ _ _ _=>ZiT isS⟩
class AppC (a b:List Value)(c:outParam (List Value)):Prop where out:a++b=c
instance appN (b:List Value):AppC [] b b:=⟨rfl⟩
instance appS (x:Value)(a b c:List Value)[h:AppC a b c]:AppC (x::a) b (x::c):=⟨by rw[<-h.out];rfl⟩
theorem ZfD {f:FuncId}{g:Operand}{xs:List Operand}{l cap c:List Value}{ats:Array TypeId}{a:Act}{w:World}(hf:callableB P f=true)(ha:Rep n E a)(hg:Env.ev E g=some (.func (.func f) #[] cap.toArray))(hl:Env.evs E xs=some l)(hc:l++cap=c):
  (execOp a.eval ⟨d, .call ⟨.value g,xs.toArray,ats⟩,ty,pos,aft,gd⟩).run P w= .ok (.enter f c.toArray) w:=by
 have h1:xs.toArray.map a.eval=l.toArray:=by rw[<-ha.evs xs l hl];simp
 simp only[execOp,resolve,h1,ha.ev hg,Deferred.ofValue,Sem.run_bind,Sem.run_pure,Result.andThen,invoke]
 rw[show(#[]++l.toArray:Array Value)=l.toArray from Array.empty_append]
 have h2:l.toArray++cap.toArray=c.toArray:=by rw[<-hc];simp
 rw[h2]
 exact ZcI hf _ _
instance Zwk {f:FuncId}{u:Tmp}{xs:List Operand}{l cap c:List Value}{ats:Array TypeId}{pre:Prop}[hu:IsC (evl E (.tmp u)) (.func (.func f) #[] cap.toArray)][hf:CallC P f][IsC (evsl E xs) l][hc:AppC l cap c][h:SpecM P w0 L f c v pre]:YcC P w0 n L E (.call ⟨.value (.tmp u),xs.toArray,ats⟩) v pre:=⟨fun hp _ _ _ _ _=>⟨fun a w ha hw=>by
 unfold calm
 rw[ZfD hf.out ha isE isS hc.out]
 exact⟨rfl,h.out hp w hw⟩⟩⟩
def RetM (S:Type)(val:S->Value)(mem:S->List Blk)(w:World)(e:Ending)(w':World):Prop:=∃s,e= .returned (val s)/\Own w (mem s) w'
theorem Own.join {w w':World}{G:List Blk}(h:Own w0 L w)(k:Own w G w'):Own w0 (G++L) w':=by
 have h':=h.to k.ext
 refine⟨h'.ext,fun e he=>?_, ?_⟩
 ·rcases List.mem_append.1 he with he|he
  ·exact⟨Wi h.ext.size (k.mem e he).1,(k.mem e he).2⟩
  ·exact h'.mem e he
 ·rw[List.map_append]
  refine List.nodup_append.2 ⟨k.nd,h.nd,fun a ha b hb hab=>?_⟩
  obtain⟨e1,h1,rfl⟩:=List.mem_map.1 ha
  obtain⟨e2,h2,rfl⟩:=List.mem_map.1 hb
  have h3:=(k.mem e1 h1).1
  have h4:=h.lt h2
  omega
class SpecR (P:Program)(w0:World)(L:List Blk)(f:FuncId)(args:List Value)(S:outParam Type)(val:outParam (S->Value))(mem:outParam (S->List Blk))(pre:outParam Prop):Prop where
 out:pre->∀w,Own w0 L w->Calls P f args.toArray w (RetM S val mem w)
theorem Zot {S:Type}{val:S->Value}{mem:S->List Blk}{f:FuncId}{xs:List Operand}{l:List Value}{ats:Array TypeId}(hl:Env.evs E xs=some l)(hf:callableB P f=true)(hc:∀w,Own w0 L w->Calls P f l.toArray w (RetM S val mem w))
  (hg:guardB ops E gd=some true) (hd:Nat.blt t n=true) (h:∀s,JO P w0 n ops Q rest ((t,val s)::E) (mem s++L)):JO P w0 n ops Q (⟨some t, .call ⟨.value (.func f),xs.toArray,ats⟩,ty,pos,aft,gd⟩::rest) E L:=
 Zht (S:=S) (o:=⟨some t, .call ⟨.value (.func f),xs.toArray,ats⟩,ty,pos,aft,gd⟩) hg hd val (fun s=>mem s++L) (fun _ _ ha=>ZbX hf ha hl)
  (fun w hw=>(hc w hw).mono fun _ _ ⟨s,he,ho⟩=>⟨s,he,hw.join ho⟩) h
theorem sN {S:Type}{val:S->Value}{mem:S->List Blk}{f:FuncId}{xs:List Operand}{l:List Value}{ats:Array TypeId}{pre:Prop}[hf:CallC P f][hl:IsC (evsl E xs) l][hc:SpecR P w0 L f l S val mem pre]
  (hg:guardB ops E gd=some true) (hd:Nat.blt t n=true) (s:pre) (h:∀s,JO P w0 n ops Q rest ((t,val s)::E) (mem s++L)):JO P w0 n ops Q (⟨some t, .call ⟨.value (.func f),xs.toArray,ats⟩,ty,pos,aft,gd⟩::rest) E L:=Zot isS hf.out (hc.out s) hg hd h
theorem eN {K:Env->List Blk->Prop}{Lw:List Blk}{S:Type}{val:S->Value}{mem:S->List Blk}{f:FuncId}{xs:List Operand}{l:List Value}{ats:Array TypeId}{pre:Prop}[hf:CallC P f][hl:IsC (evsl E xs) l][hc:SpecR P w0 L f l S val mem pre]
  (hg:guardB ops E gd=some true) (hd:Nat.blt t n=true) [hw:SblC Lw L] (s:pre) (h:∀s,JE P w0 n ops Lw K rest ((t,val s)::E) (mem s++L)):JE P w0 n ops Lw K (⟨some t, .call ⟨.value (.func f),xs.toArray,ats⟩,ty,pos,aft,gd⟩::rest) E L:=
 Zzh (S:=S) (o:=⟨some t, .call ⟨.value (.func f),xs.toArray,ats⟩,ty,pos,aft,gd⟩) hg hd val (fun s=>mem s++L) (fun _ _ ha=>ZbX hf.out ha isS)
  (fun w hw'=>(hc.out s w hw').mono fun _ _ ⟨s,he,ho⟩=>⟨s,he,hw'.join ho⟩) (fun _=>Z8 (hw.out.trans (List.sublist_append_right _ _))) h
theorem sB {len:Nat}{ps:List (Nat×Operand)}{l:List (Nat×Value)}{cs:Array Value}{e:TypeId}[hp:IsC (evpl E ps) l][hb:BsC P T len l cs e](hg:guardB ops E gd=some true)(hd:Nat.blt t n=true)
  (h:∀b,JO P w0 n ops Q rest ((t, .slice (some ⟨b,0,none⟩) len len)::E) (⟨b,cs,e⟩::L)):JO P w0 n ops Q (⟨some t, .buildSlice T len ps.toArray,ty,pos,aft,gd⟩::rest) E L:=Zgu isP hg hd h
theorem eB {K:Env->List Blk->Prop}{Lw:List Blk}{len:Nat}{ps:List (Nat×Operand)}{l:List (Nat×Value)}{cs:Array Value}{e:TypeId}[hp:IsC (evpl E ps) l][hb:BsC P T len l cs e](hg:guardB ops E gd=some true)(hd:Nat.blt t n=true)[hw:SblC Lw L]
  (h:∀b,JE P w0 n ops Lw K rest ((t, .slice (some ⟨b,0,none⟩) len len)::E) (⟨b,cs,e⟩::L)):JE P w0 n ops Lw K (⟨some t, .buildSlice T len ps.toArray,ty,pos,aft,gd⟩::rest) E L:=ZlZ isP hg hd hw.out h
instance Zvq {e s b o l c:Nat}{i m:Int}{z1 z2:Operand}[IsC (evl E x) (.slice (some ⟨b,o,none⟩) l c)][hy:IsC (evl E z1) (.int .i64 i)][hz:IsC (evl E z2) (.int .i64 m)][h:UndC P T (.slice e)][hs:SizeC P e s]:YsC P w0 n L E (.slice T x (some z1) (some z2) none) (.slice (some ⟨b,o+i.toNat*s,none⟩) (m-i).toNat (c-i).toNat) (0<=i/\i<=m/\m<=c/\i<c):=⟨fun hi d ty pos aft gd=>
 Z4 (fun _=>Instr.sliceAt T (.slice (some ⟨b,o,none⟩) l c) (some (.int .i64 i)) (some (.int .i64 m)) none) (fun a ha=>by simp only[execOp,ha.ev (isE (x:=x)),Option.map_none,Option.map_some,ha.ev (isE (x:=z1)),ha.ev (isE (x:=z2))]) (fun a w _ _=>by
  have h1:(0:Int)<=m:=by omega
  have h2:i<=((m.toNat:Nat):Int):=by omega
  have h3:¬c=i.toNat:=by omega
  have h4:m.toNat-i.toNat=(m-i).toNat:=by omega
  have h5:c-i.toNat=((c:Int)-i).toNat:=by omega
  have h6:max m 0=m:=by omega
  have h7:¬m<i:=by omega
  simp[Instr.sliceAt,Instr.slice,run_underlying h.out,Instr.sliceBounds,Instr.sliceBound,asIntOf,hi.1,h1,h2,hi.2.2.1,Z5 hs.out,h3,h4,h5,h6,h7,Zai])⟩
end
class DelC (b:Nat)(L:List Blk)(cs:outParam (Array Value))(T:outParam TypeId)(L1:outParam (List Blk)):Prop where
 out:L.Perm (⟨b,cs,T⟩::L1)
instance (priority :=high) delHere (b:Nat)(cs:Array Value)(T:TypeId)(L:List Blk):DelC b (⟨b,cs,T⟩::L) cs T L:=⟨.refl _⟩
instance (priority :=low) delThere (b:Nat)(e:Blk)(cs:Array Value)(T:TypeId)(L L1:List Blk)[h:DelC b L cs T L1]:DelC b (e::L) cs T (e::L1):=⟨(h.out.cons e).trans (.swap _ _ _)⟩
section
variable {P : Program} {w0 : World} {n : Nat} {ops : Array Oper} {L L1 : List Blk} {E : Env}
variable {Q : Exit -> Act -> World -> Prop} {rest : List Oper}
variable {ty : TypeId} {pos : String} {aft : Array Edge} {gd : Option (Nat × Bool)} {t : Tmp} {x y : Operand}
theorem Zce {T:TypeId}{β:Type}{g:TypeInfo->β}{v:β}(h:(P.info? T).map g=some v):∃i,P.info? T=some i/\g i=v:=by
 cases hi:P.info? T with
 |none=>simp[hi] at h
 |some i=>exact⟨i,rfl,by simpa [hi] using h⟩
theorem Zga {S T:TypeId}{b len c b2 off2 m c2 k B:Nat}{xs sp news:List Value}{cs2:Array Value}{z:Value}{zc:Array Value}{w:World}(hT:P.underlying S=some (.slice T))(hz:(P.info? T).bind (·.zero)=some z)(hzc:z.cells=zc)(hk:(P.info? T).map (·.size)=some k)(hB:(P.info? T).map (·.bytes)=some B)
  (hzk:zc.size=k) (hw:Own w0 L w) (hd:L.Perm (⟨b,(xs++sp).toArray,T⟩::L1)) (hx:xs.length=len*k) (hs:sp.length=(c-len)*k) (hc:len<=c) (h2:∃T2 fz,w.heap[b2]? =some (.cells cs2 T2 fz)) (hn:news.length=m*k) (hcs:∀j u,news[j]? =some u->cs2[off2+j]? =some u)
  (h1:∀u∈news,u.oneCell'=true) (hbytes:(len+m)*B<=140737488355328) (h63:len+m<=9223372036854775807):
  ∃s:{s:Nat×Nat×List Value // len+m<=s.2.1/\s.2.2.length=(s.2.1-(len+m))*k},∃w',(Builtin.append_ #[S,S] ty #[.slice (some ⟨b,0,none⟩) len c, .slice (some ⟨b2,off2,none⟩) m c2]).run P w= .ok (.slice (some ⟨s.1.1,0,none⟩) (len+m) s.1.2.1) w'/\Own w0 (⟨s.1.1,(xs++news++s.1.2.2).toArray,T⟩::L1) w':=by
 have hwp:=hw.perm hd
 have hb:=(hwp.mem _ (.head _)).2
 obtain⟨i,hi,hik⟩:=Zce hk
 obtain⟨i',hi',hiB⟩:=Zce hB
 obtain rfl:i'=i:=Option.some.inj (hi'.symm.trans hi)
 have hz':i'.zero=some z:=by simpa [hi] using hz
 obtain⟨T2,fz,h2⟩:=h2
 have hnew:∀j u,news[j]? =some u->w.cell? ((⟨b2,off2,none⟩:Addr).add j)=some u:=fun j u hu=>by rw[Zai,Zaf h2];exact hcs j u hu
 by_cases hroom:len+m<=c
 ·have hle:(c-len)*k=(c-(len+m))*k+m*k:=by rw[<-Nat.add_mul,show c-(len+m)+m=c-len by omega]
  have hr:=run_append_room w S ty T i' hT hi b len c (xs++sp).toArray hb ⟨b2,off2,none⟩ m c2 news (by rw[hik];exact hn) hnew h1 hroom (by rw[hik];simp;omega)
  refine⟨⟨(b,c,sp.drop (m*k)),hroom,by rw[List.length_drop];simp only;omega⟩,_,hr, ?_⟩
  have e1:((xs++sp).toArray.toList.take (len*i'.size)++news++(xs++sp).toArray.toList.drop (len*i'.size+news.length))=xs++news++sp.drop (m*k):=by
   rw[hik,hn,<-hx]
   simp only[List.take_left',List.drop_append,List.append_assoc]
   rw[List.drop_eq_nil_of_le (by omega),Nat.add_sub_cancel_left]
   simp
  rw[e1]
  refine hwp.turn (b:=b) (cs:=(xs++sp).toArray) (T:=T) .here ?_
  have hsz:b<w.heap.size:=Zae hb
  refine⟨by simp[World.setRow],by simp[World.setRow],by simp[World.setRow],by simp[World.setRow],by simp[World.setRow],fun q hq=>?_, ?_⟩
  ·simp[World.setRow,Array.getElem?_modify,Ne.symm hq]
  ·simp[World.setRow,Array.getElem?_modify,hb]
 ·have hold:∀j u,xs[j]? =some u->w.cell? ((⟨b,0,none⟩:Addr).add j)=some u:=fun j u hu=>by
   rw[Zai,Zaf hb,Nat.zero_add,List.getElem?_toArray,List.getElem?_append_left (by
    rcases Nat.lt_or_ge j xs.length with h|h
    ·exact h
    ·rw[List.getElem?_eq_none h] at hu;cases hu)]
   exact hu
  have hr:=run_append_grow w S ty T i' z hT hi hz' ⟨b,0,none⟩ len c xs (by rw[hik];exact hx) hold ⟨b2,off2,none⟩ m c2 news (by rw[hik];exact hn) hnew (by omega) (by omega) (growslice_fits (by omega) (by rw[hiB];exact hbytes))
  have hge:=grownCap_ge w (len+m) c T
  refine⟨⟨(w.heap.size,grownCap w (len+m) c T,(Builtin.zeroCells z.cells (grownCap w (len+m) c T-(len+m))).toList),hge,by rw[Array.length_toList,size_zeroCells,hzc,hzk]⟩,_,hr, ?_⟩
  have hL1:Own w0 L1 w:=hwp.sub (List.sublist_cons_self _ _)
  have h3:=(hL1.to (Ext.drew w)).alloc (xs.toArray++news.toArray++Builtin.zeroCells z.cells (grownCap w (len+m) c T-(len+m))) T
  have e2:xs.toArray++news.toArray++Builtin.zeroCells z.cells (grownCap w (len+m) c T-(len+m))=(xs++news++(Builtin.zeroCells z.cells (grownCap w (len+m) c T-(len+m))).toList).toArray:=by
   apply Array.ext'
   simp
  rw[e2] at h3
  rw[e2]
  exact h3
theorem ZeL {S T:TypeId}{b2 off2 m c2 k B:Nat}{news:List Value}{cs2:Array Value}{z:Value}{zc:Array Value}{w:World}(hT:P.underlying S=some (.slice T))(hz:(P.info? T).bind (·.zero)=some z)(hzc:z.cells=zc)(hk:(P.info? T).map (·.size)=some k)(hB:(P.info? T).map (·.bytes)=some B)
  (hzk:zc.size=k) (hw:Own w0 L w) (h2:∃T2 fz,w.heap[b2]? =some (.cells cs2 T2 fz)) (hn:news.length=m*k) (hcs:∀j u,news[j]? =some u->cs2[off2+j]? =some u)
  (hm:0<m) (hbytes:m*B<=140737488355328) (h63:m<=9223372036854775807):
  ∃s:{s:Nat×Nat×List Value // m<=s.2.1/\s.2.2.length=(s.2.1-m)*k},∃w',(Builtin.append_ #[S,S] ty #[.slice none 0 0, .slice (some ⟨b2,off2,none⟩) m c2]).run P w= .ok (.slice (some ⟨s.1.1,0,none⟩) m s.1.2.1) w'/\Own w0 (⟨s.1.1,(news++s.1.2.2).toArray,T⟩::L) w':=by
 obtain⟨i,hi,hik⟩:=Zce hk
 obtain⟨i',hi',hiB⟩:=Zce hB
 obtain rfl:i'=i:=Option.some.inj (hi'.symm.trans hi)
 have hz':i'.zero=some z:=by simpa [hi] using hz
 obtain⟨T2,fz,h2⟩:=h2
 have hnew:∀j u,news[j]? =some u->w.cell? ((⟨b2,off2,none⟩:Addr).add j)=some u:=fun j u hu=>by rw[Zai,Zaf h2];exact hcs j u hu
 have hr:=run_append_nil w S ty T i' z hT hi hz' ⟨b2,off2,none⟩ m c2 news (by rw[hik];exact hn) hnew hm (by omega) (by rw[hiB];omega)
 have hge:=grownCap_ge w m 0 T
 refine⟨⟨(w.heap.size,grownCap w m 0 T,(Builtin.zeroCells z.cells (grownCap w m 0 T-m)).toList),hge,by rw[Array.length_toList,size_zeroCells,hzc,hzk]⟩,_,hr, ?_⟩
 have h3:=(hw.to (Ext.drew w)).alloc (news.toArray++Builtin.zeroCells z.cells (grownCap w m 0 T-m)) T
 have e2:news.toArray++Builtin.zeroCells z.cells (grownCap w m 0 T-m)=(news++(Builtin.zeroCells z.cells (grownCap w m 0 T-m)).toList).toArray:=by
  apply Array.ext'
  simp
 rw[e2] at h3
 rw[e2]
 exact h3
theorem ZbK {S:TypeId}{vx vy:Value}{a:Act}{w w':World}{r:Value}{d:Option Tmp}(ha:Rep n E a)(hx:Env.ev E x=some vx)(hy:Env.ev E y=some vy)(hr:(Builtin.append_ #[S,S] ty #[vx,vy]).run P w= .ok r w'):
  (execOp a.eval ⟨d, .call ⟨.builtin .append,#[x,y],#[S,S]⟩,ty,pos,aft,gd⟩).run P w= .ok (.value r) w':=by
 have h1:(#[x,y]:Array Operand).map a.eval=#[vx,vy]:=by simp[ha.ev hx,ha.ev hy]
 have h2:∀cs:Array Bool,(builtin .append #[S,S] ty cs #[vx,vy]).run P w= .ok (.value r) w':=fun cs=>by
  show Sem.run P (do pure (Next.value (<-Builtin.append_ #[S,S] ty #[vx,vy])):Sem Next) w=_
  rw[Sem.run_bind,hr]
  rfl
 simp only[execOp,resolve,h1,Sem.run_bind,Sem.run_pure,Result.andThen,invoke]
 exact h2 _
theorem Zn3 (k:IntKind)(xs:List Int):nums k xs=row (eI k) xs []:=by
 have h:∀l:List Int,l.flatMap (fun x=>[Value.int k x])=l.map (Value.int k):=by
  intro l
  induction l with
  |nil=>rfl
  |cons a l ih=>simp[ih]
 simp[nums,row,rowL,eI,h]
theorem sM {T e:TypeId}{k:IntKind}{B m:Nat}[hT:UndC P T (.slice e)][hz:ZeroC P e (.int k 0) #[.int k 0]][hs:SizeC P e 1][hB:BytesC P e B][hx:IsC (evl E x) (.int .i64 (m:Nat))][hy:IsC (evl E y) (.int .i64 (m:Nat))](hg:guardB ops E gd=some true)(hd:Nat.blt t n=true)(hm:B*m<=281474976710656/\m<=281474976710656)
  (h:∀b,JO P w0 n ops Q rest ((t, .slice (some ⟨b,0,none⟩) m m)::E) (⟨b,row (eI k) (List.replicate m 0) [],e⟩::L)):JO P w0 n ops Q (⟨some t, .makeSlice T x y,ty,pos,aft,gd⟩::rest) E L:=
 Zkj isE isE hm hg hd (fun b=>by rw[Zn3];exact h b)
end
theorem wkB {P Q:Prop}(k:Q)(h:Wr Q->P:=by intro hq;(first|refine sX rfl rfl ?_|(refine sS rfl rfl ?_ ?_;focus omega)|(refine sC rfl rfl ?_ ?_;focus(first|exact trivial|assumption|constructor <;> assumption|exact mb2 rfl rfl|exact mb4 rfl rfl rfl rfl))|refine cX ?_|refine cY ?_|(refine sA rfl rfl ?_)|refine sT rfl ?_|refine sF rfl ?_|(refine sR rfl ?_ ?_;focus omega)|(refine sB rfl rfl ?_)|(refine sN rfl rfl ?_ ?_;(focus(first|exact trivial|assumption|constructor <;> assumption|exact mb2 rfl rfl|exact mb4 rfl rfl rfl rfl));(try simp only[Wf,Wg,Wh]))|refine sW rfl rfl ?_|refine sK rfl rfl ?_|refine Zit rfl ?_|refine Zdr rfl ?_|refine pkT rfl rfl rfl rfl ?_|refine pkF rfl rfl rfl rfl ?_);(repeat(first|refine sX rfl rfl ?_|(refine sS rfl rfl ?_ ?_;focus omega)|(refine sC rfl rfl ?_ ?_;focus(first|exact trivial|assumption|constructor <;> assumption|exact mb2 rfl rfl|exact mb4 rfl rfl rfl rfl))|refine cX ?_|refine cY ?_|(refine sA rfl rfl ?_)|refine sT rfl ?_|refine sF rfl ?_|(refine sR rfl ?_ ?_;focus omega)|(refine sB rfl rfl ?_)|(refine sN rfl rfl ?_ ?_;(focus(first|exact trivial|assumption|constructor <;> assumption|exact mb2 rfl rfl|exact mb4 rfl rfl rfl rfl));(try simp only[Wf,Wg,Wh]))|refine sW rfl rfl ?_|refine sK rfl rfl ?_|refine Zit rfl ?_|refine Zdr rfl ?_|refine pkT rfl rfl rfl rfl ?_|refine pkF rfl rfl rfl rfl ?_));exact hq.out):P:=h ⟨k⟩
theorem wnM {P Q pre:Prop}(hp:pre)(k:Q)(h:Wr pre->Wr Q->P:=by intro hp hq;(first|(refine sC rfl rfl ?_ ?_;(focus exact hp.out))|(refine sN rfl rfl ?_ ?_;(focus exact hp.out);(try simp only[Wf,Wg,Wh])));exact hq.out):P:=h ⟨hp⟩ ⟨k⟩
end Go.Vt
namespace Go.Vt
open Go.RowKit Go.Proofs
open Go.Proofs.Tryz (prog)
def dI (n:Nat):List Int:=(le n).map fun b=>(b.toNat:Int)
def vgI :List Int->Int
 |[]=>0
 |d::l=>d+256*vgI l
def D8 (l:List Int):Prop:=∀d∈l,0<=d/\d<256
theorem Zdu :dI 0=[]:=rfl
theorem Zb8 {n:Nat}(h:n≠0):dI n=((n % 256:Nat):Int)::dI (n / 256):=by
 unfold dI
 rw[Za1 h,List.map_cons,toNat_ofNat]
theorem ZaB :∀n:Nat,vgI (dI n)=n:=by
 intro n
 induction n using Nat.strongRecOn with
 |_ n ih=>
  by_cases h:n=0
  ·subst h;rfl
  ·rw[Zb8 h,vgI,ih (n / 256) (by omega)]
   omega
theorem Zbx (n:Nat):D8 (dI n):=fun d hd=>by
 unfold dI at hd
 obtain⟨b, -,rfl⟩:=List.mem_map.1 hd
 have:=UInt8.toNat_lt b
 omega
theorem ZT {n k:Nat}:(dI n).length<=k↔n<256 ^ k:=by
 unfold dI
 rw[Ws]
 exact ZlC
theorem ZcT {n:Nat}:dI n=[]↔n=0:=by
 constructor
 ·intro h
  have:=ZaB n
  rw[h] at this
  simp[vgI] at this
  omega
 ·rintro rfl
  rfl
theorem D8.cons {d:Int}{l:List Int}(h:D8 (d::l)):(0<=d/\d<256)/\D8 l:=⟨h d (.head _),fun x hx=>h x (.tail _ hx)⟩
theorem ZbD :∀{l:List Int},D8 l->0<=vgI l
 |[],_=>by simp[vgI]
 |d::l,h=>by
  have:=ZbD h.cons.2
  have:=h.cons.1
  simp only[vgI]
  omega
theorem ZcM :∀{l:List Int},D8 l->vgI l<256 ^ l.length
 |[],_=>by simp[vgI]
 |d::l,h=>by
  have h1:=ZcM h.cons.2
  have h2:=h.cons.1
  simp only[vgI,Wu,Int.pow_succ]
  omega
theorem Zft (l m:List Int):vgI (l++m)=vgI l+256 ^ l.length*vgI m:=by
 induction l with
 |nil=>simp[vgI]
 |cons b l ih=>
  simp only[Wf,vgI,ih,Wu,Int.pow_succ,Int.mul_add]
  rw[Int.mul_comm (256 ^ l.length) 256,Int.mul_assoc]
  omega
theorem D8.append {l m:List Int}(h:D8 l)(k:D8 m):D8 (l++m):=fun d hd=>(List.mem_append.1 hd).elim (h d) (k d)
theorem D8.take {l:List Int}(h:D8 l)(i:Nat):D8 (l.take i):=fun d hd=>h d (List.mem_of_mem_take hd)
theorem D8.drop {l:List Int}(h:D8 l)(i:Nat):D8 (l.drop i):=fun d hd=>h d (List.mem_of_mem_drop hd)
theorem D8.set {l:List Int}(h:D8 l)(i:Nat){x:Int}(hx:0<=x/\x<256):D8 (l.set i x):=fun d hd=>by
 rcases List.mem_or_eq_of_mem_set hd with h1|h1
 ·exact h d h1
 ·rw[h1];exact hx
theorem D8.gi {l:List Int}(h:D8 l){i:Int}:0<=gi l i/\gi l i<256:=by
 by_cases hi:i.toNat<l.length
 ·rw[Zbk hi]
  exact h _ (List.getElem_mem _)
 ·unfold Go.Vt.gi
  rw[List.getD_eq_getElem?_getD,List.getElem?_eq_none (by omega)]
  exact⟨Int.le_refl _,by decide⟩
theorem Zmx :D8 []:=fun d hd=>by cases hd
theorem ZhH {d:Int}(h:0<=d/\d<256):D8 [d]:=fun x hx=>by rw[Wo] at hx;rw[hx];exact h
theorem Zbd {l:List Int}{i:Nat}(h:i<l.length):vgI (l.take (i+1))=vgI (l.take i)+256 ^ i*gi l (i:Int):=by
 rw[Wn h,Zft,Wt,Nat.min_eq_left (Nat.le_of_lt h),Zw h]
 simp[vgI]
theorem ZhZ (l:List Int)(d:Int):vgI (l++[d])=vgI l+256 ^ l.length*d:=by
 rw[Zft]
 simp[vgI]
theorem Zef {l:List Int}{i:Nat}(h:l.length<=i):vgI (l.take i)=vgI l:=by rw[List.take_of_length_le h]
theorem Zkd :∀{l:List Int} {i:Nat} {x:Int},i<l.length->vgI (l.set i x)=vgI l+256 ^ i*(x-gi l (i:Int))
 |[],i,x,h=>by simp at h
 |b::l,0,x,h=>by
  rw[Zw h]
  simp[vgI]
  omega
 |b::l,i+1,x,h=>by
  have hi:i<l.length:=by simpa using h
  have ih:=Zkd (l:=l) (i:=i) (x:=x) hi
  rw[Zw h]
  rw[Zw hi] at ih
  simp only[List.set_cons_succ,vgI,List.getElem_cons_succ,Int.pow_succ,ih,Int.mul_add]
  rw[<-Int.mul_assoc,Int.mul_comm 256 (256 ^ i)]
  omega
theorem ZoF (n:Nat):vgI (List.replicate n 0)=0:=by
 induction n with
 |zero=>rfl
 |succ n ih=>simp only[List.replicate_succ,vgI,ih];omega
theorem ZjP (n:Nat):D8 (List.replicate n 0):=fun d hd=>by rw[(List.mem_replicate.1 hd).2];decide
def tzN (l:List Int):Nat->Nat
 |0=>0
 |n+1=>if gi l (n:Int)=0 then tzN l n else n+1
theorem Zfa (l:List Int):∀n,tzN l n<=n
 |0=>Wl _
 |n+1=>by
  have:=Zfa l n
  rw[tzN]
  split <;> omega
theorem ZjJ {l:List Int}:∀n,n<=l.length->vgI (l.take (tzN l n))=vgI (l.take n)
 |0,_=>rfl
 |n+1,h=>by
  have ih:=ZjJ n (Nat.le_of_lt h)
  rw[tzN]
  split
  ·rename_i h0
   rw[ih,Zbd h,h0]
   omega
  ·rfl
theorem Zkb {l:List Int}:∀n,n<=l.length->tzN l n≠0->gi l ((tzN l n-1:Nat):Int)≠0
 |0,_,h=>absurd rfl h
 |n+1,h,h1=>by
  have ih:=Zkb n (Nat.le_of_lt h)
  rw[tzN] at h1⊢
  split
  ·rename_i h0
   rw[if_pos h0] at h1
   exact ih h1
  ·rename_i h0
   exact h0
theorem Zrl {l:List Int}(h:D8 l)(ht:l≠[]->gi l ((l.length-1:Nat):Int)≠0):dI (vgI l).toNat=l:=by
 induction l with
 |nil=>rfl
 |cons d l ih=>
  obtain⟨h1,h2⟩:=h.cons
  have hn:=ZbD h2
  have ht':l≠[]->gi l ((l.length-1:Nat):Int)≠0:=fun hl=>by
   have:=ht (by simp)
   have hp:0<l.length:=List.length_pos_iff.2 hl
   rw[Zw (by simp)] at this
   rw[Zw (by omega)]
   simp only[Wu,Nat.add_sub_cancel] at this
   rw[List.getElem_cons,dif_neg (by omega)] at this
   exact this
  have ih:=ih h2 ht'
  have hne:(vgI (d::l)).toNat≠0:=by
   intro h0
   simp only[vgI] at h0
   have hv:vgI l=0:=by omega
   rw[hv] at ih
   have hl:l=[]:=ih.symm
   subst hl
   have:=ht (by simp)
   rw[Zw (by simp)] at this
   simp at this
   simp[vgI] at h0
   omega
  rw[Zb8 hne]
  simp only[vgI] at hne⊢
  have e1:(((d+256*vgI l).toNat % 256:Nat):Int)=d:=by omega
  have e2:(d+256*vgI l).toNat / 256=(vgI l).toNat:=by omega
  rw[e1,e2,ih]
theorem Zjc {l:List Int}(h:D8 l):l.take (tzN l l.length)=dI (vgI l).toNat:=by
 have h1:=Zfa l l.length
 have h2:=ZjJ (l:=l) l.length (Wl _)
 have h3:=Zkb (l:=l) l.length (Wl _)
 rw[List.take_length] at h2
 have hl:(l.take (tzN l l.length)).length=tzN l l.length:=by rw[Wt];omega
 rw[<-h2,Zrl (h.take _) fun hne=>?_]
 rw[hl]
 have h0:tzN l l.length≠0:=fun h0=>hne (by rw[h0];rfl)
 have h4:=h3 h0
 rw[Zw (by rw[hl];omega),List.getElem_take]
 rw[Zw (by omega)] at h4
 exact h4
def cmD (a b:List Int):Nat->Int
 |0=>0
 |i+1=>if gi a (i:Int)<gi b (i:Int) then-1 else if gi b (i:Int)<gi a (i:Int) then 1 else cmD a b i
theorem ZdO (i:Nat):(0:Int)<256 ^ i:=Int.pow_pos (by decide)
theorem ZjE {a b:List Int}(ha:D8 a)(hb:D8 b):∀i,i<=a.length->i<=b.length->cmD a b i=Lib.compareInt (vgI (a.take i)) (vgI (b.take i))
 |0,_,_=>by simp[cmD,Lib.compareInt]
 |i+1,h1,h2=>by
  have ih:=ZjE ha hb i (by omega) (by omega)
  have l1:=ZcM (ha.take i)
  have l2:=ZcM (hb.take i)
  have n1:=ZbD (ha.take i)
  have n2:=ZbD (hb.take i)
  rw[Wt,Nat.min_eq_left (by omega)] at l1 l2
  have key:∀x y:Int,x<y->256 ^ i*x+256 ^ i<=256 ^ i*y:=fun x y hxy=>by
   have:=Int.mul_le_mul_of_nonneg_left (show x+1<=y by omega) (Int.le_of_lt (ZdO i))
   rw[Int.mul_add,Int.mul_one] at this
   exact this
  rw[cmD,Zbd (by omega),Zbd (by omega)]
  generalize gi a (i:Int)=x at*
  generalize gi b (i:Int)=y at*
  unfold Lib.compareInt at*
  by_cases c1:x<y
  ·have:=key x y c1
   rw[if_pos c1,if_pos (by omega)]
  ·rw[if_neg c1]
   by_cases c2:y<x
   ·have:=key y x c2
    rw[if_pos c2,if_neg (by omega),if_pos (by omega)]
   ·rw[if_neg c2,ih]
    have e:x=y:=by omega
    subst e
    split
    ·rw[if_pos (by omega)]
    ·split
     ·rw[if_neg (by omega),if_pos (by omega)]
     ·rw[if_neg (by omega),if_neg (by omega)]
theorem ZrM (m n:Nat):(if(dI m).length≠(dI n).length then(if(dI m).length<(dI n).length then-1 else 1) else cmD (dI m) (dI n) (dI m).length)=Lib.compareInt (m:Int) n:=by
 have hlt:∀x y:Nat,(dI x).length<(dI y).length->x<y:=fun x y h=>by
  have h1:x<256 ^ (dI x).length:=ZT.1 (Wl _)
  have h2:¬y<256 ^ (dI x).length:=fun h2=>by
   have:=ZT.2 h2
   omega
  omega
 split
 ·rename_i h
  unfold Lib.compareInt
  split
  ·rename_i h1
   have:=hlt _ _ h1
   rw[if_pos (by omega)]
  ·rename_i h1
   have:=hlt n m (by omega)
   rw[if_neg (by omega),if_pos (by omega)]
 ·rename_i h
  have h:(dI m).length=(dI n).length:=Decidable.not_not.1 h
  rw[ZjE (Zbx m) (Zbx n) _ (Wl _) (by omega),Zef (Wl _),Zef (by omega),ZaB,ZaB]
end Go.Vt
