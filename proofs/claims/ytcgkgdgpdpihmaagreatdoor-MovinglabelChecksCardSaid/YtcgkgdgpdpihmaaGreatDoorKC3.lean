/- For any up to 12 units whose ends have up to 20 bytes, and for any decoded moving label (up to 8 stretches), Check returns OK or the first error. Conditions: none. (part 3 of 28.) Conditions: those that each statement names. -/
import Derived.Shelf.Spec.BitsCarry
import Derived.Test.YtcgkgdgpdpihmaaGreatDoorKC2
set_option linter.unusedSimpArgs false
set_option linter.unusedVariables false
set_option maxHeartbeats 2000000
namespace Go.Vt
open Go.RowKit
class BytesC (P:Program)(T:TypeId)(k:outParam Nat):Prop where
 out:(P.info? T).map (·.bytes)=some k
class BsC (P:Program)(T:TypeId)(len:Nat)(l:List (Nat×Value))(cs:outParam (Array Value))(e:outParam TypeId):Prop where
 out:∀w,(Instr.buildSlice T len l.toArray).run P w= .ok (.slice (some ⟨w.heap.size,0,none⟩) len len) (w.alloc (.cells cs e))
class ExtC (P:Program)(f:FuncId)(args:List Value)(v:outParam Value)(pre:outParam Prop):Prop where
 out:pre->∀w,(callFunc f args.toArray).run P w= .ok (.value v) w
section
variable {P : Program} {w0 : World} {n : Nat} {ops : Array Oper} {L L' : List Blk} {E : Env}
variable {Q : Exit -> Act -> World -> Prop} {rest : List Oper} {v : Value}
variable {d : Option Tmp} {ty : TypeId} {pos : String} {aft : Array Edge} {gd : Option (Nat × Bool)}
variable {T T' : TypeId} {x y : Operand} {a b : Int} {t : Tmp}
theorem Zr5 {f:FuncId}{xs:List Operand}{l:List Value}{ats:Array TypeId}{pre:Prop}(hl:Env.evs E xs=some l)[hs:ExtC P f l v pre](hp:pre):
  Yl P w0 n L E ⟨d, .call ⟨.value (.func f),xs.toArray,ats⟩,ty,pos,aft,gd⟩ v:=⟨fun a w ha _=>by
 have h1:xs.toArray.map a.eval=l.toArray:=by rw[<-ha.evs xs l hl];simp
 have h2:(execOp a.eval ⟨d, .call ⟨.value (.func f),xs.toArray,ats⟩,ty,pos,aft,gd⟩).run P w= .ok (.value v) w:=by
  simp only[execOp,resolve,h1,Act.eval,Deferred.ofValue,Sem.run_bind,Sem.run_pure,Result.andThen,invoke]
  rw[show(#[]++l.toArray:Array Value)=l.toArray from Array.empty_append,Array.append_empty]
  exact hs.out hp w
 unfold calm
 rw[h2]
 exact⟨rfl,Ext.refl _⟩⟩
theorem Zgu {len:Nat}{ps:List (Nat×Operand)}{l:List (Nat×Value)}{cs:Array Value}{e:TypeId}(hp:Env.evp E ps=some l)[hb:BsC P T len l cs e](hg:guardB ops E gd=some true)(hd:Nat.blt t n=true)
  (h:∀b,JO P w0 n ops Q rest ((t, .slice (some ⟨b,0,none⟩) len len)::E) (⟨b,cs,e⟩::L)):JO P w0 n ops Q (⟨some t, .buildSlice T len ps.toArray,ty,pos,aft,gd⟩::rest) E L:=
 Zc9 (L':=Nat) (o:=⟨some t, .buildSlice T len ps.toArray,ty,pos,aft,gd⟩) hg hd (fun b=> .slice (some ⟨b,0,none⟩) len len) (fun b=>⟨b,cs,e⟩::L)
  (fun a w ha hw=>⟨w.heap.size,w.alloc (.cells cs e), .inl (by
   have h1:ps.toArray.map (fun(i,x)=>(i,a.eval x))=l.toArray:=by rw[<-ha.evp ps l hp];simp
   simp only[execOp,h1,Sem.run_bind,hb.out,Result.andThen,Sem.run_pure]),hw.alloc _ _⟩) h
theorem Zmt (m:Nat)(z:Value):(Array.range m).map (fun i=>([z]:List Value)[i % 1]?.getD default)=Array.replicate m z:=by
 apply Array.ext_getElem?
 intro i
 by_cases h:i<m
 ·simp[h,Nat.mod_one]
 ·simp[h]
theorem Zk0 (z:Value):(Array.range 0).map (fun _=>z)=#[]:=by rw[Array.range_zero'];simp
theorem Zn0 {e:TypeId}{B:Nat}{z:Value}{m:Nat}(hT:P.underlying T=some (.slice e))(hz:(P.info? e).bind (·.zero)=some z)(hz1:z.cells=#[z])(hs:(P.info? e).map (·.size)=some 1)(hB:(P.info? e).map (·.bytes)=some B)(hm:B*m<=281474976710656)(hm2:m<=281474976710656)(w:World):
  (Instr.makeSlice T (.int .i64 m) (.int .i64 m)).run P w= .ok (.slice (some ⟨w.heap.size,0,none⟩) m m) (w.alloc (.cells (Array.replicate m z) e)):=by
 cases hi:P.info? e with
 |none=>simp[hi] at hz
 |some ti=>
  have hz':ti.zero=some z:=by simpa [hi] using hz
  have hs':ti.size=1:=by simpa [hi] using hs
  have hB':ti.bytes=B:=by simpa [hi] using hB
  have hw:IntKind.i64.wrap (m:Int)=m:=IntWalk.i64_in _ (by omega)
  have h1:¬((m:Int)<0):=by omega
  have h3:((B*m:Nat):Int)<=((281474976710656:Nat):Int):=Int.ofNat_le.mpr hm
  rw[Int.natCast_mul] at h3
  have h2:¬(281474976710656<(B:Int)*(m:Int)):=Int.not_lt.mpr h3
  have hw0:IntKind.i64.wrap 0=0:=IntWalk.i64_in 0 (by omega)
  by_cases h0:m=0
  ·subst h0
   simp[Instr.makeSlice,run_underlying hT,asInt,asIntOf,typeInfo,hi,hB',hw0,sizeOf,hs',newRow,Zk0]
  ·simp[Instr.makeSlice,run_underlying hT,asInt,asIntOf,typeInfo,hi,hB',hw,h1,h2,sizeOf,hs',h0,zeroValue,hz',hz1,newRow,Zmt]
theorem Zkj {k:IntKind}{e:TypeId}{B:Nat}{m:Nat}[hT:UndC P T (.slice e)][hz:ZeroC P e (.int k 0) #[.int k 0]][hs:SizeC P e 1][hB:BytesC P e B](hx:Env.ev E x=some (.int .i64 m))(hy:Env.ev E y=some (.int .i64 m))(hm:B*m<=281474976710656/\m<=281474976710656)
  (hg:guardB ops E gd=some true) (hd:Nat.blt t n=true)
  (h:∀b,JO P w0 n ops Q rest ((t, .slice (some ⟨b,0,none⟩) m m)::E) (⟨b,nums k (List.replicate m 0),e⟩::L)):JO P w0 n ops Q (⟨some t, .makeSlice T x y,ty,pos,aft,gd⟩::rest) E L:=
 Zc9 (L':=Nat) (o:=⟨some t, .makeSlice T x y,ty,pos,aft,gd⟩) hg hd (fun b=> .slice (some ⟨b,0,none⟩) m m) (fun b=>⟨b,nums k (List.replicate m 0),e⟩::L)
  (fun a w ha hw=>⟨w.heap.size,w.alloc (.cells (nums k (List.replicate m 0)) e), .inl (by
   have e1:nums k (List.replicate m 0)=Array.replicate m (.int k 0):=by simp[nums]
   simp only[execOp,ha.ev hx,ha.ev hy,Sem.run_bind,Zn0 hT.out hz.out rfl hs.out hB.out hm.1 hm.2,Result.andThen,Sem.run_pure,e1]),hw.alloc _ _⟩) h
theorem ZnA (k:IntKind)(xs ys:List Int)(h:ys.length<=xs.length):spl (nums k xs) 0 (nums k ys).toList=nums k (ys++xs.drop ys.length):=by
 apply Array.ext_getElem?
 intro i
 rw[Zb5 _ _ _ _ (by simp[nums];omega)]
 simp only[nums,Ws,Wm,true_and,Nat.zero_add,Nat.sub_zero,List.getElem?_map,List.getElem?_toArray]
 split
 ·rename_i hi
  rw[List.getElem?_append_left hi]
 ·rename_i hi
  rw[List.getElem?_append_right (by omega),List.getElem?_drop,show ys.length+(i-ys.length)=i by omega]
theorem ZqO {k:IntKind}{S S2 e T1 T2:TypeId}{b1 l1 c1 b2 l2 c2:Nat}{xs ys:List Int}[hS:UndC P S (.slice e)][hs:SizeC P e 1](hx:Env.ev E x=some (.slice (some ⟨b1,0,none⟩) l1 c1))(hy:Env.ev E y=some (.slice (some ⟨b2,0,none⟩) l2 c2))
  [MemC b1 L (nums k xs) T1] [hm2:MemC b2 L (nums k ys) T2] (h1:l1<=xs.length) (h2:l2<=ys.length) [hu:UpdC b1 (nums k (ys.take (min l2 l1)++xs.drop (min l2 l1))) L (nums k xs) T1 L']
  (hg:guardB ops E gd=some true) (hd:Nat.blt t n=true) (h:JO P w0 n ops Q rest ((t, .int .i64 ((min l2 l1:Nat):Int))::E) L'):JO P w0 n ops Q (⟨some t, .call ⟨.builtin .copy,#[x,y],#[S,S2]⟩,ty,pos,aft,gd⟩::rest) E L:=by
 refine Zc9 (L':=Unit) (o:=⟨some t, .call ⟨.builtin .copy,#[x,y],#[S,S2]⟩,ty,pos,aft,gd⟩) hg hd (fun _=> .int .i64 ((min l2 l1:Nat):Int)) (fun _=>L') (fun a w ha hw=>?_) (fun _=>h)
 have hb1:=(hw.mem _ hu.out.mem).2
 have hb2:=(hw.mem _ hm2.out).2
 have hlen:(ys.take (min l2 l1)).length=min l2 l1:=by simp;omega
 have hld:(loadCells ⟨b2,0,none⟩ (nums k (ys.take (min l2 l1))).toList.length).run P w= .ok (nums k (ys.take (min l2 l1))).toList.toArray w:=
  run_loadCells_list (P:=P) w ⟨b2,0,none⟩ _ (fun j u hju=>by
   rw[Zai,Zaf hb2,Nat.zero_add,ZeT]
   simp only[nums,List.getElem?_map] at hju
   rw[List.getElem?_take] at hju
   split at hju
   ·exact hju
   ·cases hju)
 have hll:(nums k (ys.take (min l2 l1))).toList.length=min l2 l1:=by simp[nums];omega
 rw[hll,Array.toArray_toList] at hld
 obtain⟨w',hr,ht⟩:=ZaT (P:=P) (b:=b1) (off:=0) (nums k (ys.take (min l2 l1))).toList 0 (nums k xs) w hb1 (by rw[hll,Zd0];omega) (fun q hq=>by
  have:=Znp k (ys.take (min l2 l1))
  exact Array.all_eq_true_iff_forall_mem.1 this q (Array.mem_toList_iff.1 hq))
 rw[Nat.add_zero,ZnA k xs _ (by omega),hlen] at ht
 refine⟨(),w', .inl ?_,hw.turn hu.out ht⟩
 have hmin:l2.min l1=min l2 l1:=rfl
 simp[execOp,resolve,ha.ev hx,ha.ev hy,invoke,builtin,Builtin.copy_,run_underlying hS.out,Builtin.lenOf,Builtin.firstCells,Z5 hs.out,hmin,hld,hr,goInt]
end
end Go.Vt
namespace Go.Vt
open Go.RowKit
def dig (k:IntKind)(ds:List Nat):Array Value:=nums k (ds.map Int.ofNat)
theorem ZhO (k:IntKind)(ds:List Nat):(dig k ds).size=ds.length:=by simp[dig,Zd0]
theorem Zf3 (k:IntKind)(ds:List Nat)(i:Nat):(dig k ds)[i]? =(ds[i]?).map fun d=> .int k (d:Int):=by
 rw[dig,ZeT,List.getElem?_map,Option.map_map]
 rfl
theorem Zjf (k:IntKind)(ds:List Nat)(i z:Nat):nums k ((ds.map Int.ofNat).set i (z:Int))=dig k (ds.set i z):=by
 rw[dig,List.map_set]
 rfl
theorem ZoY (k:IntKind)(m:Nat):nums k (List.replicate m 0)=dig k (List.replicate m 0):=by simp[dig]
def RetB (val:Nat->Value)(cs:Array Value)(T:TypeId)(w:World)(e:Ending)(w':World):Prop:=
 ∃b,e= .returned (val b)/\w.heap.size<=b/\Ext w w'/\w'.heap[b]? =some (.cells cs T (0,0))
section
variable {P : Program} {w0 : World} {n : Nat} {ops : Array Oper} {L L' : List Blk} {E : Env}
variable {Q : Exit -> Act -> World -> Prop} {rest : List Oper} {v : Value}
variable {d : Option Tmp} {ty : TypeId} {pos : String} {aft : Array Edge} {gd : Option (Nat × Bool)}
variable {T T' : TypeId} {x y : Operand} {t : Tmp} {k : IntKind}
theorem ZM {T0:TypeId}{b off:Nat}{ds:List Nat}{z:Nat}[hu:UndC P T (.int k)](hx:Env.ev E x=some (.pointer (some ⟨b,off,none⟩)))[hm:MemC b L (dig k ds) T0](hv:ds[off]? =some z):Yl P w0 n L E ⟨d, .load T x,ty,pos,aft,gd⟩ (.int k (z:Int)):=
 Zo1 hx (by simp[oneB,hu.out]) (by rw[Zf3,hv];rfl)
theorem Zed {T0:TypeId}{b off:Nat}{ds:List Nat}{z:Nat}{fz:Nat×Nat}[hu:UndC P T (.int k)](hx:Env.ev E x=some (.pointer (some ⟨b,off,none⟩)))(hm:w0.heap[b]? =some (.cells (dig k ds) T0 fz))(hv:ds[off]? =some z):Yl P w0 n L E ⟨d, .load T x,ty,pos,aft,gd⟩ (.int k (z:Int)):=
 ZeQ hx hm (ZD (by simp[oneB,hu.out]) (by rw[Zf3,hv];rfl))
theorem Z1 {T0:TypeId}{b off:Nat}{ds:List Nat}{z:Nat}(hx:Env.ev E x=some (.pointer (some ⟨b,off,none⟩)))(hy:Env.ev E y=some (.int k (z:Int)))[hk:SizeC P T 1][MemC b L (dig k ds) T0](hs:off<ds.length)[hu:UpdC b (dig k (ds.set off z)) L (dig k ds) T0 L']
  (hg:guardB ops E gd=some true) (h:JO P w0 n ops Q rest E L'):JO P w0 n ops Q (⟨none, .store T x y,ty,pos,aft,gd⟩::rest) E L:=
 ZbY (u:= .int k (z:Int)) 1 hx hy hu.out hk.out rfl (Nat.ble_eq_true_of_le (by rw[ZhO];omega)) (by simp[Value.cells,Value.oneCell']) ((ZeS k _ off z).trans (Zjf k ds off z)) hg rfl h
theorem Zbq {e:TypeId}{B:Nat}{m:Nat}[UndC P T (.slice e)][ZeroC P e (.int k 0) #[.int k 0]][SizeC P e 1][BytesC P e B](hx:Env.ev E x=some (.int .i64 m))(hy:Env.ev E y=some (.int .i64 m))(hm:B*m<=281474976710656/\m<=281474976710656)
  (hg:guardB ops E gd=some true) (hd:Nat.blt t n=true)
  (h:∀b,JO P w0 n ops Q rest ((t, .slice (some ⟨b,0,none⟩) m m)::E) (⟨b,dig k (List.replicate m 0),e⟩::L)):JO P w0 n ops Q (⟨some t, .makeSlice T x y,ty,pos,aft,gd⟩::rest) E L:=
 Zkj (k:=k) hx hy hm hg hd (by rw[ZoY];exact h)
theorem Zhi {S S2 e T1 T2:TypeId}{b1 l1 c1 b2 l2 c2:Nat}{xs ys:List Nat}[UndC P S (.slice e)][SizeC P e 1](hx:Env.ev E x=some (.slice (some ⟨b1,0,none⟩) l1 c1))(hy:Env.ev E y=some (.slice (some ⟨b2,0,none⟩) l2 c2))
  [h1':MemC b1 L (dig k xs) T1] [h2':MemC b2 L (dig k ys) T2] (h1:l1<=xs.length) (h2:l2<=ys.length) [hu:UpdC b1 (dig k (ys.take (min l2 l1)++xs.drop (min l2 l1))) L (dig k xs) T1 L']
  (hg:guardB ops E gd=some true) (hd:Nat.blt t n=true) (h:JO P w0 n ops Q rest ((t, .int .i64 ((min l2 l1:Nat):Int))::E) L'):JO P w0 n ops Q (⟨some t, .call ⟨.builtin .copy,#[x,y],#[S,S2]⟩,ty,pos,aft,gd⟩::rest) E L:=by
 haveI:MemC b1 L (nums k (xs.map Int.ofNat)) T1:=⟨h1'.out⟩
 haveI:MemC b2 L (nums k (ys.map Int.ofNat)) T2:=⟨h2'.out⟩
 haveI:UpdC b1 (nums k ((ys.map Int.ofNat).take (min l2 l1)++(xs.map Int.ofNat).drop (min l2 l1))) L (nums k (xs.map Int.ofNat)) T1 L':=⟨by
  have:=hu.out
  simp only[dig,List.map_append,List.map_take,List.map_drop] at this
  exact this⟩
 exact ZqO (k:=k) (xs:=xs.map Int.ofNat) (ys:=ys.map Int.ofNat) (T1:=T1) (T2:=T2) hx hy (by simpa using h1) (by simpa using h2) hg hd h
theorem ZeK {e s b l c:Nat}{i:Int}[h:UndC P T (.slice e)][hs:SizeC P e s](hx:Env.ev E x=some (.slice (some ⟨b,0,none⟩) l c))(hy:Env.ev E y=some (.int .i64 i))(hi:0<=i/\i<=c):
  Yl P w0 n L E ⟨d, .slice T x none (some y) none,ty,pos,aft,gd⟩ (.slice (some ⟨b,0,none⟩) i.toNat c):=
 Z4 (fun _=>Instr.sliceAt T (.slice (some ⟨b,0,none⟩) l c) none (some (.int .i64 i)) none) (fun a ha=>by simp only[execOp,ha.ev hx,Option.map_none,Option.map_some,ha.ev hy]) (fun a w _ _=>by
  simp[Instr.sliceAt,Instr.slice,run_underlying h.out,Instr.sliceBounds,Instr.sliceBound,asIntOf,hi.1,hi.2,Z5 hs.out,Addr.add])
theorem ZaC {f:FuncId}{xs:List Operand}{l:List Value}{ats:Array TypeId}{val:Nat->Value}{cs:Array Value}{Tb:TypeId}(hl:Env.evs E xs=some l)[hf:CallC P f](hc:∀w,Own w0 L w->Calls P f l.toArray w (RetB val cs Tb w))
  (hg:guardB ops E gd=some true) (hd:Nat.blt t n=true) (h:∀b,JO P w0 n ops Q rest ((t,val b)::E) (⟨b,cs,Tb⟩::L)):JO P w0 n ops Q (⟨some t, .call ⟨.value (.func f),xs.toArray,ats⟩,ty,pos,aft,gd⟩::rest) E L:=
 Zht (S:=Nat) (o:=⟨some t, .call ⟨.value (.func f),xs.toArray,ats⟩,ty,pos,aft,gd⟩) hg hd val (fun b=>⟨b,cs,Tb⟩::L) (fun _ _ ha=>ZbX hf.out ha hl)
  (fun w hw=>(hc w hw).mono fun _ _ ⟨b,he,hb,hx,hh⟩=>⟨b,he,hw.more hx hb hh⟩) h
theorem Zjh {w:World}{b:Nat}{cs:Array Value}{Tb:TypeId}{val:Nat->Value}(hw:Own w0 L w)[hm:MemC b L cs Tb]:RetB val cs Tb w0 (.returned (val b)) w:=⟨b,rfl,(hw.mem _ hm.out).1,hw.ext,(hw.mem _ hm.out).2⟩
end
end Go.Vt
namespace Go.Vt
open Go.RowKit
def RetO (v:Value)(w0:World)(L':List Blk)(e:Ending)(w':World):Prop:=e= .returned v/\Own w0 L' w'
section
variable {P : Program} {w0 : World} {n : Nat} {ops : Array Oper} {L L' : List Blk} {E : Env}
variable {Q : Exit -> Act -> World -> Prop} {rest : List Oper} {v : Value}
variable {ty : TypeId} {pos : String} {aft : Array Edge} {gd : Option (Nat × Bool)}
theorem ZrG {f:FuncId}{fn:Func}{c:Code}{l:List Value}{w:World}{R:Ending->World->Prop}(hw:Own w0 L w)(hf:P.funcs[f]? =some fn)(hb:fn.body=some c)(hn:fn.ntmps=n)(hl:Nat.ble l.length n=true)[hE:EnvC l E]
  (h:J P w0 n c (bodyPost P fn R) E L):Calls P f l.toArray w R:=by
 rw[<-hE.out] at h
 have hl':l.length<=n:=Nat.le_of_ble_eq_true hl
 refine calls_of_wp hf hb (h.out _ _ ⟨by simp[hn];omega,rfl,fun k v hk=>?_⟩ hw)
 obtain⟨_,h2⟩:=ZdH l 0 k v hk
 have hlt:k<l.length:=by
  rcases Nat.lt_or_ge k l.length with h'|h'
  ·exact h'
  ·simp[List.getElem?_eq_none h'] at h2
 simp only[Nat.sub_zero] at h2
 rw[Array.getElem?_append_left (by simpa using hlt)]
 simpa using h2
theorem ZqT {w:World}(hw:Own w0 L' w):RetO v w0 L' (.returned v) w:=⟨rfl,hw⟩
end
end Go.Vt
namespace Go.Vt
open Go.RowKit
section
variable {P : Program} {w0 : World} {n : Nat} {ops : Array Oper} {L L' Lw : List Blk} {E : Env}
variable {Q : Exit -> Act -> World -> Prop} {rest : List Oper} {v : Value} {Z : List Nat}
def Weak (w0:World)(Lw L:List Blk):Prop:=∀w,Own w0 L w->Own w0 Lw w
theorem Z8 (h:Lw.Sublist L):Weak w0 Lw L:=fun _ hw=>hw.sub h
theorem YieldsC.weak {o:Oper}{a:Act}(hy:YieldsC P w0 Lw ops o v a)(hw:Weak w0 Lw L):YieldsC P w0 L ops o v a:=hy.imp (fun h=>⟨h.1,fun w h'=>h.2 w (hw w h')⟩) id
def Hap (P:Program)(r:Result Next)(K:Value->World->Prop):Prop:=
 match r with
 | .ok (.value u) w'=>K u w'
 | .ok .skip w'=>K undef w'
 | .ok (.enter f args) w'=>Calls P f args w' fun e w''=>∃u,e= .returned u/\K u w''
 |_=>False
theorem Hap.mono {r:Result Next}{K K':Value->World->Prop}(h:Hap P r K)(hk:∀u w,K u w->K' u w):Hap P r K':=by
 cases r with
 |ok x w'=>
  cases x <;> simp only[Hap] at h⊢
  case value u=>exact hk _ _ h
  case skip=>exact hk _ _ h
  case enter f args=>exact h.mono fun e w'' ⟨u,he,hK⟩=>⟨u,he,hk _ _ hK⟩
 |halt x w'=>exact h
theorem Zgz {o:Oper}{a:Act}{w:World}{R:Act->World->Prop}(h:Hap P ((execOp a.eval o).run P w) fun u w'=>R (a.put o.dst u) w'):o.wp P a w R Q:=by
 unfold Oper.wp
 generalize (execOp a.eval o).run P w=r at*
 cases r with
 |ok x w'=>
  cases x <;> simp only[Hap] at h <;> simp only[Oper.upon]
  case value u=>exact h
  case skip=>exact h
  case enter f args=>exact h.mono fun e w'' ⟨u,he,hK⟩=>by subst he;exact hK
 |halt x w'=>simp only[Hap] at h
def Eff (P:Program)(w0:World)(Lw:List Blk)(ops:Array Oper)(L:List Blk)(o:Oper)(a:Act)(K:List Blk->Value->Prop):Prop:=
 Region.wanted o (yielded ops a.tmps)=true/\∀w,Own w0 L w->Hap P ((execOp a.eval o).run P w) fun u w'=>∃L',Own w0 L' w'/\Weak w0 Lw L'/\K L' u
theorem Eff.mono {o:Oper}{a:Act}{K K':List Blk->Value->Prop}(h:Eff P w0 Lw ops L o a K)(hk:∀L' u,Weak w0 Lw L'->K L' u->K' L' u):Eff P w0 Lw ops L o a K':=
 ⟨h.1,fun w hw=>(h.2 w hw).mono fun u w' ⟨L',h2,h3,h4⟩=>⟨L',h2,h3,hk _ _ h3 h4⟩⟩
def lwZ (Z:List Nat)(i:Nat)(Lw:List Blk):List Blk:=if Z.contains i then [] else Lw
def wpG (P:Program)(w0:World)(ops:Array Oper)(Z:List Nat)(Lw:List Blk)(F:List Blk->Act->Prop):Nat->Array Bool->List Nat->List Blk->Act->Prop
  |0,listed,es,L,a=>es=[]/\Region.ready .any ops listed=[]/\F L a
  | f + 1, listed, es, L, a => Region.ready .any ops listed ≠ [] /\ ∀ i ∈ Region.ready .any ops listed, ∃ o, ops[i]? = some o /\
      ((∃v,YieldsC P w0 L ops o v a/\wpG P w0 ops Z Lw F f (listed.setIfInBounds i true) es L (a.put o.dst v))\/
       ∃es',es=i::es'/\Eff P w0 (lwZ Z i Lw) ops L o a fun L' u=>wpG P w0 ops Z Lw F f (listed.setIfInBounds i true) es' L' (a.put o.dst u))
theorem Zd1 {i:Nat}{oi:Oper}{F:List Blk->Act->Prop}(hi:ops[i]? =some oi)(hsel:∀(j:Nat)(o:Oper) cs b,ops[j]? =some o->o.op≠ .select cs b)(hZ:∀z o,Z.contains z=true->ops[z]? =some o->∃e∈o.after,Region.binds .any e=true/\e.on=i):
  ∀(f:Nat)(listed:Array Bool)(es:List Nat)(L:List Blk)(a:Act),
   (∀j oj,ops[j]? =some oj->j≠i->listed.getD j true=false->(∀e∈oj.after,Region.binds .any e=true->e.on≠i)->oi.apart ops oj=true)->
   i∈Region.ready .any ops listed->YieldsC P w0 Lw ops oi v a->Weak w0 Lw L->
   wpG P w0 ops Z Lw F f (listed.setIfInBounds i true) es L (a.put oi.dst v)->wpG P w0 ops Z Lw F (f+1) listed es L a:=by
 intro f
 induction f with
 |zero=>
  intro listed es L a _ hr hy hw H
  refine⟨fun h=>(by rw[h] at hr;cases hr),fun j hj=>?_⟩
  by_cases hji:j=i
  ·subst hji
   exact⟨oi,hi, .inl ⟨v,hy.weak hw,H⟩⟩
  ·have:=ready_mono hj hji
   rw[H.2.1] at this
   cases this
 |succ f ih=>
  intro listed es L a hfree hr hy hw H
  have hun:=(mem_ready.1 hr).1
  refine⟨fun h=>(by rw[h] at hr;cases hr),fun j hj=>?_⟩
  by_cases hji:j=i
  ·subst hji
   exact⟨oi,hi, .inl ⟨v,hy.weak hw,H⟩⟩
  ·obtain⟨hjun,oj,hoj,hall⟩:=mem_ready.1 hj
   have hnot:∀e∈oj.after,Region.binds .any e=true->e.on≠i:=fun e he hb heq=>by
    have h1:=hall e he hb
    rw[heq,getD_both hun] at h1
    cases h1
   obtain⟨h1,h2,h3⟩:=Oper.apart_spec (hfree j oj hoj hji hjun hnot)
   have hfree':∀q oq,ops[q]? =some oq->q≠i->(listed.setIfInBounds j true).getD q true=false->
     (∀e∈oq.after,Region.binds .any e=true->e.on≠i)->oi.apart ops oq=true:=fun q oq hq hqi hun' hno=>by
    refine hfree q oq hq hqi ?_ hno
    by_cases hjq:j=q
    ·subst hjq;exact hjun
    ·rw[getD_set_ne true hjq] at hun';exact hun'
   have keep:∀u,YieldsC P w0 Lw ops oi v (a.put oj.dst u):=fun u=>hy.same (execOp_put oi (fun cs b=>hsel i oi cs b hi) a oj.dst u h3) (wanted_put oi a oj.dst u h3)
   have hex:execOp (a.put oi.dst v).eval oj=execOp a.eval oj:=execOp_put oj (fun cs b=>hsel j oj cs b hoj) a oi.dst v h1
   have hwa:Region.wanted oj (yielded ops (a.put oi.dst v).tmps)=Region.wanted oj (yielded ops a.tmps):=wanted_put oj a oi.dst v h1
   have step:∀es' L' u,Weak w0 Lw L'->wpG P w0 ops Z Lw F f ((listed.setIfInBounds i true).setIfInBounds j true) es' L' ((a.put oi.dst v).put oj.dst u)->wpG P w0 ops Z Lw F (f+1) (listed.setIfInBounds j true) es' L' (a.put oj.dst u):=fun es' L' u hw' hh=>by
    refine ih _ _ _ _ hfree' (ready_mono hr (Ne.symm hji)) (keep u) hw' ?_
    rw[Array.setIfInBounds_comm _ _ hji,<-Act.put_comm a v u h2]
    exact hh
   obtain⟨o,ho,hH⟩:=H.2 j (ready_mono hj hji)
   have:o=oj:=Option.some.inj (ho.symm.trans hoj)
   subst this
   refine⟨o,ho, ?_⟩
   rcases hH with⟨u,hu,hK⟩|⟨es',he,hE⟩
   ·exact .inl ⟨u,hu.same hex.symm hwa.symm,step _ _ _ hw hK⟩
   ·refine .inr ⟨es',he,hwa▸hE.1,fun w hw1=>?_⟩
    have hH:=hE.2 w hw1
    rw[hex] at hH
    have hz:lwZ Z j Lw=Lw:=by
     unfold lwZ
     split
     ·rename_i hc
      obtain⟨e,he1,he2,he3⟩:=hZ j o hc hoj
      exact absurd he3 (hnot e he1 he2)
     ·rfl
    exact hH.mono fun u w' ⟨L',h5,h6,h7⟩=>⟨L',h5,h6,step _ _ _ (hz▸h6) h7⟩
theorem Za2 {F:List Blk->Act->Prop}(hF:∀L a w,F L a->Own w0 L w->Q .normal a w):
  ∀(f:Nat)(listed:Array Bool)(es:List Nat)(L:List Blk)(a:Act)(w:World),Own w0 L w->wpG P w0 ops Z Lw F f listed es L a->wpAny P .any ops Q f listed a w
 |0,listed,es,L,a,w,hw,h=>⟨h.2.1,hF _ _ _ h.2.2 hw⟩
 |f+1,listed,es,L,a,w,hw,h=>by
  refine⟨fun h0=>absurd h0 h.1,fun i hi=>?_⟩
  obtain⟨o,ho,hH⟩:=h.2 i hi
  unfold wpOp
  simp only[ho]
  rcases hH with⟨v,hy,hK⟩|⟨es',_,hwt,hE⟩
  ·rcases hy with⟨hwt,hy⟩|⟨hwt,rfl⟩
   ·rw[if_pos hwt]
    exact .inl (Zcv (hy w hw) fun w' hx=>Za2 hF f _ _ _ _ _ (hw.to hx) hK)
   ·rw[if_neg (by rw[hwt];simp)]
    exact Za2 hF f _ _ _ _ _ hw hK
  ·rw[if_pos hwt]
   exact .inl (Zgz ((hE w hw).mono fun u w' ⟨L',hw',_,hK⟩=>Za2 hF f _ _ _ _ _ hw' hK))
def seqE (ops:Array Oper):List Nat->Array Bool->Bool
 |[],listed=>(Region.ready .any ops listed).isEmpty
 |i::es,listed=>decide (Region.ready .any ops listed=[i])&&seqE ops es (listed.setIfInBounds i true)
def lexG (ops:Array Oper)(es:List Nat):List Nat->Array Bool->Bool
 |[],listed=>seqE ops es listed
 |h::hs,listed=>(Region.ready .any ops listed).contains h&&Region.free .any ops listed h&&lexG ops es hs (listed.setIfInBounds h true)
def lateB (ops:Array Oper)(hs es:List Nat):Bool:=
 Region.noSelect ops&&decide (hs.length+es.length=ops.size)&&lexG ops es hs (Array.replicate ops.size false)
def EC (P:Program)(w0:World)(ops:Array Oper)(Z:List Nat)(Lw:List Blk)(F:List Blk->Act->Prop):List Nat->List Blk->Act->Prop
 |[],L,a=>F L a
 |i::es,L,a=>∃o,ops[i]? =some o/\Eff P w0 (lwZ Z i Lw) ops L o a fun L' u=>EC P w0 ops Z Lw F es L' (a.put o.dst u)
theorem Zd5 {F:List Blk->Act->Prop}:∀(es:List Nat)(listed:Array Bool)(L:List Blk)(a:Act),seqE ops es listed=true->EC P w0 ops Z Lw F es L a->wpG P w0 ops Z Lw F es.length listed es L a
 |[],listed,L,a,hB,h=>⟨rfl,by simpa [seqE] using hB,h⟩
 |i::es,listed,L,a,hB,h=>by
  simp only[seqE,Wq,decide_eq_true_eq] at hB
  refine⟨by rw[hB.1];simp,fun j hj=>?_⟩
  rw[hB.1] at hj
  have:j=i:=by simpa using hj
  subst this
  obtain⟨o,ho,hE⟩:=h
  exact⟨o,ho, .inr ⟨es,rfl,hE.mono fun L' u _ hK=>Zd5 es _ _ _ hB.2 hK⟩⟩
def picks (l:List Oper):List Nat->List Oper
 |[]=>[]
 |i::is=>match l[i]? with
  |some o=>o::picks l is
  |none=>[]
def zB (ops:Array Oper)(Z hs:List Nat):Bool:=Z.all fun z=>match ops[z]? with
 |some o=>hs.all fun h=>o.after.any fun e=>Region.binds .any e&&Nat.beq e.on h
 |none=>true
theorem ZjQ {Z hs:List Nat}(h:zB ops Z hs=true){i:Nat}(hi:i∈hs):∀z o,Z.contains z=true->ops[z]? =some o->∃e∈o.after,Region.binds .any e=true/\e.on=i:=fun z o hz ho=>by
 have h1:=List.all_eq_true.1 h z (by simpa using hz)
 simp only[ho] at h1
 have h2:=List.all_eq_true.1 h1 i hi
 obtain⟨e,he,h3⟩:=Array.any_eq_true'.1 h2
 simp only[Wq] at h3
 exact⟨e,he,h3.1,Nat.eq_of_beq_eq_true h3.2⟩
theorem ZgA {l:List Oper}{F:List Blk->Act->Prop}{es:List Nat}(hsel:Region.noSelect l.toArray=true)(hw:Weak w0 Lw L):∀(hs:List Nat)(listed:Array Bool)(a:Act),zB l.toArray Z hs=true->lexG l.toArray es hs listed=true->
  AH P w0 Lw l.toArray (EC P w0 l.toArray Z Lw F es L) (picks l hs) a->wpG P w0 l.toArray Z Lw F (hs.length+es.length) listed es L a
 |[],listed,a,_,hB,h=>by
  rw[Wx,Nat.zero_add]
  exact Zd5 es listed L a hB h
 |i::hs,listed,a,hz,hB,h=>by
  have hz':zB l.toArray Z hs=true:=by
   refine List.all_eq_true.2 fun z hzz=>?_
   have h1:=List.all_eq_true.1 hz z hzz
   cases ho:l.toArray[z]? with
   |none=>rfl
   |some o=>
    simp only[ho] at h1
    exact List.all_eq_true.2 fun x hx=>List.all_eq_true.1 h1 x (.tail _ hx)
  simp only[lexG,Wq] at hB
  obtain⟨⟨hr,hf⟩,hB'⟩:=hB
  have hr':i∈Region.ready .any l.toArray listed:=by simpa using hr
  obtain⟨_,o,ho,_⟩:=mem_ready.1 hr'
  have ho':l[i]? =some o:=by simpa using ho
  simp only[picks,ho',AH] at h
  obtain⟨v,hy,h⟩:=h
  rw[show(i::hs).length+es.length=(hs.length+es.length)+1 by simp only[Wu];omega]
  exact Zd1 ho (Region.noSelect_spec hsel) (ZjQ hz (.head _)) _ _ _ _ _ (Region.free_spec ho hf) hr' hy hw (ZgA hsel hw hs _ _ hz' hB' h)
def JE (P:Program)(w0:World)(n:Nat)(ops:Array Oper)(Lw:List Blk)(K:Env->List Blk->Prop):List Oper->Env->List Blk->Prop
 |[],E,L=>K E L
 |o::rest,E,L=>guardB ops E o.guard=some true/\dstOk n o.dst=true/\∃(S:Type)(val:S->Value)(mem:S->List Blk),
   (∀a w,Rep n E a->Own w0 L w->Hap P ((execOp a.eval o).run P w) fun u w'=>∃s,u=val s/\Own w0 (mem s) w')/\
   (∀s,Weak w0 Lw (mem s))/\∀s,JE P w0 n ops Lw K rest (Env.put E o.dst (val s)) (mem s)
theorem ZaL {l:List Oper}{Lj:List Blk}{K:Env->List Blk->Prop}{F:List Blk->Act->Prop}(hK:∀E L a,Rep n E a->K E L->F L a):∀(es:List Nat)(E:Env)(L:List Blk)(a:Act),es.all (fun i=>decide (i<l.length))=true->(∀i∈es,lwZ Z i Lw=Lj)->Rep n E a->
  JE P w0 n l.toArray Lj K (picks l es) E L->EC P w0 l.toArray Z Lw F es L a
 |[],E,L,a,_,_,ha,h=>hK E L a ha h
 |i::es,E,L,a,hi,hz,ha,h=>by
  simp only[List.all_cons,Wq,decide_eq_true_eq] at hi
  have ho:l[i]? =some l[i]:=List.getElem?_eq_getElem hi.1
  simp only[picks,ho] at h
  obtain⟨hg,hd,S,val,mem,hy,hw,h⟩:=h
  refine⟨l[i],by simp[hi.1],ZaO ha hg,fun w hw1=>?_⟩
  exact(hy a w ha hw1).mono fun u w' ⟨s,hu,hw'⟩=>⟨mem s,hw',by rw[hz i (.head _)];exact hw s,by subst hu;exact ZaL hK es _ _ _ hi.2 (fun j hj=>hz j (.tail _ hj)) (ha.put _ _ hd) (h s)⟩
theorem ZmC {F:List Blk->Act->Prop}(es2:List Nat):∀(es1:List Nat)(L:List Blk)(a:Act),EC P w0 ops Z Lw (fun L a=>EC P w0 ops Z Lw F es2 L a) es1 L a->EC P w0 ops Z Lw F (es1++es2) L a
 |[],_,_,h=>h
 |_::es1,_,_,⟨o,ho,h⟩=>⟨o,ho,h.mono fun _ _ _ hK=>ZmC es2 es1 _ _ hK⟩
theorem Zq8 {id:Nat}{l:List Oper}(hs es1 es2:List Nat)(Lw:List Blk)(hm:P.follows .mixedOrders=true:=by exact mixed)(hB:lateB l.toArray hs (es1++es2)=true:=by kernel_rfl)(hz:zB l.toArray es2 hs=true:=by kernel_rfl)(he1:es1.all (fun i=>decide (i<l.length)&& !es2.contains i)=true:=by decide)(he2:es2.all (fun i=>decide (i<l.length))=true:=by decide)(hL:Lw.Sublist L:=by first|exact Wj _|exact Wk _|exact sbl|(repeat(first|exact Wj _|exact Wk _|refine List.Sublist.cons_cons _ ?_|refine List.Sublist.cons _ ?_|refine List.Sublist.trans ?_ (List.sublist_append_right _ _))))
  (h:JH P w0 n Lw l.toArray (fun E'=>JE P w0 n l.toArray Lw (fun E1 L1=>JE P w0 n l.toArray [] (fun E2 L2=>JX w0 n .normal Q E2 L2) (picks l es2) E1 L1) (picks l es1) E' L) (picks l hs) E):J P w0 n (.region id l.toArray true) Q E L:=by
 refine⟨fun a w ha hw=>?_⟩
 simp only[lateB,Wq,decide_eq_true_eq] at hB
 obtain⟨⟨hsel,hlen⟩,hlex⟩:=hB
 refine wp_region_any hm ?_
 have hz1:∀i∈es1,lwZ es2 i Lw=Lw:=fun i hi=>by
  have h1:=List.all_eq_true.1 he1 i hi
  simp only[Wq,Bool.not_eq_true'] at h1
  unfold lwZ
  rw[h1.2]
  rfl
 have hz2:∀i∈es2,lwZ es2 i Lw=[]:=fun i hi=>by
  unfold lwZ
  rw[if_pos (by simpa using hi)]
 have he1':es1.all (fun i=>decide (i<l.length))=true:=List.all_eq_true.2 fun i hi=>by
  have h1:=List.all_eq_true.1 he1 i hi
  simp only[Wq] at h1
  exact h1.1
 have H:wpG P w0 l.toArray es2 Lw (fun L a=>∀w,Own w0 L w->Q .normal a w) (hs.length+(es1++es2).length) (Array.replicate l.toArray.size false) (es1++es2) L a:=
  ZgA hsel (Z8 hL) hs _ a hz hlex (Zbo (n:=n) (fun E' a' ha' hK=>ZmC es2 es1 L a' (ZaL (n:=n) (fun E1 L1 a1 ha1 h1=>ZaL (n:=n) (fun E2 L2 a2 ha2 hx w hw=>hx.out a2 w ha2 hw) es2 E1 L1 a1 he2 hz2 ha1 h1) es1 E' L a' he1' hz1 ha' hK)) _ _ _ ha h)
 have:=Za2 (P:=P) (Q:=Q) (fun L a w hF hw=>hF w hw) _ _ _ _ _ w.drew (hw.to (Ext.drew w)) H
 rw[hlen] at this
 exact this
theorem Zaq {id:Nat}{l:List Oper}(hs es:List Nat)(Lw:List Blk)(hm:P.follows .mixedOrders=true:=by exact mixed)(hB:lateB l.toArray hs es=true:=by kernel_rfl)(he:es.all (fun i=>decide (i<l.length))=true:=by decide)(hL:Lw.Sublist L:=by first|exact Wj _|exact Wk _|exact sbl|(repeat(first|exact Wj _|exact Wk _|refine List.Sublist.cons_cons _ ?_|refine List.Sublist.cons _ ?_|refine List.Sublist.trans ?_ (List.sublist_append_right _ _))))
  (h:JH P w0 n Lw l.toArray (fun E'=>JE P w0 n l.toArray Lw (fun E2 L2=>JX w0 n .normal Q E2 L2) (picks l es) E' L) (picks l hs) E):J P w0 n (.region id l.toArray true) Q E L:=
 Zq8 hs es [] Lw hm (by rw[Wh];exact hB) rfl (List.all_eq_true.2 fun i hi=>by
  have:=List.all_eq_true.1 he i hi
  simp only[List.contains_nil,Bool.not_false,Bool.and_true]
  exact this) rfl hL h
variable {K : Env -> List Blk -> Prop} {ty : TypeId} {pos : String} {aft : Array Edge} {gd : Option (Nat × Bool)} {t : Tmp}
theorem Zds {S:Type}{o:Oper}(hg:guardB ops E o.guard=some true)(hd:dstOk n o.dst=true)(val:S->Value)(mem:S->List Blk)
  (hy:∀a w,Rep n E a->Own w0 L w->∃s w',((execOp a.eval o).run P w= .ok (.value (val s)) w'\/((execOp a.eval o).run P w= .ok .skip w'/\val s=undef))/\Own w0 (mem s) w')
  (hw:∀s,Weak w0 Lw (mem s)) (h:∀s,JE P w0 n ops Lw K rest (Env.put E o.dst (val s)) (mem s)):JE P w0 n ops Lw K (o::rest) E L:=
 ⟨hg,hd,S,val,mem,fun a w ha hw=>by
  obtain⟨s,w',hr,ho⟩:=hy a w ha hw
  rcases hr with hr|⟨hr,hu⟩
  ·rw[hr];exact⟨s,rfl,ho⟩
  ·rw[hr];exact⟨s,hu.symm,ho⟩,hw,h⟩
theorem Zzh {S:Type}{o:Oper}{f:FuncId}{args:Array Value}(hg:guardB ops E o.guard=some true)(hd:dstOk n o.dst=true)(val:S->Value)(mem:S->List Blk)
  (hr:∀a w,Rep n E a->(execOp a.eval o).run P w= .ok (.enter f args) w) (hc:∀w,Own w0 L w->Calls P f args w fun e w'=>∃s,e= .returned (val s)/\Own w0 (mem s) w')
  (hw:∀s,Weak w0 Lw (mem s)) (h:∀s,JE P w0 n ops Lw K rest (Env.put E o.dst (val s)) (mem s)):JE P w0 n ops Lw K (o::rest) E L:=
 ⟨hg,hd,S,val,mem,fun a w ha hw=>by
  rw[hr a w ha]
  exact(hc w hw).mono fun e w' ⟨s,he,ho⟩=>⟨_,he,s,rfl,ho⟩,hw,h⟩
theorem Za0 (h:K E L):JE P w0 n ops Lw K [] E L:=h
theorem Zax {x:Operand}(hx:Env.ev E x=some v)(hg:guardB ops E gd=some true)(hd:Nat.blt t n=true)(hw:Lw.Sublist L)(h:JE P w0 n ops Lw K rest ((t,v)::E) L):JE P w0 n ops Lw K (⟨some t, .assign x,ty,pos,aft,gd⟩::rest) E L:=
 Zds (S:=Unit) (o:=⟨some t, .assign x,ty,pos,aft,gd⟩) hg hd (fun _=>v) (fun _=>L) (fun a w ha hw=>⟨(),w, .inl (by simp only[execOp,ha.ev hx,Sem.run_pure]),hw⟩) (fun _=>Z8 hw) (fun _=>h)
theorem ZdM {T T0:TypeId}{x y:Operand}{b off:Nat}{cs cs':Array Value}{u:Value}(k:Nat)(hx:Env.ev E x=some (.pointer (some ⟨b,off,none⟩)))(hy:Env.ev E y=some u)(hu:Upd b cs T0 cs' L L')
  (hk:(P.info? T).map (·.size)=some k) (hsz:u.cells.size=k) (hs:Nat.ble (off+k) cs.size=true) (h1:u.cells.all (·.oneCell')=true) (hc:spl cs off u.cells.toList=cs')
  (hg:guardB ops E gd=some true) (hw:Lw.Sublist L') (h:JE P w0 n ops Lw K rest E L'):JE P w0 n ops Lw K (⟨none, .store T x y,ty,pos,aft,gd⟩::rest) E L:=by
 refine Zds (S:=Unit) (o:=⟨none, .store T x y,ty,pos,aft,gd⟩) hg rfl (fun _=>undef) (fun _=>L') (fun a w ha hw=>?_) (fun _=>Z8 hw) (fun _=>h)
 have hb:=(hw.mem _ hu.mem).2
 have hs':=Nat.le_of_ble_eq_true hs
 obtain⟨w',hr,ht⟩:=ZaT (P:=P) (b:=b) (off:=off) u.cells.toList 0 cs w hb (by simp;omega) (fun q hq=>Array.all_eq_true_iff_forall_mem.1 h1 q (Array.mem_toList_iff.1 hq))
 rw[Nat.add_zero,hc] at ht
 refine⟨(),w', .inr ⟨?_,rfl⟩,hw.turn hu ht⟩
 simp[execOp,ha.ev hx,ha.ev hy,Instr.storeAt,Instr.sureAddr,storeVar,Z5 hk,hsz,hr]
theorem ZdR {T T0:TypeId}{x y:Operand}{b k:Nat}{cs cs':Array Value}(hx:Env.ev E x=some (.pointer (some ⟨b,0,none⟩)))(hy:Env.ev E y=some (.agg cs'))[hk:SizeC P T k][hc':CsC cs' k][hu:UpdC b cs' L cs T0 L'][hc:CsC cs k]
  (hg:guardB ops E gd=some true) (hw:Lw.Sublist L') (h:JE P w0 n ops Lw K rest E L'):JE P w0 n ops Lw K (⟨none, .store T x y,ty,pos,aft,gd⟩::rest) E L:=
 ZdM (u:= .agg cs') k hx hy hu.out hk.out hc'.size (by rw[hc.size,Nat.zero_add];exact Nat.ble_eq_true_of_le (Wl _)) hc'.one (Zjp (hc'.size.trans hc.size.symm)) hg hw h
theorem ZmN {T T0:TypeId}{x y:Operand}{b off:Nat}{k:IntKind}{ds:List Nat}{z:Nat}(hx:Env.ev E x=some (.pointer (some ⟨b,off,none⟩)))(hy:Env.ev E y=some (.int k (z:Int)))[hk:SizeC P T 1][MemC b L (dig k ds) T0](hs:off<ds.length)[hu:UpdC b (dig k (ds.set off z)) L (dig k ds) T0 L']
  (hg:guardB ops E gd=some true) (hw:Lw.Sublist L') (h:JE P w0 n ops Lw K rest E L'):JE P w0 n ops Lw K (⟨none, .store T x y,ty,pos,aft,gd⟩::rest) E L:=
 ZdM (u:= .int k (z:Int)) 1 hx hy hu.out hk.out rfl (Nat.ble_eq_true_of_le (by rw[ZhO];omega)) (by simp[Value.cells,Value.oneCell']) ((ZeS k _ off z).trans (Zjf k ds off z)) hg hw h
theorem ZlZ {T e:TypeId}{len:Nat}{ps:List (Nat×Operand)}{l:List (Nat×Value)}{cs:Array Value}(hp:Env.evp E ps=some l)[hb:BsC P T len l cs e](hg:guardB ops E gd=some true)(hd:Nat.blt t n=true)(hw:Lw.Sublist L)
  (h:∀b,JE P w0 n ops Lw K rest ((t, .slice (some ⟨b,0,none⟩) len len)::E) (⟨b,cs,e⟩::L)):JE P w0 n ops Lw K (⟨some t, .buildSlice T len ps.toArray,ty,pos,aft,gd⟩::rest) E L:=
 Zds (S:=Nat) (o:=⟨some t, .buildSlice T len ps.toArray,ty,pos,aft,gd⟩) hg hd (fun b=> .slice (some ⟨b,0,none⟩) len len) (fun b=>⟨b,cs,e⟩::L) (fun a w ha hw=>⟨w.heap.size,w.alloc (.cells cs e), .inl (by
   have h1:ps.toArray.map (fun(i,x)=>(i,a.eval x))=l.toArray:=by rw[<-ha.evp ps l hp];simp
   simp only[execOp,h1,Sem.run_bind,hb.out,Result.andThen,Sem.run_pure]),hw.alloc _ _⟩) (fun _=>Z8 (.cons _ hw)) h
end
structure Wr (Q:Prop):Prop where out:Q
theorem wkI {P Q:Prop}(k:Q)(h:Wr Q->P:=by intro hq;simp only[picks,List.getElem?_cons_succ,List.getElem?_cons_zero];exact hq.out):P:=h ⟨k⟩
end Go.Vt
namespace Go.Vt
open Go.RowKit
@[reducible] def cnd {α : Type} : Bool -> α -> α -> α
 |true,a,_=>a
 |false,_,b=>b
@[reducible] def look : Env -> Nat -> Option Value
 |[],_=>none
 |(k,v)::E,n=>cnd (Nat.beq k n) (some v) (look E n)
theorem Zgq :∀(E:Env)(n:Nat),look E n=Env.find E n
 |[],_=>rfl
 |(k,v)::E,n=>by
  have h:=Zgq E n
  simp only[look,Env.find]
  cases Nat.beq k n
  ·exact h
  ·rfl
@[reducible] def evl (E : Env) : Operand -> Option Value
 | .tmp t=>look E t
 | .const v=>some v
 | .global g=>some (.pointer (some ⟨g,0,none⟩))
 | .func f=>some (.func (.func f) #[] #[])
theorem ZbC (E:Env)(x:Operand):evl E x=Env.ev E x:=by
 cases x
 ·exact Zgq _ _
 all_goals rfl
@[reducible] def cons2 {α : Type} : Option α -> Option (List α) -> Option (List α)
 |some a,some l=>some (a::l)
 |some _,none=>none
 |none,_=>none
@[reducible] def evsl (E : Env) : List Operand -> Option (List Value)
 |[]=>some []
 |x::r=>cons2 (evl E x) (evsl E r)
theorem Zig (E:Env):∀l,evsl E l=Env.evs E l
 |[]=>rfl
 |x::r=>by
  simp only[evsl,Env.evs,ZbC,Zig E r]
  cases Env.ev E x <;> cases Env.evs E r <;> rfl
@[reducible] def tag (i : Nat) : Option Value -> Option (Nat × Value)
 |some v=>some (i,v)
 |none=>none
@[reducible] def evpl (E : Env) : List (Nat × Operand) -> Option (List (Nat × Value))
 |[]=>some []
 |(i,x)::r=>cons2 (tag i (evl E x)) (evpl E r)
theorem ZhY (E:Env):∀l,evpl E l=Env.evp E l
 |[]=>rfl
 |(i,x)::r=>by
  simp only[evpl,Env.evp,ZbC,ZhY E r]
  cases Env.ev E x <;> cases Env.evp E r <;> rfl
class IsC {α:Type}(o:Option α)(v:outParam α):Prop where out:o=some v
instance isC {α:Type}(v:α):IsC (some v) v:=⟨rfl⟩
class RfC (a:Bool)(b:outParam Bool):Prop where out:a=b
instance rfC (a:Bool):RfC a a:=⟨rfl⟩
class SblC (A B:List Blk):Prop where out:A.Sublist B
instance sblN (B:List Blk):SblC [] B:=⟨Wk _⟩
instance (priority :=high) sblC (e:Blk)(A B:List Blk)[h:SblC A B]:SblC (e::A) (e::B):=⟨h.out.cons_cons _⟩
instance (priority :=low) sblS (e:Blk)(A B:List Blk)[h:SblC A B]:SblC A (e::B):=⟨h.out.cons _⟩
theorem sbl {A B:List Blk}[h:SblC A B]:A.Sublist B:=h.out
class CutC {α:Type}(m:Nat)(l:List α)(a b:outParam (List α)):Prop where
 out:l=a++b
 len:a.length=m
instance cut0 {α:Type}(l:List α):CutC 0 l [] l:=⟨rfl,rfl⟩
instance cutS {α:Type}(m:Nat)(x:α)(l a b:List α)[h:CutC m l a b]:CutC (m+1) (x::l) (x::a) b:=⟨by rw[h.out];rfl,by rw[Wu,h.len]⟩
section
variable {P : Program} {w0 : World} {n : Nat} {ops : Array Oper} {L L' : List Blk} {E : Env}
variable {Q : Exit -> Act -> World -> Prop} {rest : List Oper} {v : Value}
variable {d : Option Tmp} {ty : TypeId} {pos : String} {aft : Array Edge} {gd : Option (Nat × Bool)} {t : Tmp}
theorem isE {x:Operand}[h:IsC (evl E x) v]:Env.ev E x=some v:=by rw[<-ZbC];exact h.out
theorem isS {l:List Operand}{vs:List Value}[h:IsC (evsl E l) vs]:Env.evs E l=some vs:=by rw[<-Zig];exact h.out
theorem isP {l:List (Nat×Operand)}{vs:List (Nat×Value)}[h:IsC (evpl E l) vs]:Env.evp E l=some vs:=by rw[<-ZhY];exact h.out
class YlC (P:Program)(w0:World)(n:Nat)(L:List Blk)(E:Env)(op:Op)(v:outParam Value):Prop where
 out:∀d ty pos aft gd,Yl P w0 n L E ⟨d,op,ty,pos,aft,gd⟩ v
class YsC (P:Program)(w0:World)(n:Nat)(L:List Blk)(E:Env)(op:Op)(v:outParam Value)(S:outParam Prop):Prop where
 out:S->∀d ty pos aft gd,Yl P w0 n L E ⟨d,op,ty,pos,aft,gd⟩ v
class YcC (P:Program)(w0:World)(n:Nat)(L:List Blk)(E:Env)(op:Op)(v:outParam Value)(S:outParam Prop):Prop where
 out:S->∀d ty pos aft gd,Yl P w0 n L E ⟨d,op,ty,pos,aft,gd⟩ v
class YwC (P:Program)(w0:World)(n:Nat)(L:List Blk)(E:Env)(op:Op)(v:outParam Value):Prop where
 out:∀d ty pos aft gd,Yl P w0 n L E ⟨d,op,ty,pos,aft,gd⟩ v
section
variable {x y : Operand}
instance ZAL [IsC (evl E x) v]:YlC P w0 n L E (.move x) v:=⟨fun _ _ _ _ _=>Zek isE⟩
instance ZwW [IsC (evl E x) v]:YlC P w0 n L E (.assign x) v:=⟨fun _ _ _ _ _=>Zl2 isE⟩
instance ZzS {T T0:TypeId}{b off:Nat}{cs:Array Value}[IsC (evl E x) (.pointer (some ⟨b,off,none⟩))][MemC b L cs T0][LdC P T cs off v]:YlC P w0 n L E (.load T x) v:=⟨fun _ _ _ _ _=>ZqY isE⟩
instance ZxI {T:TypeId}{f b o o':Nat}[IsC (evl E x) (.pointer (some ⟨b,o,none⟩))][FaO P T f o o']:YlC P w0 n L E (.fieldAddr T x f) (.pointer (some ⟨b,o',none⟩)):=⟨fun _ _ _ _ _=>Zn4 isE⟩
instance ZtG {vs:Array Value}{i:Nat}[IsC (evl E x) (.tuple vs)][NthC vs i v]:YlC P w0 n L E (.extract x i) v:=⟨fun _ _ _ _ _=>Zk1 isE⟩
instance ZBH {op:BinOp}{T T':TypeId}{vx vy:Value}[IsC (evl E x) vx][IsC (evl E y) vy][BinC P op T vx vy v]:YlC P w0 n L E (.binOp op T x y T') v:=⟨fun _ _ _ _ _=>ZsA isE isE⟩
instance ZCk {op:UnOp}{T:TypeId}{vx:Value}[IsC (evl E x) vx][UnC P op vx v]:YlC P w0 n L E (.unOp op T x) v:=⟨fun _ _ _ _ _=>ZtH isE⟩
instance ZyQ {T:TypeId}{ps:List (Nat×Operand)}{l:List (Nat×Value)}[IsC (evpl E ps) l][BdC P T l v]:YlC P w0 n L E (.build T ps.toArray) v:=⟨fun _ _ _ _ _=>Zow isP⟩
instance ZtC {S:TypeId}{s:ByteArray}[IsC (evl E x) (.string s)][UndC P S .string]:YlC P w0 n L E (.call ⟨.builtin .len,#[x],#[S]⟩) (.int .i64 s.size):=⟨fun _ _ _ _ _=>ZkQ isE⟩
instance Zc6 {S e:TypeId}{p:Option Addr}{l c:Nat}[IsC (evl E x) (.slice p l c)][UndC P S (.slice e)]:YlC P w0 n L E (.call ⟨.builtin .len,#[x],#[S]⟩) (.int .i64 l):=⟨fun _ _ _ _ _=>Zml isE⟩
variable {T T' : TypeId} {a b : Int}
section
variable [hx : IsC (evl E x) (.int .i64 a)] [hy : IsC (evl E y) (.int .i64 b)]
include hx hy
instance Zy9 :YsC P w0 n L E (.binOp .add T x y T') (.int .i64 (a+b)) (-9223372036854775808<=a+b/\a+b<=9223372036854775807):=⟨fun h _ _ _ _ _=>ZnJ isE isE h⟩
instance ZyL :YsC P w0 n L E (.binOp .sub T x y T') (.int .i64 (a-b)) (-9223372036854775808<=a-b/\a-b<=9223372036854775807):=⟨fun h _ _ _ _ _=>Zg6 isE isE h⟩
instance ZxN :YsC P w0 n L E (.binOp .mul T x y T') (.int .i64 (a*b)) (-9223372036854775808<=a*b/\a*b<=9223372036854775807):=⟨fun h _ _ _ _ _=>ZnG isE isE h⟩
instance Zye :YsC P w0 n L E (.binOp .quo T x y T') (.int .i64 (a / b)) (0<=a/\a<=9223372036854775807/\1<=b):=⟨fun h _ _ _ _ _=>Zpf isE isE h⟩
instance Zym :YsC P w0 n L E (.binOp .rem T x y T') (.int .i64 (a % b)) (0<=a/\1<=b):=⟨fun h _ _ _ _ _=>Zoq isE isE h⟩
end
section
variable [hx : IsC (evl E x) (.int .u64 a)] [hy : IsC (evl E y) (.int .u64 b)]
include hx hy
instance ZAE :YsC P w0 n L E (.binOp .add T x y T') (.int .u64 (a+b)) (0<=a+b/\a+b<=18446744073709551615):=⟨fun h _ _ _ _ _=>Zqd isE isE h⟩
end
instance Zz8 {S:TypeId}{k:IntKind}[IsC (evl E x) (.int k a)][UndC P S (.int k)][UndC P T (.int .i64)]:YsC P w0 n L E (.convert S T x) (.int .i64 a) (-9223372036854775808<=a/\a<=9223372036854775807):=⟨fun h _ _ _ _ _=>Zj6 isE h⟩
instance ZBX {S:TypeId}{k:IntKind}[IsC (evl E x) (.int k a)][UndC P S (.int k)][UndC P T (.int .u64)]:YsC P w0 n L E (.convert S T x) (.int .u64 a) (0<=a/\a<=18446744073709551615):=⟨fun h _ _ _ _ _=>ZfI isE h⟩
instance ZAu {S:TypeId}{k:IntKind}[IsC (evl E x) (.int k a)][UndC P S (.int k)][UndC P T (.int .u32)]:YsC P w0 n L E (.convert S T x) (.int .u32 a) (0<=a/\a<=4294967295):=⟨fun h _ _ _ _ _=>Zqb isE h⟩
instance ZBm {S:TypeId}{k:IntKind}[IsC (evl E x) (.int k a)][UndC P S (.int k)][UndC P T (.int .u8)]:YsC P w0 n L E (.convert S T x) (.int .u8 a) (0<=a/\a<=255):=⟨fun h _ _ _ _ _=>ZrL isE h⟩
instance ZsV {e s b off l c:Nat}{i:Int}[IsC (evl E x) (.slice (some ⟨b,off,none⟩) l c)][IsC (evl E y) (.int .i64 i)][UndC P T (.slice e)][SizeC P e s]:YsC P w0 n L E (.indexAddr T x y) (.pointer (some ⟨b,off+i.toNat*s,none⟩)) (0<=i/\i<l):=⟨fun h _ _ _ _ _=>ZiG isE isE h⟩
instance Zsm {N e s b off:Nat}{i:Int}[IsC (evl E x) (.pointer (some ⟨b,off,none⟩))][IsC (evl E y) (.int .i64 i)][UndC P T (.array N e)][SizeC P e s]:YsC P w0 n L E (.indexAddr T x y) (.pointer (some ⟨b,off+i.toNat*s,none⟩)) (0<=i/\i<N):=⟨fun h _ _ _ _ _=>Zhp isE isE h⟩
instance ZBG {op:BinOp}{vx vy:Value}[IsC (evl E x) vx][IsC (evl E y) vy][BinW P op T vx vy v]:YwC P w0 n L E (.binOp op T x y T') v:=⟨fun _ _ _ _ _=>ZqM isE isE⟩
instance ZCh {S:TypeId}{k k':IntKind}[IsC (evl E x) (.int k a)][UndC P S (.int k)][UndC P T (.int k')]:YwC P w0 n L E (.convert S T x) (.int k' (k'.wrap a)):=⟨fun _ _ _ _ _=>ZgQ isE⟩
instance ZAb {f:FuncId}{xs:List Operand}{l:List Value}{ats:Array TypeId}{pre:Prop}[CallC P f][IsC (evsl E xs) l][SpecC P f l v pre]:YcC P w0 n L E (.call ⟨.value (.func f),xs.toArray,ats⟩) v pre:=⟨fun h _ _ _ _ _=>ZqZ isS h⟩
instance (priority :=low) ZA5 {f:FuncId}{xs:List Operand}{l:List Value}{ats:Array TypeId}{pre:Prop}[IsC (evsl E xs) l][ExtC P f l v pre]:YcC P w0 n L E (.call ⟨.value (.func f),xs.toArray,ats⟩) v pre:=⟨fun h _ _ _ _ _=>Zr5 isS h⟩
end
section
variable {op : Op} {S : Prop}
theorem sX [h:YlC P w0 n L E op v](hg:guardB ops E gd=some true)(hd:Nat.blt t n=true)(k:JO P w0 n ops Q rest ((t,v)::E) L):JO P w0 n ops Q (⟨some t,op,ty,pos,aft,gd⟩::rest) E L:=jq (h.out _ _ _ _ _) hg hd k
theorem sS [h:YsC P w0 n L E op v S](hg:guardB ops E gd=some true)(hd:Nat.blt t n=true)(s:S)(k:JO P w0 n ops Q rest ((t,v)::E) L):JO P w0 n ops Q (⟨some t,op,ty,pos,aft,gd⟩::rest) E L:=jq (h.out s _ _ _ _ _) hg hd k
theorem sC [h:YcC P w0 n L E op v S](hg:guardB ops E gd=some true)(hd:Nat.blt t n=true)(s:S)(k:JO P w0 n ops Q rest ((t,v)::E) L):JO P w0 n ops Q (⟨some t,op,ty,pos,aft,gd⟩::rest) E L:=jq (h.out s _ _ _ _ _) hg hd k
theorem sW [h:YwC P w0 n L E op v](hg:guardB ops E gd=some true)(hd:Nat.blt t n=true)(k:JO P w0 n ops Q rest ((t,v)::E) L):JO P w0 n ops Q (⟨some t,op,ty,pos,aft,gd⟩::rest) E L:=jq (h.out _ _ _ _ _) hg hd k
theorem sK (hg:guardB ops E gd=some false)(hd:Nat.blt t n=true)(k:JO P w0 n ops Q rest ((t,undef)::E) L):JO P w0 n ops Q (⟨some t,op,ty,pos,aft,gd⟩::rest) E L:=Zqj hg hd k
variable {K : Env -> Prop}
theorem tX [h:YlC P w0 n L E op v](hg:guardB ops E gd=some true)(hd:Nat.blt t n=true)(k:JH P w0 n L ops K rest ((t,v)::E)):JH P w0 n L ops K (⟨some t,op,ty,pos,aft,gd⟩::rest) E:=hq (h.out _ _ _ _ _) hg hd k
theorem tS [h:YsC P w0 n L E op v S](hg:guardB ops E gd=some true)(hd:Nat.blt t n=true)(s:S)(k:JH P w0 n L ops K rest ((t,v)::E)):JH P w0 n L ops K (⟨some t,op,ty,pos,aft,gd⟩::rest) E:=hq (h.out s _ _ _ _ _) hg hd k
theorem tC [h:YcC P w0 n L E op v S](hg:guardB ops E gd=some true)(hd:Nat.blt t n=true)(s:S)(k:JH P w0 n L ops K rest ((t,v)::E)):JH P w0 n L ops K (⟨some t,op,ty,pos,aft,gd⟩::rest) E:=hq (h.out s _ _ _ _ _) hg hd k
theorem tK (hg:guardB ops E gd=some false)(hd:Nat.blt t n=true)(k:JH P w0 n L ops K rest ((t,undef)::E)):JH P w0 n L ops K (⟨some t,op,ty,pos,aft,gd⟩::rest) E:=Zqh hg hd k
end
class AlC (P:Program)(E:Env)(op:Op)(cs:outParam (Array Value))(T:outParam TypeId):Prop where
 out:∀{w0:World} {n:Nat} {ops:Array Oper} {L:List Blk} {Q:Exit->Act->World->Prop} {rest:List Oper} {t:Tmp} {ty:TypeId} {pos:String} {aft:Array Edge} {gd:Option (Nat×Bool)},guardB ops E gd=some true->Nat.blt t n=true->
  (∀b,JO P w0 n ops Q rest ((t, .pointer (some ⟨b,0,none⟩))::E) (⟨b,cs,T⟩::L))->JO P w0 n ops Q (⟨some t,op,ty,pos,aft,gd⟩::rest) E L
instance Zxg {T:TypeId}{z:Value}{cs:Array Value}[hz:ZeroC P T z cs]:AlC P E (.alloc T) cs T:=⟨fun hg hd h=>ZnC hg hd h⟩
instance ZBA {T:TypeId}{x:Operand}{cs:Array Value}[h:IsC (evl E x) (.agg cs)]:AlC P E (.box T x) cs T:=⟨fun hg hd h=>Zss isE hg hd h⟩
theorem sA {op:Op}{cs:Array Value}{T:TypeId}[h:AlC P E op cs T](hg:guardB ops E gd=some true)(hd:Nat.blt t n=true)(k:∀b,JO P w0 n ops Q rest ((t, .pointer (some ⟨b,0,none⟩))::E) (⟨b,cs,T⟩::L)):JO P w0 n ops Q (⟨some t,op,ty,pos,aft,gd⟩::rest) E L:=h.out hg hd k
theorem sT {T T0:TypeId}{x y:Operand}{b k:Nat}{cs cs':Array Value}[hx:IsC (evl E x) (.pointer (some ⟨b,0,none⟩))][hy:IsC (evl E y) (.agg cs')][hk:SizeC P T k][hc':CsC cs' k][hu:UpdC b cs' L cs T0 L'][hc:CsC cs k]
  (hg:guardB ops E gd=some true) (h:JO P w0 n ops Q rest E L'):JO P w0 n ops Q (⟨none, .store T x y,ty,pos,aft,gd⟩::rest) E L:=Zoa isE isE hg h
section
variable {K : Env -> List Blk -> Prop} {Lw : List Blk}
theorem eA {T:TypeId}{z:Value}{cs:Array Value}[hz:ZeroC P T z cs](hg:guardB ops E gd=some true)(hd:Nat.blt t n=true)[hw:SblC Lw L](h:∀b,JE P w0 n ops Lw K rest ((t, .pointer (some ⟨b,0,none⟩))::E) (⟨b,cs,T⟩::L)):JE P w0 n ops Lw K (⟨some t, .alloc T,ty,pos,aft,gd⟩::rest) E L:=by
 have hz':=hz.out
 cases hi:P.info? T with
 |none=>simp[hi] at hz'
 |some i=>
  have hz2:i.zero=some z:=by simpa [hi] using hz'
  exact Zds (S:=Nat) (o:=⟨some t, .alloc T,ty,pos,aft,gd⟩) hg hd (fun b=> .pointer (some ⟨b,0,none⟩)) (fun b=>⟨b,cs,T⟩::L) (fun a w ha hw=>⟨w.heap.size,w.alloc (.cells z.cells T), .inl (by simp[execOp,Instr.alloc,zeroValue,typeInfo,hi,hz2,newVar,newRow]),by rw[hz.cells];exact hw.alloc _ _⟩) (fun _=>Z8 (.cons _ hw.out)) h
theorem eS {x:Operand}[hx:IsC (evl E x) v](hg:guardB ops E gd=some true)(hd:Nat.blt t n=true)[hw:SblC Lw L](h:JE P w0 n ops Lw K rest ((t,v)::E) L):JE P w0 n ops Lw K (⟨some t, .assign x,ty,pos,aft,gd⟩::rest) E L:=Zax isE hg hd hw.out h
theorem eT {T T0:TypeId}{x y:Operand}{b k:Nat}{cs cs':Array Value}[hx:IsC (evl E x) (.pointer (some ⟨b,0,none⟩))][hy:IsC (evl E y) (.agg cs')][hk:SizeC P T k][hc':CsC cs' k][hu:UpdC b cs' L cs T0 L'][hc:CsC cs k]
  (hg:guardB ops E gd=some true) [hw:SblC Lw L'] (h:JE P w0 n ops Lw K rest E L'):JE P w0 n ops Lw K (⟨none, .store T x y,ty,pos,aft,gd⟩::rest) E L:=ZdR isE isE hg hw.out h
end
class Nx (G:Prop)(H:outParam Prop):Prop where out:H->G
theorem cX {G H:Prop}[h:Nx G H](k:H):G:=h.out k
class Ny (G:Prop)(H:outParam Prop):Prop where out:H->G
theorem cY {G H:Prop}[h:Ny G H](k:H):G:=h.out k
section
variable {x y c : Code} {id j : Nat} {l : List Oper}
instance ZAZ :Nx (J P w0 n (.seq x y) Q E L) (J P w0 n x (Then P y Q) E L):=⟨Zc2⟩
instance ZwL :Nx (J P w0 n (.region id l.toArray false) Q E L) (JO P w0 n l.toArray Q l E L):=⟨ZdQ⟩
instance ZBV :Nx (J P w0 n .ret Q E L) (JX w0 n .ret Q E L):=⟨ZuX⟩
instance ZxX :Nx (J P w0 n (.block id c) Q E L) (J P w0 n c (Exit.inBlock id Q) E L):=⟨Zqe⟩
instance ZAS :Nx (J P w0 n .skip Q E L) (JX w0 n .normal Q E L):=⟨ZrU⟩
instance Zzj :Nx (J P w0 n (.exit id) Q E L) (JX w0 n (.exit id) Q E L):=⟨ZrE⟩
instance ZB3 :Ny (JO P w0 n ops Q [] E L) (JX w0 n .normal Q E L):=⟨ZsJ⟩
instance ZzP :Ny (JX w0 n .normal (Then P y Q) E L) (J P w0 n y Q E L):=⟨Zi9⟩
instance Zto :Ny (JX w0 n .ret (Then P y Q) E L) (JX w0 n .ret Q E L):=⟨Zi4⟩
instance Zrm :Ny (JX w0 n (.exit id) (Then P y Q) E L) (JX w0 n (.exit id) Q E L):=⟨Zg5⟩
instance ZxJ :Ny (JX w0 n .normal (Exit.inBlock id Q) E L) (JX w0 n .normal Q E L):=⟨ZoU⟩
instance Zsd :Ny (JX w0 n .ret (Exit.inBlock id Q) E L) (JX w0 n .ret Q E L):=⟨ZhQ⟩
instance (priority :=high) Zrg:Ny (JX w0 n (.exit id) (Exit.inBlock id Q) E L) (JX w0 n .normal Q E L):=⟨ZgN⟩
instance (priority :=low) Zrf [h:RfC (Nat.beq j id) false]:Ny (JX w0 n (.exit j) (Exit.inBlock id Q) E L) (JX w0 n (.exit j) Q E L):=⟨ZgP h.out⟩
section
variable {S : Type} {I : S -> Prop} {Es : S -> Env} {Ls : S -> List Blk} {mu : S -> Nat} {s : S} {K : Act -> World -> Prop}
instance Zuy :Ny (JX w0 n .ret (MidQ w0 n I Es Ls K Q) E L) (JX w0 n .ret Q E L):=⟨ZkK⟩
instance Ztr :Ny (JX w0 n (.exit id) (MidQ w0 n I Es Ls K Q) E L) (JX w0 n (.exit id) Q E L):=⟨ZiO⟩
instance Ztq :Ny (JX w0 n .ret (LoopQ w0 n I Es Ls mu s Q) E L) (JX w0 n .ret Q E L):=⟨ZiS⟩
instance ZsE :Ny (JX w0 n (.exit id) (LoopQ w0 n I Es Ls mu s Q) E L) (JX w0 n (.exit id) Q E L):=⟨Zg2⟩
end
theorem jD {b l1 l2 l3:List Oper}(m k:Nat)(hm:P.follows .mixedOrders=true:=by exact mixed)(hB:headB P n l.toArray m k=true:=by kernel_rfl)[h1:CutC k l b l3][h2:CutC m b l1 l2]
  (h:JH P w0 n L l.toArray (fun E'=>JN P n (fun E2 L2=>JO P w0 n l.toArray Q l3 E2 L2) l2 E' L) l1 E):J P w0 n (.region id l.toArray true) Q E L:=by
 refine Zsi m k hm hB ?_
 have e1:l.take k=b:=by rw[h1.out,List.take_append_of_le_length (Nat.le_of_eq h1.len.symm),List.take_of_length_le (Nat.le_of_eq h1.len)]
 have e2:l.drop k=l3:=by rw[h1.out,<-h1.len,List.drop_left]
 have e3:l.take m=l1:=by
  rw[h1.out,h2.out,List.append_assoc,List.take_append_of_le_length (Nat.le_of_eq h2.len.symm),List.take_of_length_le (Nat.le_of_eq h2.len)]
 have e4:b.drop m=l2:=by rw[h2.out,<-h2.len,List.drop_left]
 rw[e1,e2,e3,e4]
 exact h
end
end
theorem wkA {P Q:Prop}(k:Q)(h:Wr Q->P:=by intro hq;(first|refine sX rfl rfl ?_|(refine sS rfl rfl ?_ ?_;focus omega)|(refine sC rfl rfl ?_ ?_;focus(first|exact trivial|assumption|constructor <;> assumption|exact mb2 rfl rfl|exact mb4 rfl rfl rfl rfl))|refine cX ?_|refine cY ?_|(refine sA rfl rfl ?_)|refine sT rfl ?_|refine sW rfl rfl ?_|refine sK rfl rfl ?_|refine Zit rfl ?_|refine Zdr rfl ?_|refine pkT rfl rfl rfl rfl ?_|refine pkF rfl rfl rfl rfl ?_);(repeat(first|refine sX rfl rfl ?_|(refine sS rfl rfl ?_ ?_;focus omega)|(refine sC rfl rfl ?_ ?_;focus(first|exact trivial|assumption|constructor <;> assumption|exact mb2 rfl rfl|exact mb4 rfl rfl rfl rfl))|refine cX ?_|refine cY ?_|(refine sA rfl rfl ?_)|refine sT rfl ?_|refine sW rfl rfl ?_|refine sK rfl rfl ?_|refine Zit rfl ?_|refine Zdr rfl ?_|refine pkT rfl rfl rfl rfl ?_|refine pkF rfl rfl rfl rfl ?_));exact hq.out):P:=h ⟨k⟩
theorem wkH {P Q:Prop}(k:Q)(h:Wr Q->P:=by intro hq;(first|refine tX rfl rfl ?_|(refine tS rfl rfl ?_ ?_;focus omega)|(refine tC rfl rfl ?_ ?_;focus(first|exact trivial|assumption|constructor <;> assumption|exact mb2 rfl rfl|exact mb4 rfl rfl rfl rfl))|refine tW rfl rfl ?_|refine tK rfl rfl ?_|refine Go.Vt.hq (ZcD rfl rfl) rfl rfl ?_|refine Go.Vt.hq (ZcF rfl rfl) rfl rfl ?_);(repeat(first|refine tX rfl rfl ?_|(refine tS rfl rfl ?_ ?_;focus omega)|(refine tC rfl rfl ?_ ?_;focus(first|exact trivial|assumption|constructor <;> assumption|exact mb2 rfl rfl|exact mb4 rfl rfl rfl rfl))|refine tW rfl rfl ?_|refine tK rfl rfl ?_|refine Go.Vt.hq (ZcD rfl rfl) rfl rfl ?_|refine Go.Vt.hq (ZcF rfl rfl) rfl rfl ?_));exact hq.out):P:=h ⟨k⟩
end Go.Vt
