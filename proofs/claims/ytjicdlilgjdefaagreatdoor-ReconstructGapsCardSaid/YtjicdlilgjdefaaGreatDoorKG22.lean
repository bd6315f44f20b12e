/- that the gaps between reports are those of the chain (part 22 of 32.) Conditions: those that each statement names. -/
import Derived.Test.YtjicdlilgjdefaaGreatDoorKG18
import Derived.Test.YtjicdlilgjdefaaGreatDoorKG21
set_option linter.unusedSimpArgs false
set_option linter.unusedVariables false
set_option maxHeartbeats 2000000
set_option maxRecDepth 100000
namespace Go.Vt
open Go.RowKit Go.Proofs
open Go.Proofs.Tryz (prog)
section
structure FlS {α:Type}(enc:α->Array Value)(k:Nat)(xs:List α) where
 s:Option (Nat×Nat×List Value)
 nil:s=none->xs=[]
 ok:∀t,s=some t->xs.length<=t.2.1/\t.2.2.length=(t.2.1-xs.length)*k
section
variable {α : Type} {enc : α -> Array Value} {k : Nat} {xs : List α}
def vF (s:FlS enc k xs):Value:=vO xs.length s.s
def mF (T:TypeId)(s:FlS enc k xs):List Blk:=mO enc T xs s.s
theorem FlS.cases (T:TypeId)(s:FlS enc k xs):(xs=[]/\vF s= .slice none 0 0/\mF T s=[])\/∃b c sp,(xs.length<=c/\sp.length=(c-xs.length)*k)/\vF s= .slice (some ⟨b,0,none⟩) xs.length c/\mF T s=[⟨b,row enc xs sp,T⟩]:=by
 obtain⟨s,h1,h2⟩:=s
 cases s with
 |none=>
  have h0:=h1 rfl
  subst h0
  exact .inl ⟨rfl,rfl,rfl⟩
 |some t=>exact .inr ⟨t.1,t.2.1,t.2.2,h2 t rfl,rfl,rfl⟩
theorem SlS.fl {ys:List α}(s:SlS enc k xs)(h:xs=ys):∃s':FlS enc k ys,vF s'=vSl s/\∀T,mF T s'=mS T s:=by
 subst h
 exact⟨⟨s.s,s.nil.1,s.ok⟩,rfl,fun _=>rfl⟩
end
section
variable {P : Program} {w0 : World} {n : Nat} {ops : Array Oper} {L L1 : List Blk} {E : Env}
variable {Q : Exit -> Act -> World -> Prop} {rest : List Oper}
variable {ty : TypeId} {pos : String} {aft : Array Edge} {gd : Option (Nat × Bool)} {t : Tmp} {x y : Operand}
instance ZCg {α:Type}{enc:α->Array Value}{k:Nat}{xs:List α}{S e:TypeId}{s:FlS enc k xs}[hx:IsC (evl E x) (vF s)][hu:UndC P S (.slice e)]:YlC P w0 n L E (.call ⟨.builtin .len,#[x],#[S]⟩) (.int .i64 xs.length):=⟨fun d ty pos aft gd=>by
 rcases s.cases 0 with⟨rfl,hv, -⟩|⟨b,c,sp,h1,hv, -⟩
 ·have:IsC (evl E x) (.slice none 0 0):=⟨by rw[hx.out,hv]⟩
  exact(Zem (P:=P) (w0:=w0) (n:=n) (L:=L) (E:=E) (x:=x) (S:=S) (e:=e) (p:=none) (l:=0) (c:=0)).out d ty pos aft gd
 ·have:IsC (evl E x) (.slice (some ⟨b,0,none⟩) xs.length c):=⟨by rw[hx.out,hv]⟩
  exact(Zem (P:=P) (w0:=w0) (n:=n) (L:=L) (E:=E) (x:=x) (S:=S) (e:=e) (p:=some ⟨b,0,none⟩) (l:=xs.length) (c:=c)).out d ty pos aft gd⟩
instance ZCc {e s b l c i:Nat}{z1:Operand}[IsC (evl E x) (.slice (some ⟨b,0,none⟩) l c)][hy:IsC (evl E z1) (.int .i64 (i:Nat))]{T:TypeId}[h:UndC P T (.slice e)][hs:SizeC P e s]:YsC P w0 n L E (.slice T x (some z1) none none) (.slice (some ⟨b,i*s,none⟩) (l-i) (c-i)) (i<=l/\l<=c/\i<c):=⟨fun hi d ty pos aft gd=>
 ZaC (fun _=>Instr.sliceAt T (.slice (some ⟨b,0,none⟩) l c) (some (.int .i64 (i:Nat))) none none) (fun a ha=>by simp only[execOp,ha.ev (isE (x:=x)),Option.map_none,Option.map_some,ha.ev (isE (x:=z1))]) (fun a w _ _=>by
  have h3:¬c=i:=by omega
  simp[Instr.sliceAt,Instr.slice,run_underlying h.out,Instr.sliceBounds,Instr.sliceBound,asIntOf,ZaF hs.out,hi.1,hi.2.1,h3,ZaG])⟩
instance ZzO {e s b l c i:Nat}{z1:Operand}[IsC (evl E x) (.slice (some ⟨b,0,none⟩) l c)][hy:IsC (evl E z1) (.int .i64 (i:Nat))]{T:TypeId}[h:UndC P T (.slice e)][hs:SizeC P e s]:YsC P w0 n L E (.slice T x none (some z1) none) (.slice (some ⟨b,0,none⟩) i c) (i<=c/\l<=c/\0<c):=⟨fun hi d ty pos aft gd=>
 ZaC (fun _=>Instr.sliceAt T (.slice (some ⟨b,0,none⟩) l c) none (some (.int .i64 (i:Nat))) none) (fun a ha=>by simp only[execOp,ha.ev (isE (x:=x)),Option.map_none,Option.map_some,ha.ev (isE (x:=z1))]) (fun a w _ _=>by
  have h3:¬c=0:=by omega
  simp[Instr.sliceAt,Instr.slice,run_underlying h.out,Instr.sliceBounds,Instr.sliceBound,asIntOf,ZaF hs.out,hi.1,hi.2.1,h3,ZaG])⟩
theorem Zjk {zc:Array Value}{m:Nat}(h1:zc.all (·.oneCell')=true):∀u∈(Builtin.zeroCells zc m).toList,u.oneCell'=true:=fun u hu=>by
 simp only[Builtin.zeroCells,Array.toList_map,List.mem_map] at hu
 obtain⟨i,hi,rfl⟩:=hu
 have hlt:i<m*zc.size:=by simpa using hi
 have h0:0<zc.size:=by
  rcases Nat.eq_zero_or_pos zc.size with h|h
  ·rw[h,Nat.mul_zero] at hlt;cases hlt
  ·exact h
 have hm:i % zc.size<zc.size:=Nat.mod_lt _ h0
 rw[getElem!_pos zc _ hm]
 exact Array.all_eq_true_iff_forall_mem.1 h1 _ (Array.getElem_mem hm)
theorem sClr {α:Type}{enc:α->Array Value}{S T:TypeId}{b c2 i m k:Nat}{ys:List α}{sp:List Value}{z:Value}{zc:Array Value}
  [hx:IsC (evl E x) (.slice (some ⟨b,i*k,none⟩) m c2)] [hd:DelC b L (row enc ys sp) T L1] [hT:UndC P S (.slice T)] [hz:ZeroC P T z zc] [he:EncC enc k]
  (hg:guardB ops E gd=some true) (hm:i+m=ys.length) (hm0:0<m) (hzk:zc.size=k) (hz1:zc.all (·.oneCell')=true)
  (h:∀zs:List Value,zs.length=m*k->JO P w0 n ops Q rest E (⟨b,row enc (ys.take i) (zs++sp),T⟩::L1)):JO P w0 n ops Q (⟨none, .call ⟨.builtin .clear,#[x],#[S]⟩,ty,pos,aft,gd⟩::rest) E L:=by
 refine Zcs (L':={zs:List Value // zs.length=m*k}) (o:=⟨none, .call ⟨.builtin .clear,#[x],#[S]⟩,ty,pos,aft,gd⟩) hg rfl (fun _=> .tuple #[]) (fun s=>⟨b,row enc (ys.take i) (s.1++sp),T⟩::L1) (fun a w ha hw=>?_) (fun s=>h s.1 s.2)
 have hwp:=hw.perm hd.out
 have hb:=(hwp.mem _ (.head _)).2
 have hzs:(Builtin.zeroCells z.cells m).toList.length=m*k:=by rw[Array.length_toList,size_zeroCells,hz.cells,hzk]
 have hrl:=Z9 (enc:=enc) (k:=k) ys
 have hrt:=Z9 (enc:=enc) (k:=k) (ys.take i)
 have htl:(ys.take i).length=i:=by rw[Wt];omega
 rw[htl] at hrt
 have hmk:ys.length*k=i*k+m*k:=by rw[<-hm,Nat.add_mul]
 have hsz:(row enc ys sp).size=ys.length*k+sp.length:=by simp[row,hrl]
 obtain⟨w',hr,ht⟩:=ZbE (P:=P) (b:=b) (off:=i*k) (Builtin.zeroCells z.cells m).toList 0 _ w hb (by rw[hsz,hzs];omega) (Zjk (by rw[hz.cells];exact hz1))
 have hspl:spl (row enc ys sp) (i*k+0) (Builtin.zeroCells z.cells m).toList=row enc (ys.take i) ((Builtin.zeroCells z.cells m).toList++sp):=by
  apply Array.ext_getElem?
  intro j
  rw[Zdg _ _ _ _ (by rw[hsz,hzs];omega),Nat.add_zero,hzs]
  have hall:(rowL enc ys)=rowL enc (ys.take i)++rowL enc (ys.drop i):=by rw[<-Zbf,List.take_append_drop]
  simp only[row,List.getElem?_toArray]
  split
  ·rename_i hj
   rw[List.getElem?_append_right (by omega),hrt,List.getElem?_append_left (by rw[hzs];omega)]
  ·rename_i hj
   rcases Nat.lt_or_ge j (i*k) with h1|h1
   ·rw[hall,List.append_assoc,List.getElem?_append_left (by omega),List.getElem?_append_left (by omega)]
   ·rw[List.getElem?_append_right (by omega),List.getElem?_append_right (by omega),hrl,hrt,List.getElem?_append_right (by rw[hzs];omega),hzs]
    congr 1
    omega
 rw[hspl] at ht
 refine⟨⟨_,hzs⟩,w', .inl ?_,hwp.turn .here ht⟩
 have h1:(#[x]:Array Operand).map a.eval=#[.slice (some ⟨b,i*k,none⟩) m c2]:=by simp[ha.ev (isE (x:=x))]
 obtain⟨m',rfl⟩:∃m',m=m'+1:=⟨m-1,by omega⟩
 have hr':(Builtin.clear_ #[S] ty #[.slice (some ⟨b,i*k,none⟩) (m'+1) c2]).run P w= .ok (.tuple #[]) w':=by
  obtain⟨ti,hti,hz0⟩:∃i,P.info? T=some i/\i.zero=some z:=Option.bind_eq_some_iff.1 hz.out
  simp[Builtin.clear_,run_underlying hT.out,zeroValue,typeInfo,hti,hz0,hr,Result.andThen]
 have h2:∀cs:Array Bool,(builtin .clear #[S] ty cs #[.slice (some ⟨b,i*k,none⟩) (m'+1) c2]).run P w= .ok (.value (.tuple #[])) w':=fun cs=>by
  show Sem.run P (do pure (Next.value (<-Builtin.clear_ #[S] ty #[.slice (some ⟨b,i*k,none⟩) (m'+1) c2])):Sem Next) w=_
  rw[Sem.run_bind,hr']
  rfl
 simp only[execOp,resolve,h1,Sem.run_bind,Sem.run_pure,Result.andThen,invoke]
 exact h2 _
end
theorem ZnA {α:Type}[Inhabited α](p:α->Bool)(xs:List α):(idxP p xs= -1/\∀x∈xs,p x=false)\/∃m:Nat,m<xs.length/\idxP p xs=m/\p (gi xs (m:Int))=true/\∀j:Nat,j<m->p (gi xs (j:Int))=false:=by
 cases h:xs.any p
 ·refine .inl ⟨?_,fun x hx=>?_⟩
  ·unfold idxP
   rw[if_neg (by rw[h];decide)]
  ·cases hp:p x
   ·rfl
   ·have:=List.any_eq_true.2 ⟨x,hx,hp⟩
    rw[h] at this
    cases this
 ·have hlt:xs.findIdx p<xs.length:=List.findIdx_lt_length_of_exists (by simpa using List.any_eq_true.1 h)
  refine .inr ⟨xs.findIdx p,hlt,by unfold idxP;rw[if_pos h], ?_,fun j hj=>?_⟩
  ·rw[Zj hlt]
   exact List.findIdx_getElem
  ·rw[Zj (by omega)]
   simpa using List.not_of_lt_findIdx hj
structure DelI {α:Type}[Inhabited α](p:α->Bool)(rs:List α)(i j:Nat)(ys:List α):Prop where
 ij:i<j
 jn:j<=rs.length
 len:ys.length=rs.length
 tk:ys.take i=(rs.take j).filter p
 eq:∀k:Nat,j<=k->k<rs.length->gi ys (k:Int)=gi rs (k:Int)
theorem ZgH {α:Type}[Inhabited α]{p:α->Bool}{rs:List α}:∀{m:Nat},m<=rs.length->(∀j:Nat,j<m->p (gi rs (j:Int))=true)->(rs.take m).filter p=rs.take m
 |m,hm,h=>List.filter_eq_self.2 fun x hx=>by
  obtain⟨j,hj,rfl⟩:=List.getElem_of_mem hx
  rw[Wt] at hj
  have:=h j (by omega)
  rw[Zj (by omega)] at this
  simpa using this
theorem DelI.start {α:Type}[Inhabited α]{p:α->Bool}{rs:List α}{m:Nat}(hm:m<rs.length)(h0:p (gi rs (m:Int))=false)(h:∀j:Nat,j<m->p (gi rs (j:Int))=true):DelI p rs m (m+1) rs:=by
 refine⟨Nat.lt_succ_self _,hm,rfl, ?_,fun _ _ _=>rfl⟩
 rw[Wn hm,List.filter_append,ZgH (by omega) h]
 rw[Zj hm] at h0
 simp[h0]
theorem DelI.skip {α:Type}[Inhabited α]{p:α->Bool}{rs ys:List α}{i j:Nat}(h:DelI p rs i j ys)(hj:j<rs.length)(h0:p (gi rs (j:Int))=false):DelI p rs i (j+1) ys:=by
 refine⟨by have:=h.ij;omega,hj,h.len, ?_,fun k h1 h2=>h.eq k (by omega) h2⟩
 rw[h.tk,Wn hj,List.filter_append]
 rw[Zj hj] at h0
 simp[h0]
theorem DelI.keep {α:Type}[Inhabited α]{p:α->Bool}{rs ys:List α}{i j:Nat}(h:DelI p rs i j ys)(hj:j<rs.length)(h0:p (gi rs (j:Int))=true):DelI p rs (i+1) (j+1) (ys.set i (gi ys (j:Int))):=by
 have hij:=h.ij
 have hl:=h.len
 refine⟨by omega,hj,by rw[List.length_set];exact hl, ?_,fun k h1 h2=>?_⟩
 ·have e:gi ys (j:Int)=rs[j]:=by rw[h.eq j (Wl _) hj,Zj hj]
  rw[e,Wn (by rw[List.length_set];omega),List.take_set_of_le (Wl i),h.tk,Wn hj,List.filter_append]
  rw[Zj hj] at h0
  simp[h0]
 ·rw[Zj (by rw[List.length_set];omega),List.getElem_set_ne (by omega),<-Zj (by omega)]
  exact h.eq k (by omega) h2
def ofP (o:Int)(r:Zb):Bool:=decide (r.Object=o)
instance (priority :=high) ZH1 (w0:World)(L:List Blk)(b:Nat)(r:Zb)(o:Int)(T:TypeId)[k:AtC w0 L b #[.int .i64 o] T]:SpecM prog w0 L 104 [.agg (Zd r), .pointer (some ⟨b,0,none⟩)] (.bool (!ofP o r)) True:=⟨fun hp w hw=>by
 have f:=FoC.mk (k.out w hw)
 have hd:decide (r.Object=o)=ofP o r:=rfl
 refine Zg Tryz.func104 rfl Tryz.ntmps104 rfl ?_
 repeat(refine wkM ?_;intros)
 exact rtT rfl rfl⟩
set_option maxHeartbeats 4000000 in
theorem Zlo (v:Value)(rs:List Zb)(b:Nat)(o:Int)(T:TypeId)(w:World)(hv:ArgS w v Zd rs)(hl:rs.length<=1048576)(hb:∃fz,w.heap[b]? =some (.cells #[.int .i64 o] T fz)):
  Calls prog 161 [v,vOf b].toArray w (Ret (.int .i64 (idxP (fun r=> !ofP o r) rs)) w):=by
 have f:=FoC.mk hb
 obtain⟨p,cp,rfl⟩:=hv.form
 refine Zg Tryz.func161 rfl Tryz.ntmps161 rfl ?_
 repeat(refine wkM ?_;intros)
 refine Zm (S:=Nat) (fun m=>m<=rs.length/\∀j:Nat,j<m->(!ofP o (gi rs (j:Int)))=false) (fun m=>[(0, .slice p rs.length cp),(1,vOf b),(7, .int .i64 rs.length),(8, .int .i64 (m:Nat))]) (fun _=>[]) (fun m=>rs.length-m) 0 ⟨Wm _,fun j hj=>absurd hj (Nat.not_lt_zero _)⟩ sbB slB (fun m hm=>?_)
 obtain⟨hm,hbf⟩:=hm
 repeat(refine wkM ?_;intros)
 refine Zl rfl (fun h=>?_) (fun h=>?_)
 ·have hlt:m<rs.length:=by have:=Wa h;omega
  obtain⟨bw,ow,rfl,hrow'⟩:=hv.opn (k:=7) hlt
  repeat(first|(refine wkM ?_;intros)|(refine wnM ?_ ?_;(focus(exact trivial));intros))
  cases hd:ofP o (gi rs (m:Int))
  ·rw[ZhG (p:=fun r=> !ofP o r) hlt (by rw[hd];rfl) hbf]
   repeat(refine wkM ?_;intros)
   exact rtT rfl rfl
  ·repeat(refine wkM ?_;intros)
   exact Zh (m+1) ⟨hlt,fun j hj=>by
    rcases Nat.lt_or_ge j m with h1|h1
    ·exact hbf j h1
    ·rw[show j=m by omega,hd]
     rfl⟩ sbB slB (by omega)
 ·have hge:m=rs.length:=by have:=Wb h;omega
  subst hge
  rw[Zh1 hbf]
  repeat(refine wkM ?_;intros)
  exact rtT rfl rfl
instance (priority :=high) ZCa (w0:World)(L:List Blk)(v:Value)(rs:List Zb)(b:Nat)(o:Int)(T:TypeId)[h:LstC w0 L v Zb Zd rs][k:AtC w0 L b #[.int .i64 o] T]:SpecM prog w0 L 161 [v,vOf b] (.int .i64 (idxP (fun r=> !ofP o r) rs)) (rs.length<=1048576):=⟨fun hp w hw=>Zlo v rs b o T w (h.out w hw) hp (k.out w hw)⟩
instance (priority :=low) atApp (w0:World)(X L:List Blk)(b:Nat)(cs:Array Value)(T:TypeId)[h:AtC w0 L b cs T]:AtC w0 (X++L) b cs T:=⟨fun w hw=>h.out w (hw.sub (List.sublist_append_right X L))⟩
set_option maxHeartbeats 4000000 in
theorem Zlu (w0 w:World)(L L1:List Blk)(rs:List Zb)(s:SlS Zd 8 rs)(b:Nat)(o:Int)(T:TypeId)[hd:OwnS 35 s L L1][k:AtC w0 L1 b #[.int .i64 o] T](hl:rs.length<=1048576)(hw:Own w0 L w):
  Calls prog 102 [vSl s,vOf b].toArray w (RetX w0 (FlS Zd 8 (rs.filter (ofP o))) (fun s=>vF s) (fun s=>mF 35 s++L1)):=by
 have hw1:=hw.perm hd.out
 rcases ZnA (fun r=> !ofP o r) rs with⟨hi,hall⟩|⟨i0,hi0,hi,hp0,hbf⟩
 ·have hfil:rs.filter (ofP o)=rs:=List.filter_eq_self.2 fun x hx=>by have:=hall x hx;simpa using this
  obtain⟨s',e1,e2⟩:=s.fl hfil.symm
  refine ZY Tryz.func102 rfl Tryz.ntmps102 rfl hw1 ?_
  repeat(first|(refine wkM ?_;intros)|(refine wnM ?_ ?_;(focus(exact hl));intros))
  rw[hi]
  repeat(refine wkM ?_;intros)
  exact Zy rfl rfl (fun w hw=>⟨s',by show Ending.returned (vSl s)=Ending.returned (vF s');rw[e1],by show Own w0 (mF _ s'++L1) w;rw[e2];exact hw⟩)
 ·rcases s.cases 35 with⟨rfl,hv,hm⟩|⟨bs,c,sp,h1,hv,hm,hne⟩
  ·cases hi0
  refine ZY Tryz.func102 rfl Tryz.ntmps102 rfl hw1 ?_
  repeat(first|(refine wkM ?_;intros)|(refine wnM ?_ ?_;(focus(exact hl));intros))
  rw[hi]
  simp only[hv,hm,Wf,Wg]
  repeat(refine wkM ?_;intros)
  simp only[We (show¬((i0:Nat):Int)= -1 by omega)]
  repeat(refine wkO ?_;intros)
  refine Zm (S:=Nat×Nat×List Zb) (fun q=>DelI (ofP o) rs q.1 q.2.1 q.2.2) (fun q=>[(0, .slice (some ⟨bs,0,none⟩) rs.length c),(1,vOf b),(5, .int .i64 (q.1:Nat)),(6, .int .i64 (q.2.1:Nat))]) (fun q=>⟨bs,row Zd q.2.2 sp,35⟩::L1) (fun q=>rs.length-q.2.1) (i0,i0+1,rs) (DelI.start hi0 (by simpa using hp0) (fun j hj=>by simpa using hbf j hj)) sbB slB (fun q hq=>?_)
  obtain⟨i,j,ys⟩:=q
  have hij:=hq.ij
  have hjn:=hq.jn
  have hyl:=hq.len
  simp only at hq hij hjn hyl⊢
  repeat(refine wkM ?_;intros)
  refine Zl rfl (fun h=>?_) (fun h=>?_)
  ·have hlt:j<rs.length:=by have:=Wa h;omega
   have hgj:=hq.eq j (Wl _) hlt
   repeat(first|(refine wkM ?_;intros)|(refine wnM ?_ ?_;(focus(first|exact trivial|(rw[hyl];exact hlt)|exact⟨by omega,by omega⟩));intros))
   cases hpj:ofP o (gi ys (j:Int))
   ·repeat(refine wkO ?_;intros)
    exact Zh (i,j+1,ys) (hq.skip hlt (by rw[<-hgj];exact hpj)) sbB suB (by show rs.length-(j+1)<rs.length-j;omega)
   ·repeat(refine wkO ?_;intros)
    exact Zh (i+1,j+1,ys.set i (gi ys (j:Int))) (hq.keep hlt (by rw[<-hgj];exact hpj)) sbB suB (by show rs.length-(j+1)<rs.length-j;omega)
  ·have hge:j=rs.length:=by have:=Wb h;omega
   subst hge
   repeat(first|(refine wkM ?_;intros)|(refine wnM ?_ ?_;(focus(exact⟨by omega,by omega,by omega⟩));intros))
   refine sClr rfl (by omega) (by omega) rfl (EncC.one Zat) (fun zs hzs=>?_)
   repeat(first|(refine wkM ?_;intros)|(refine wnM ?_ ?_;(focus(exact⟨by omega,by omega,by omega⟩));intros))
   have htk:ys.take i=rs.filter (ofP o):=by rw[hq.tk,List.take_length]
   have hfl:(rs.filter (ofP o)).length=i:=by rw[<-htk,Wt];omega
   refine Zy rfl rfl (fun w hw=>⟨⟨some (bs,c,zs++sp),(fun h=>by cases h),(fun t ht=>?_)⟩, ?_, ?_⟩)
   ·injection ht with ht
    subst ht
    rw[hfl]
    refine⟨by show i<=c;omega, ?_⟩
    show(zs++sp).length=(c-i)*8
    have h8:(Zd Zat).size=8:=rfl
    rw[h8] at hzs
    rw[Wp,hzs,h1.2]
    omega
   ·show Ending.returned _=Ending.returned (.slice (some ⟨bs,0,none⟩) (rs.filter (ofP o)).length c)
    rw[hfl]
   ·show Own w0 (⟨bs,row Zd (rs.filter (ofP o)) (zs++sp),_⟩::L1) w
    rw[<-htk]
    exact hw
instance (priority :=high) ZAS (w0:World)(L L1:List Blk)(rs:List Zb)(s:SlS Zd 8 rs)(b:Nat)(o:Int)(T:TypeId)[hd:OwnS 35 s L L1][k:AtC w0 L1 b #[.int .i64 o] T]:SpecX prog w0 L 102 [vSl s,vOf b] (FlS Zd 8 (rs.filter (ofP o))) (fun s=>vF s) (fun s=>mF 35 s++L1) (rs.length<=1048576):=⟨fun hp w hw=>Zlu w0 w L L1 rs s b o T hp hw⟩
theorem Zni {rs:List Zb}:(cntR rs).length<=rs.length:=by
 have h1:=(Zga rs).len
 have h2:=ZkH (winR rs)
 unfold cntR
 rw[ZcY]
 omega
def ofL (rs:List Zb)(o:Int):List Zb:=(cntR rs).filter (ofP o)
theorem Zhe {rs:List Zb}{o:Int}:(ofL rs o).length<=rs.length:=Wi (List.length_filter_le _ _) Zni
instance (priority :=high) ZJI (w0:World)(L:List Blk)(v:Value)(rs:List Zb)(o:Int)[h:LstC w0 L v Zb Zd rs]:SpecR prog w0 L 54 [v, .int .i64 o] (FlS Zd 8 (ofL rs o)) (fun s=>vF s) (fun s=>mF 35 s) (rs.length<=12):=⟨fun hp w hw=>by
 have hv:=h.out w hw
 have:=ArgC.mk hv
 have hcl:(cntR rs).length<=1048576:=by
  have:=Zni (rs:=rs)
  omega
 refine Zg Tryz.func54 rfl Tryz.ntmps54 rfl ?_
 repeat(first|(refine wkM ?_;intros)|(refine wnM ?_ ?_;(focus(first|exact hp|exact hcl));intros))
 refine sZ rfl rfl hcl ?_
 intro s
 repeat(refine wkM ?_;intros)
 exact Zy rfl rfl (fun w hw=>⟨s,rfl,hw.sub suB⟩)⟩
end
section
theorem Zjy {w0:World}{n:Nat}{x:Exit}{Q:Exit->Act->World->Prop}{E:Env}{L L' M:List Blk}(hs:L'.Sublist L)(hp:L'.Perm M)(h:JX w0 n x Q E M):JX w0 n x Q E L:=⟨fun a w ha hw=>h.out a w ha ((hw.sub hs).perm hp)⟩
theorem ZnU {α:Type}(A B C:List α):(A++(B++C)).Perm (B++(A++C)):=by
 rw[<-List.append_assoc,<-List.append_assoc]
 exact List.perm_append_comm.append_right _
theorem Zn1 {P:Program}{f:FuncId}{args:Array Value}{w:World}{S:Type}{val:S->Value}{mem:S->List Blk}(h:Calls P f args w (RetM S val mem w)):Nonempty S:=by
 obtain⟨e,w',fr,⟨s, -⟩, -⟩:=h []
 exact⟨s⟩
theorem Zq0 (w:World)(o:Obj):(w.alloc o).heap[w.heap.size]? =some o:=by
 show(w.heap.push o)[w.heap.size]? =some o
 exact Array.getElem?_push_size
theorem Zv2 (w:World){l:List Za}{d:Int}(hl:l.length<=6)(hex:∀x∈l,ExB x)(hd:0<=d/\d<=1073741824):(-17592186044416<=(offX l d).1/\(offX l d).1<=17592186044416)/\(-17592186044416<=(offX l d).2.1/\(offX l d).2.1<=17592186044416):=by
 have hW:=Zq0 w (.cells (row Zf l []) 122 (0,0))
 generalize w.alloc (.cells (row Zf l []) 122 (0,0))=W at hW
 have hv:ArgS W (.slice (some ⟨w.heap.size,0,none⟩) l.length l.length) Zf l:=Zee hW (Wl _)
 obtain⟨⟨⟨lo,hi,er⟩,h1,h2,h3⟩⟩:=Zn1 (ZgE _ _ _ l d W hv hl hex hd)
 rw[ZeN h1]
 exact⟨h2,h3⟩
theorem Zqw (w:World){l:List Za}{r:Zb}(hl:l.length<=6)(hex:∀x∈l,ExB x)(hd:0<=r.Device/\r.Device<=1073741824)(ht:0<=r.Time/\r.Time<=1073741824):M (corX l r).1<=8:=by
 have hb:=Zv2 w hl hex hd
 unfold corX
 split
 ·have e:(r.Time:Rat)-Rat.divInt ((offX l r.Device).1+(offX l r.Device).2.1) 2=Rat.divInt (2*r.Time-((offX l r.Device).1+(offX l r.Device).2.1)) 2:=by
   rw[Rat.divInt_eq_div,Rat.divInt_eq_div,Rat.intCast_sub,Rat.intCast_mul]
   grind
  rw[e]
  exact Zea (k:=8) (Zc3 (by omega)) (by decide) (by decide)
 ·show M (0:Rat)<=8
  decide
structure XOk (l:List (Zb×Bool))(x:List (Za×Bool)):Prop where
 n:l.length<=12
 xn:x.length<=6
 xe:∀y∈pKE x,ExB y
 rr:∀r∈pKR l,RepV r
theorem Zra {rs:List Zb}{p:ZF×Zb}(h:p∈winR rs):p.2∈rs:=by
 have key:∀(rs:List Zb)(m:List (ZF×Zb))(p:ZF×Zb),p∈rs.foldl winS m->p∈m\/p.2∈rs:=by
  intro rs
  induction rs with
  |nil=>intro m p h;exact .inl h
  |cons r rs ih=>
   intro m p h
   rw[List.foldl_cons] at h
   rcases ih _ _ h with h1|h1
   ·unfold winS at h1
    split at h1
    ·rcases Zeg h1 with h2|rfl
     ·exact .inl h2
     ·exact .inr (.head _)
    ·split at h1
     ·rcases Zeg h1 with h2|rfl
      ·exact .inl h2
      ·exact .inr (.head _)
     ·exact .inl h1
   ·exact .inr (.tail _ h1)
 rcases key rs [] p h with h1|h1
 ·cases h1
 ·exact h1
theorem ZrT {rs:List Zb}{r:Zb}(h:r∈cntR rs):r∈rs:=by
 have h1:=(Za2 _).mem_iff.1 h
 obtain⟨p,hp,rfl⟩:=List.mem_map.1 (List.mem_filter.1 h1).1
 exact Zra hp
theorem Zgg {rs:List Zb}{r:Zb}{o:Int}(h:r∈ofL rs o):r∈rs:=ZrT (List.mem_filter.1 h).1
section
variable (ex : List Za)
noncomputable def tmF (r:Zb):Option Zc:=if(corX ex r).2=0 then some ⟨(corX ex r).1,r⟩ else none
noncomputable def unF (r:Zb):Option Zb:=if(corX ex r).2=0 then none else some r
noncomputable def tmXL (cs:List Zb):List Zc:=cs.filterMap (tmF ex)
noncomputable def unXL (cs:List Zb):List Zb:=cs.filterMap (unF ex)
noncomputable def tmXS (cs:List Zb):List Zc:=srtTm (tmXL ex cs) ((tmXL ex cs).length-1)
end
theorem Zd9 {ex:List Za}{cs:List Zb}:(tmXL ex cs).length<=cs.length:=List.length_filterMap_le _ _
theorem Zsa {ex:List Za}{cs:List Zb}:(unXL ex cs).length<=cs.length:=List.length_filterMap_le _ _
theorem Zq3 {ex:List Za}{cs:List Zb}:(tmXS ex cs).length<=cs.length:=by
 unfold tmXS
 rw[ZcK]
 exact Zd9
theorem Ze1 {ex:List Za}{cs:List Zb}{z:Zc}(h:z∈tmXL ex cs):z.Report∈cs/\z.T=(corX ex z.Report).1:=by
 obtain⟨r,hr,hz⟩:=List.mem_filterMap.1 h
 unfold tmF at hz
 split at hz
 ·injection hz with hz
  subst hz
  exact⟨hr,rfl⟩
 ·cases hz
theorem Zh5 (w:World){ex:List Za}{cs:List Zb}(hl:ex.length<=6)(hex:∀x∈ex,ExB x)(hc:∀r∈cs,RepV r):∀z∈tmXL ex cs,TkOk z:=fun z hz=>by
 obtain⟨h1,h2⟩:=Ze1 hz
 have h:=hc _ h1
 exact⟨by rw[h2];exact Zqw w hl hex h.d h.t,h.x,h.y⟩
theorem TkOk.tm {z:Zc}(h:TkOk z):TmOk z:=Wi h.t (by decide)
theorem Zoi (xs:List Zc):∀z∈srtTm xs (xs.length-1),z∈xs:=fun z hz=>by
 rcases Nat.eq_zero_or_pos xs.length with h0|h0
 ·rw[List.length_eq_zero_iff.1 h0] at hz⊢
  exact hz
 ·exact ZfD xs (xs.length-1) (by omega) z hz
theorem Zkn {ex:List Za}{cs:List Zb}{m:Nat}(h:m<cs.length):tmXL ex (cs.take (m+1))=tmXL ex (cs.take m)++(tmF ex (gi cs (m:Int))).toList/\unXL ex (cs.take (m+1))=unXL ex (cs.take m)++(unF ex (gi cs (m:Int))).toList:=by
 rw[Wn h,tmXL,unXL,List.filterMap_append,List.filterMap_append,Zj h]
 refine⟨congrArg _ ?_,congrArg _ ?_⟩
 ·cases hf:tmF ex cs[m] <;> simp[hf]
 ·cases hf:unF ex cs[m] <;> simp[hf]
noncomputable def tmX (l:List (Zb×Bool))(x:List (Za×Bool))(o:Int):List Zc:=tmXS (sortedE (pKE x)) (ofL (sorted (pKR l)) o)
section
variable {l : List (Zb × Bool)} {x : List (Za × Bool)} {o : Int}
theorem XOk.sx (h:XOk l x):(sortedE (pKE x)).length<=6/\∀y∈sortedE (pKE x),ExB y:=by
 refine⟨by rw[ZgD,Ws];exact h.xn,fun y hy=>h.xe y ((ZcN _).mem_iff.1 hy)⟩
theorem XOk.sr (h:XOk l x):(sorted (pKR l)).length<=12/\∀y∈sorted (pKR l),RepV y:=by
 refine⟨by rw[ZcY,Ws];exact h.n,fun y hy=>h.rr y ((Za2 _).mem_iff.1 hy)⟩
theorem XOk.len (h:XOk l x):(tmX l x o).length<=12:=Wi Zq3 (Wi Zhe h.sr.1)
theorem XOk.tk (h:XOk l x)(w:World):∀z∈tmX l x o,TkOk z:=fun z hz=>Zh5 w h.sx.1 h.sx.2 (fun r hr=>h.sr.2 r (Zgg hr)) z (Zoi _ z hz)
end
instance (priority :=high) Zxb (w0:World)(L:List Blk)(v:Value)(l:List Za)(r:Zb)[h:LstC w0 L v Za Zf l]:SpecM prog w0 L 55 [v, .agg (Zd r)] (.tuple #[vQ (corX l r).1, .int .i64 (corX l r).2]) (l.length<=6/\(∀x∈l,ExB x)/\(0<=r.Device/\r.Device<=1073741824)/\(0<=r.Time/\r.Time<=1073741824)):=⟨fun hp w hw=>by
 have hv:=h.out w hw
 obtain⟨p,cp,rfl⟩:=hv.form
 exact Zk7 p l.length cp l r w hv hp.1 hp.2.1 hp.2.2.1 hp.2.2.2⟩
set_option maxHeartbeats 8000000 in
theorem ZlR (w0 w:World)(L:List Blk)(px:Nat)(l:List (Zb×Bool))(x:List (Za×Bool))(o:Int)[h:InkX w0 L px l x](hw:Own w0 L w)(hx:XOk l x):
  Calls prog 100 [.pointer (some ⟨px,0,none⟩), .int .i64 o].toArray w (RetM (SlS Zi 12 (tmX l x o)×SlS Zd 8 (unXL (sortedE (pKE x)) (ofL (sorted (pKR l)) o))) (fun s=> .tuple #[vSl s.1,vSl s.2]) (fun s=>mS 56 s.1++mS 35 s.2) w):=by
 have hk:=h.all hw
 have hn:=hx.n
 have hxn:x.length<=12:=Wi hx.xn (by decide)
 obtain⟨hel,hex⟩:=hx.sx
 obtain⟨hsl,hsr⟩:=hx.sr
 have hol:=Zhe (rs:=sorted (pKR l)) (o:=o)
 have hov:∀r∈ofL (sorted (pKR l)) o,RepV r:=fun r hr=>hsr r (Zgg hr)
 have hTk:=Zh5 w hel hex hov
 have hdf:tmX l x o=tmXS (sortedE (pKE x)) (ofL (sorted (pKR l)) o):=rfl
 refine Zg Tryz.func100 rfl Tryz.ntmps100 rfl ?_
 repeat(first|(refine wkM ?_;intros)|(refine wnM ?_ ?_;(focus(first|exact hn|exact hxn|exact hsl));intros))
 rename_i s0 s1 s2
 generalize sorted (pKR l)=rs at*
 generalize hcs:ofL rs o=cs at*
 generalize sortedE (pKE x)=ex at*
 refine Zm (S:=(m:Nat)×SlS Zi 12 (tmXL ex (cs.take m))×SlS Zd 8 (unXL ex (cs.take m))) (fun q=>q.1<=cs.length) (fun q=>[(4,vSl q.2.1),(5,vSl q.2.2),(6,vSl s0),(16,vF s2),(17, .int .i64 cs.length),(18, .int .i64 (q.1:Nat))]) (fun q=>mS 56 q.2.1++(mS 35 q.2.2++(mF 35 s2++mS 122 s0))) (fun q=>cs.length-q.1) ⟨0,SlS.no,SlS.no⟩ (Wm _) sbB suB (fun q hq=>?_)
 obtain⟨m,q,u⟩:=q
 simp only at hq⊢
 repeat(refine wkM ?_;intros)
 refine Zl rfl (fun h=>?_) (fun h=>?_)
 ·have hlt:m<cs.length:=by have:=Wa h;omega
  have hr:=hov (gi cs (m:Int)) (ZI (by omega))
  obtain⟨hn1,hn2⟩:=Zkn (ex:=ex) hlt
  have hl1:=Zd9 (ex:=ex) (cs:=cs.take m)
  have hl2:=Zsa (ex:=ex) (cs:=cs.take m)
  rw[Wt] at hl1 hl2
  have hpr:ex.length<=6/\(∀x∈ex,ExB x)/\(0<=(gi cs (m:Int)).Device/\(gi cs (m:Int)).Device<=1073741824)/\(0<=(gi cs (m:Int)).Time/\(gi cs (m:Int)).Time<=1073741824):=⟨hel,hex,hr.d,hr.t⟩
  rcases s2.cases 35 with⟨x0, -, -⟩|⟨bs,cb,sp,hc1,x1,x2⟩
  ·rw[x0] at hlt
   cases hlt
  unfold tmF at hn1
  unfold unF at hn2
  simp only[x1,x2,Wf,Wg]
  repeat(first|(refine wkM ?_;intros)|(refine wnM ?_ ?_;(focus(exact hpr));intros))
  generalize gi cs (m:Int)=r at*
  by_cases he:(corX ex r).2=0
  ·rw[if_pos he] at hn1 hn2
   simp only[Option.toList_some,Option.toList_none,Wh] at hn1 hn2
   simp only[Wc he]
   repeat(refine wkM ?_;intros)
   refine sU rfl rfl ?_ ?_ ?_ ?_
   ·rfl
   ·rfl
   ·exact⟨by decide,by omega,by omega⟩
   intro s'
   repeat(refine wkO ?_;intros)
   obtain⟨s3,e1,e2⟩:=SlS.turn 56 hn1.symm s'
   obtain⟨u3,e3,e4⟩:=SlS.turn 35 hn2.symm u
   exact Zh ⟨m+1,s3,u3⟩ hlt (by simp only[e1,e3,x1];exact sbB) (by simp only[e2,e4,x2];exact suB) (by show cs.length-(m+1)<cs.length-m;omega)
  ·rw[if_neg he] at hn1 hn2
   simp only[Option.toList_some,Option.toList_none,Wh] at hn1 hn2
   simp only[We he]
   repeat(refine wkM ?_;intros)
   refine sU rfl rfl ?_ ?_ ?_ ?_
   ·rfl
   ·rfl
   ·exact⟨by decide,by omega,by omega⟩
   intro u'
   repeat(refine wkO ?_;intros)
   obtain⟨s3,e1,e2⟩:=SlS.turn 56 hn1.symm q
   obtain⟨u3,e3,e4⟩:=SlS.turn 35 hn2.symm u'
   refine Zjy (M:=mS 56 s3++(mS 35 u3++(mF 35 s2++mS 122 s0))) (L':=mS 35 u3++(mS 56 s3++(mF 35 s2++mS 122 s0))) (by simp only[e2,e4,x2];exact suB) (ZnU _ _ _) ?_
   exact Zh ⟨m+1,s3,u3⟩ hlt (by simp only[e1,e3,x1];exact sbB) (by simp only[x2];exact suB) (by show cs.length-(m+1)<cs.length-m;omega)
 ·have hge:m=cs.length:=by have:=Wb h;omega
  subst hge
  have hok:∀x∈tmXL ex (cs.take cs.length),TmOk x:=by rw[List.take_length];exact fun z hz=>(hTk z hz).tm
  have hl1:=Zd9 (ex:=ex) (cs:=cs.take cs.length)
  rw[List.take_length] at hl1
  repeat(refine wkM ?_;intros)
  refine sZ rfl rfl ⟨by rw[List.take_length];omega,hok⟩ ?_
  intro s'
  repeat(refine wkM ?_;intros)
  have e0:tmX l x o=srtTm (tmXL ex (cs.take cs.length)) ((tmXL ex (cs.take cs.length)).length-1):=by rw[List.take_length];exact hdf
  obtain⟨s3,e1,e2⟩:=s'.1.like e0
  obtain⟨u3,e3,e4⟩:=u.like (show unXL ex cs=unXL ex (cs.take cs.length) by rw[List.take_length])
  refine ZA rfl (Zk rfl) (Zk rfl) (fun w hw=>⟨(s3,u3), ?_, ?_⟩)
  ·show Ending.returned (.tuple #[vSl q,vSl u])=Ending.returned (.tuple #[vSl s3,vSl u3])
   rw[e1,e3,s'.2]
  ·show Own _ (mS 56 s3++mS 35 u3) w
   rw[e2,e4]
   exact hw.sub suB
instance (priority :=high) ZBN (w0:World)(L:List Blk)(px:Nat)(l:List (Zb×Bool))(x:List (Za×Bool))(o:Int)[h:InkX w0 L px l x]:SpecR prog w0 L 100 [.pointer (some ⟨px,0,none⟩), .int .i64 o] (SlS Zi 12 (tmX l x o)×SlS Zd 8 (unXL (sortedE (pKE x)) (ofL (sorted (pKR l)) o))) (fun s=> .tuple #[vSl s.1,vSl s.2]) (fun s=>mS 56 s.1++mS 35 s.2) (XOk l x):=⟨fun hp w hw=>ZlR w0 w L px l x o hw hp⟩
instance (priority :=high) ZG4 (w0:World)(L:List Blk)(px:Nat)(l:List (Zb×Bool))(x:List (Za×Bool))(o:Int)[h:InkX w0 L px l x]:SpecR prog w0 L 50 [.pointer (some ⟨px,0,none⟩), .int .i64 o] (SlS Zi 12 (tmX l x o)) (fun s=>vSl s) (fun s=>mS 56 s) (XOk l x):=⟨fun hp w hw=>by
 have hk:=h.all hw
 refine Zg Tryz.func50 rfl Tryz.ntmps50 rfl ?_
 repeat(first|(refine wkM ?_;intros)|(refine wnM ?_ ?_;(focus(exact hp));intros))
 rename_i s
 exact Zy rfl rfl (fun w hw=>⟨s.1,rfl,hw.sub (by simp only[List.append_assoc];exact suB)⟩)⟩
instance (priority :=high) ZwY (w0:World)(L:List Blk)(px:Nat)(l:List (Zb×Bool))(x:List (Za×Bool))(o:Int)[h:InkX w0 L px l x]:SpecR prog w0 L 24 [.pointer (some ⟨px,0,none⟩), .int .i64 o] (SlS Zi 12 (tmX l x o)) (fun s=> .tuple #[vSl s, .int .i64 0]) (fun s=>mS 56 s) (XOk l x):=⟨fun hp w hw=>by
 have hk:=h.all hw
 have hcl:=hp.len (o:=o)
 refine Zg Tryz.func24 rfl Tryz.ntmps24 rfl ?_
 repeat(first|(refine wkM ?_;intros)|(refine wnM ?_ ?_;(focus(exact hp));intros))
 rename_i s
 simp only[We (show¬(256:Int)<((tmX l x o).length:Int) by omega)]
 repeat(refine wkM ?_;intros)
 exact ZA rfl (Zk rfl) (Zk rfl) (fun w hw=>⟨s,rfl,hw.sub suB⟩)⟩
end
section
structure KtX (v:Int)(l:List (Zb×Bool))(x:List (Za×Bool)):Prop where
 ok:XOk l x
 v: -1048576<=v/\v<=1048576
set_option maxHeartbeats 8000000 in
theorem ZjV (w0 w:World)(L:List Blk)(px:Nat)(l:List (Zb×Bool))(x:List (Za×Bool))(o:Int)(s:ZR)[h:InkX w0 L px l x](hw:Own w0 L w)(hk:KtX s.MaxSpeed l x):
  Calls prog 26 [.pointer (some ⟨px,0,none⟩), .int .i64 o, .agg (Zv s)].toArray w (RetM (SlS Zi 12 (kpT s.MaxSpeed (tmX l x o))) (fun s=> .tuple #[vSl s, .int .i64 0]) (fun s=>mS 56 s) w):=by
 have hl:=hk.ok.len (o:=o)
 have hk1:=hk.ok
 have hin:=h.all hw
 refine Zg Tryz.func26 rfl Tryz.ntmps26 rfl ?_
 have hk2:(tmX l x o).length<=4096/\(∀z∈tmX l x o,TkOk z)/\(-1048576<=s.MaxSpeed/\s.MaxSpeed<=1048576):=⟨by omega,hk.ok.tk w,hk.v⟩
 repeat(first|(refine wkM ?_;intros)|(refine wnM ?_ ?_;(focus(first|exact hk1|exact hk2));intros))
 rename_i b5 s1 ch
 generalize hT:tmX l x o=T at*
 have hcn:=Zco (cCp s.MaxSpeed T) T.length
 have hcl:=fun k (h:k∈chainL (cCp s.MaxSpeed T) T.length)=>Zff h
 have hkp:kpT s.MaxSpeed T=(chainL (cCp s.MaxSpeed T) T.length).map fun k:Nat=>gi T (k:Int):=rfl
 generalize chainL (cCp s.MaxSpeed T) T.length=C at*
 have hCl:=ZfQ C
 refine Zm (S:=(m:Nat)×SlS Zi 12 ((C.take m).map fun k:Nat=>gi T (k:Int))) (fun q=>q.1<=C.length) (fun q=>[(8,vSl s1),(9, .int .i64 0),(10,vSl q.2),(21,vSl ch),(22, .int .i64 ((cI C).length:Nat)),(23, .int .i64 (q.1:Nat))]) (fun q=>mS 56 q.2++(mS 3 ch++(mS 56 s1++[⟨b5,Zv s,32⟩]))) (fun q=>C.length-q.1) ⟨0,SlS.no⟩ (Wm _) sbB suB (fun q hq=>?_)
 obtain⟨m,q⟩:=q
 simp only at hq⊢
 have hml:((C.take m).map fun k:Nat=>gi T (k:Int)).length=m:=by rw[Ws,Wt];omega
 repeat(refine wkM ?_;intros)
 refine Zl rfl (fun h=>?_) (fun h=>?_)
 ·have hlt:m<C.length:=by have:=Wa h;omega
  have hcm:gi (cI C) (m:Int)=((C[m]:Nat):Int):=by
   rw[Zj (by omega)]
   simp only[cI,List.getElem_map]
  have hCm:=hcl C[m] (List.getElem_mem _)
  have hnx:((C.take (m+1)).map fun k:Nat=>gi T (k:Int))=((C.take m).map fun k:Nat=>gi T (k:Int))++[gi T ((C[m]:Nat):Int)]:=by
   rw[Wn hlt,List.map_append]
   rfl
  generalize C[m]=k at*
  rcases s1.cases 56 with⟨x0, -, -⟩|⟨bs,cb,sp,hc1,x1,x2,xne⟩
  ·rw[x0] at hCm
   cases hCm
  rcases ch.cases 3 with⟨y0, -, -⟩|⟨bc,cc,sq,hc2,y1,y2,yne⟩
  ·rw[y0,Wx] at hCl
   omega
  simp only[x1,x2,y1,y2,Wf,Wg]
  repeat(refine wkM ?_;intros)
  simp only[hcm]
  repeat(refine wkM ?_;intros)
  refine sU rfl rfl ?_ ?_ ?_ ?_
  ·rfl
  ·rfl
  ·exact⟨by decide,by omega,by omega⟩
  intro s'
  repeat(refine wkO ?_;intros)
  obtain⟨s3,e1,e2⟩:=SlS.turn 56 hnx.symm s'
  exact Zh ⟨m+1,s3⟩ hlt (by simp only[e1,x1,y1];exact sbB) (by simp only[e2,x2,y2];exact suB) (by show C.length-(m+1)<C.length-m;omega)
 ·have hge:m=C.length:=by have:=Wb h;omega
  subst hge
  repeat(refine wkM ?_;intros)
  obtain⟨s3,e1,e2⟩:=SlS.turn 56 (show((C.take C.length).map fun k:Nat=>gi T (k:Int))=kpT s.MaxSpeed T by rw[List.take_length,hkp]) q
  refine ZA rfl (Zk rfl) (Zk rfl) (fun w hw=>⟨s3, ?_, ?_⟩)
  ·show Ending.returned (.tuple #[vSl q, .int .i64 0])=Ending.returned (.tuple #[vSl s3, .int .i64 0])
   rw[e1]
  ·show Own _ (mS 56 s3) w
   rw[e2]
   exact hw.sub suB
instance (priority :=high) Zx1 (w0:World)(L:List Blk)(px:Nat)(l:List (Zb×Bool))(x:List (Za×Bool))(o:Int)(s:ZR)[h:InkX w0 L px l x]:SpecR prog w0 L 26 [.pointer (some ⟨px,0,none⟩), .int .i64 o, .agg (Zv s)] (SlS Zi 12 (kpT s.MaxSpeed (tmX l x o))) (fun s=> .tuple #[vSl s, .int .i64 0]) (fun s=>mS 56 s) (KtX s.MaxSpeed l x):=⟨fun hp w hw=>ZjV w0 w L px l x o s hw hp⟩
set_option maxHeartbeats 8000000 in
theorem ZnO (w0 w:World)(L:List Blk)(px:Nat)(l:List (Zb×Bool))(x:List (Za×Bool))(o:Int)(s:ZR)[h:InkX w0 L px l x](hw:Own w0 L w)(hk:KtX s.MaxSpeed l x)(hg: -2147483648<=s.MaxGap/\s.MaxGap<=2147483648):
  Calls prog 30 [.pointer (some ⟨px,0,none⟩), .int .i64 o, .agg (Zv s)].toArray w (RetM (SlS ZaD 20 (gpT s.MaxGap (kpT s.MaxSpeed (tmX l x o)) ((kpT s.MaxSpeed (tmX l x o)).length-1))) (fun s=> .tuple #[vSl s, .int .i64 0]) (fun s=>mS 111 s) w):=by
 have hl:=hk.ok.len (o:=o)
 have hin:=h.all hw
 have hkl:(kpT s.MaxSpeed (tmX l x o)).length<=12:=by
  have:=Zco (cCp s.MaxSpeed (tmX l x o)) (tmX l x o).length
  rw[Zc8]
  omega
 have hok:∀z∈kpT s.MaxSpeed (tmX l x o),TkOk z:=fun z hz=>hk.ok.tk w z (Zgs hz)
 refine Zg Tryz.func30 rfl Tryz.ntmps30 rfl ?_
 repeat(first|(refine wkM ?_;intros)|(refine wnM ?_ ?_;(focus(exact hk));intros))
 rename_i b5 s1
 generalize kpT s.MaxSpeed (tmX l x o)=T at*
 refine Zm (S:=(m:Nat)×SlS ZaD 20 (gpT s.MaxGap T m)) (fun q=>q.1=0\/q.1+1<=T.length) (fun q=>[(5, .pointer (some ⟨b5,0,none⟩)),(8,vSl s1),(9, .int .i64 0),(10,vSl q.2),(11, .int .i64 ((q.1+1:Nat)))]) (fun q=>mS 111 q.2++(mS 56 s1++[⟨b5,Zv s,32⟩])) (fun q=>T.length-q.1) ⟨0,SlS.no⟩ (.inl rfl) sbB suB (fun q hq=>?_)
 obtain⟨m,q⟩:=q
 simp only at hq⊢
 have hgl:=Zf9 s.MaxGap T m
 repeat(refine wkM ?_;intros)
 refine Zl rfl (fun h=>?_) (fun h=>?_)
 ·have hlt:m+1<T.length:=by have:=Wa h;omega
  have e1:((m+1:Nat):Int)-1=(m:Int):=by omega
  have k1:=hok (gi T (m:Int)) (ZI (by omega))
  have k2:=hok (gi T ((m+1:Nat):Int)) (ZI (by omega))
  have hnx:gpT s.MaxGap T (m+1)=if farT s.MaxGap (gi T (m:Int)) (gi T ((m+1:Nat):Int)) then gpT s.MaxGap T m++[gapI (gi T (m:Int)) (gi T ((m+1:Nat):Int))] else gpT s.MaxGap T m:=rfl
  rcases s1.cases 56 with⟨x0, -, -⟩|⟨bs,cb,sp,hc1,x1,x2,xne⟩
  ·rw[x0] at hlt
   cases hlt
  simp only[x1,x2,Wf,Wg]
  repeat(refine wkM ?_;intros)
  refine jD 11 11 (h:=?_)
  (repeat(refine wkH ?_))
  simp only[e1]
  (repeat(first|refine wkH ?_|(refine tC rfl rfl ?_ ?_;focus(exact⟨k1,k2,hg⟩))))
  refine Zn ?_
  refine Zr ?_
  cases hf:farT s.MaxGap (gi T (m:Int)) (gi T ((m+1:Nat):Int))
  ·rw[hf,if_neg (by decide)] at hnx
   repeat(refine wkO ?_;intros)
   obtain⟨s3,e1,e2⟩:=SlS.turn 111 hnx.symm q
   exact Zh ⟨m+1,s3⟩ (.inr (by show m+1+1<=T.length;omega)) (by simp only[e1,x1];exact sbB) (by simp only[e2,x2];exact suB) (by show T.length-(m+1)<T.length-m;omega)
  ·rw[hf,if_pos rfl] at hnx
   repeat(refine wkM ?_;intros)
   (refine ZX (.v [0,1,2,3,4,5,6,7,8,9,10,11,12,13,14] (.e1 15 (.e1 16 (.e1 17 (.fin))))) ([⟨bs,row Zi T sp,56⟩]) (h:=?_);refine wkX ?_)
   (repeat(refine wkH ?_))
   simp only[e1]
   (repeat(refine wkH ?_))
   repeat(refine wkT ?_;intros)
   refine eU rfl rfl ?_ ?_ ?_ ?_
   ·rfl
   ·rfl
   ·exact⟨by decide,by omega,by omega⟩
   intro s'
   repeat(refine wkT ?_;intros)
   obtain⟨s3,e1,e2⟩:=SlS.turn 111 hnx.symm s'
   repeat(refine wkO ?_;intros)
   exact Zh ⟨m+1,s3⟩ (.inr (by show m+1+1<=T.length;omega)) (by simp only[e1,x1];exact sbB) (by simp only[e2,x2];exact suB) (by show T.length-(m+1)<T.length-m;omega)
 ·have hge:m=T.length-1:=by have:=Wb h;omega
  repeat(refine wkM ?_;intros)
  obtain⟨s3,e1,e2⟩:=SlS.turn 111 (show gpT s.MaxGap T m=gpT s.MaxGap T (T.length-1) by rw[hge]) q
  refine ZA rfl (Zk rfl) (Zk rfl) (fun w hw=>⟨s3, ?_, ?_⟩)
  ·show Ending.returned (.tuple #[vSl q, .int .i64 0])=Ending.returned (.tuple #[vSl s3, .int .i64 0])
   rw[e1]
  ·show Own _ (mS 111 s3) w
   rw[e2]
   exact hw.sub suB
instance (priority :=high) ZF0 (w0:World)(L:List Blk)(px:Nat)(l:List (Zb×Bool))(x:List (Za×Bool))(o:Int)(s:ZR)[h:InkX w0 L px l x]:SpecR prog w0 L 30 [.pointer (some ⟨px,0,none⟩), .int .i64 o, .agg (Zv s)] (SlS ZaD 20 (gpT s.MaxGap (kpT s.MaxSpeed (tmX l x o)) ((kpT s.MaxSpeed (tmX l x o)).length-1))) (fun s=> .tuple #[vSl s, .int .i64 0]) (fun s=>mS 111 s) (KtX s.MaxSpeed l x/\(-2147483648<=s.MaxGap/\s.MaxGap<=2147483648)):=⟨fun hp w hw=>ZnO w0 w L px l x o s hw hp.1 hp.2⟩
noncomputable def explX (v:Int)(l:List (Zb×Bool))(x:List (Za×Bool))(r:Zb):Int:=
 if statR (sorted (pKR l)) r=0 then 0 else if statR (sorted (pKR l)) r=2 then 1 else if statR (sorted (pKR l)) r=3 then 2
 else if(tmX l x r.Object).any (isT r)=false then 3 else if(kpT v (tmX l x r.Object)).any (isT r) then 5 else 4
set_option maxHeartbeats 8000000 in
theorem Zn9 (w0 w:World)(L:List Blk)(px:Nat)(l:List (Zb×Bool))(x:List (Za×Bool))(r:Zb)(s:ZR)[h:InkX w0 L px l x](hw:Own w0 L w)(hk:KtX s.MaxSpeed l x):
  Calls prog 16 [.pointer (some ⟨px,0,none⟩), .agg (Zd r), .agg (Zv s)].toArray w (Ret (.tuple #[.int .i64 (explX s.MaxSpeed l x r), .int .i64 0]) w):=by
 have hl:=hk.ok.len (o:=r.Object)
 have hin:=h.all hw
 have hn:=hk.ok.n
 have hdef:explX s.MaxSpeed l x r=if statR (sorted (pKR l)) r=0 then 0 else if statR (sorted (pKR l)) r=2 then 1 else if statR (sorted (pKR l)) r=3 then 2 else if(tmX l x r.Object).any (isT r)=false then 3 else if(kpT s.MaxSpeed (tmX l x r.Object)).any (isT r) then 5 else 4:=rfl
 have hsl:(sorted (pKR l)).length<=1048576:=by rw[ZcY,Ws];omega
 have hkl:(kpT s.MaxSpeed (tmX l x r.Object)).length<=1048576:=by
  have:=Zco (cCp s.MaxSpeed (tmX l x r.Object)) (tmX l x r.Object).length
  rw[Zc8]
  omega
 have htl:(tmX l x r.Object).length<=1048576:=by omega
 have hk1:=hk.ok
 refine Zg Tryz.func16 rfl Tryz.ntmps16 rfl ?_
 repeat(refine wkM ?_;intros)
 rename_i b4 b5
 (refine ZX (.v [0,2] (.e1 1 (.e1 3 (.fin)))) (_) (h:=?_);refine wkX ?_)
 (repeat(refine wkH ?_))
 repeat(first|(refine wkT ?_;intros)|(refine tC rfl rfl ?_ ?_;focus(first|exact hn|exact hsl|exact hk))|(refine uC rfl rfl ?_ ?_;focus(first|exact hn|exact hsl|exact hk))|(refine eN rfl rfl ?_ ?_;(focus(first|exact hn|exact hsl|exact hk));intro _;(try simp only[Wf,Wg,Wh])))
 repeat(refine wkM ?_;intros)
 generalize hst:statR (sorted (pKR l)) r=st at*
 by_cases c0:st=0
 ·rw[if_pos c0] at hdef
  simp only[Wc c0]
  rw[hdef]
  repeat(refine wkM ?_;intros)
  exact ZA rfl (Zk rfl) (Zk rfl) (fun w hw=>ZZ hw)
 rw[if_neg c0] at hdef
 simp only[We c0]
 repeat(refine wkM ?_;intros)
 by_cases c2:st=2
 ·rw[if_pos c2] at hdef
  simp only[Wc c2]
  rw[hdef]
  repeat(refine wkM ?_;intros)
  exact ZA rfl (Zk rfl) (Zk rfl) (fun w hw=>ZZ hw)
 rw[if_neg c2] at hdef
 simp only[We c2]
 repeat(refine wkM ?_;intros)
 by_cases c3:st=3
 ·rw[if_pos c3] at hdef
  simp only[Wc c3]
  rw[hdef]
  repeat(refine wkM ?_;intros)
  exact ZA rfl (Zk rfl) (Zk rfl) (fun w hw=>ZZ hw)
 rw[if_neg c3] at hdef
 simp only[We c3]
 repeat(first|(refine wkM ?_;intros)|(refine wnM ?_ ?_;(focus(first|exact hk1|exact htl));intros))
 cases hc:(tmX l x r.Object).any (isT r)
 ·rw[hc,if_pos rfl] at hdef
  rw[hdef]
  repeat(refine wkM ?_;intros)
  exact ZA rfl (Zk rfl) (Zk rfl) (fun w hw=>ZZ hw)
 rw[hc,if_neg (by decide)] at hdef
 repeat(first|(refine wkM ?_;intros)|(refine wnM ?_ ?_;(focus(first|exact hk|exact hkl));intros))
 cases hc2:(kpT s.MaxSpeed (tmX l x r.Object)).any (isT r)
 ·rw[hc2,if_neg (by decide)] at hdef
  rw[hdef]
  repeat(refine wkM ?_;intros)
  exact ZA rfl (Zk rfl) (Zk rfl) (fun w hw=>ZZ hw)
 ·rw[hc2,if_pos rfl] at hdef
  rw[hdef]
  repeat(refine wkM ?_;intros)
  exact ZA rfl (Zk rfl) (Zk rfl) (fun w hw=>ZZ hw)
instance (priority :=high) ZDD (w0:World)(L:List Blk)(px:Nat)(l:List (Zb×Bool))(x:List (Za×Bool))(r:Zb)(s:ZR)[h:InkX w0 L px l x]:SpecM prog w0 L 16 [.pointer (some ⟨px,0,none⟩), .agg (Zd r), .agg (Zv s)] (.tuple #[.int .i64 (explX s.MaxSpeed l x r), .int .i64 0]) (KtX s.MaxSpeed l x):=⟨fun hp w hw=>Zn9 w0 w L px l x r s hw hp⟩
end
end Go.Vt
