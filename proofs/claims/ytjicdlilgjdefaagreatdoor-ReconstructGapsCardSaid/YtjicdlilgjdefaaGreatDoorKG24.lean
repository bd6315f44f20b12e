/- that the gaps between reports are those of the chain (part 24 of 32.) Conditions: those that each statement names. -/
import Derived.Test.YtjicdlilgjdefaaGreatDoorKG11
import Derived.Test.YtjicdlilgjdefaaGreatDoorKG17
import Derived.Test.YtjicdlilgjdefaaGreatDoorKG18
import Derived.Test.YtjicdlilgjdefaaGreatDoorKG22
import Derived.Test.YtjicdlilgjdefaaGreatDoorKG23
set_option linter.unusedSimpArgs false
set_option linter.unusedVariables false
set_option maxHeartbeats 2000000
set_option maxRecDepth 100000
namespace Go.Vt
open Go.RowKit Go.Proofs
open Go.Proofs.Tryz (prog)
section
abbrev Bat :=List Zb×List Za
def bR (bs:List Bat):List Zb:=bs.flatMap (·.1)
def bE (bs:List Bat):List Za:=bs.flatMap (·.2)
theorem Zi9 (l m:List Bat):bR (l++m)=bR l++bR m:=List.flatMap_append
theorem Ziw (l m:List Bat):bE (l++m)=bE l++bE m:=List.flatMap_append
theorem ZpV (x:Bat):bR [x]=x.1:=by simp[bR]
theorem ZpA (x:Bat):bE [x]=x.2:=by simp[bE]
theorem Zl3 {bs:List Bat}{i:Nat}(h:i<bs.length):bR (bs.take (i+1))=bR (bs.take i)++(gi bs (i:Int)).1:=by
 rw[Wn h,Zj h,Zi9,ZpV]
theorem Znf {bs:List Bat}{i:Nat}(h:i<bs.length):bE (bs.take (i+1))=bE (bs.take i)++(gi bs (i:Int)).2:=by
 rw[Wn h,Zj h,Ziw,ZpA]
theorem Zg8 (bs:List Bat)(i:Nat):(bR (bs.take i)).length<=(bR bs).length:=by
 have h:bR bs=bR (bs.take i)++bR (bs.drop i):=by
  unfold bR
  rw[<-List.flatMap_append,List.take_append_drop]
 rw[h,Wp]
 omega
theorem Zhr (bs:List Bat)(i:Nat):(bE (bs.take i)).length<=(bE bs).length:=by
 have h:bE bs=bE (bs.take i)++bE (bs.drop i):=by
  unfold bE
  rw[<-List.flatMap_append,List.take_append_drop]
 rw[h,Wp]
 omega
abbrev AllO (bs:List Bat):Type:=SlS Zd 8 (bR bs)×SlS Zf 5 (bE bs)
set_option maxHeartbeats 8000000 in
theorem Zrm (v:Value)(bs:List Bat)(w:World)(hv:BatA w v bs)(hl:bs.length<=1048576/\(bR bs).length<=1048576/\(bE bs).length<=1048576):
  Calls prog 15 [v].toArray w (RetM (AllO bs) (fun s=> .agg (ZB ⟨slH s.1,slH s.2⟩)) (fun s=>mS 35 s.1++mS 122 s.2) w):=by
 obtain⟨hs,ha,hn,h3,h4⟩:=hv.ex
 have hav:=ArgC.mk ha
 obtain⟨p,cp,rfl⟩:=ha.form
 refine Zg Tryz.func15 rfl Tryz.ntmps15 rfl ?_
 repeat(refine wkM ?_;intros)
 rename_i b2 b3
 refine Zm (S:=(m:Nat)×SlS Zd 8 (bR (bs.take m))×SlS Zf 5 (bE (bs.take m))) (fun q=>q.1<=hs.length) (fun q=>[(0, .slice p hs.length cp),(2, .pointer (some ⟨b2,0,none⟩)),(3, .pointer (some ⟨b3,0,none⟩)),(4, .int .i64 (q.1:Nat))]) (fun q=>mS 122 q.2.2++(mS 35 q.2.1++[⟨b3,ZB ⟨slH q.2.1,slH q.2.2⟩,40⟩,⟨b2,ZB Zcz,40⟩])) (fun q=>hs.length-q.1) ⟨0,SlS.no,SlS.no⟩ (Wm _) sbB (by rw[Ztn];exact suB) (fun q hm=>?_)
 obtain⟨m,r,e⟩:=q
 simp only at hm⊢
 repeat(refine wkM ?_;intros)
 refine Zl rfl (fun h1=>?_) (fun h1=>?_)
 ·have hlt:m<hs.length:=by have:=Wa h1;omega
  obtain⟨bw,ow,rfl,hrow'⟩:=ha.opn (k:=1) hlt
  have hra:=fun L=>(h3 m hlt).lst L
  have hea:=fun L=>(h4 m hlt).lst L
  have t1:=Zl3 (bs:=bs) (i:=m) (by omega)
  have t2:=Znf (bs:=bs) (i:=m) (by omega)
  have t3:=Zg8 bs (m+1)
  have t4:=Zhr bs (m+1)
  have t5:=congrArg List.length t1
  have t6:=congrArg List.length t2
  rw[Wp] at t5 t6
  repeat(refine wkM ?_;intros)
  (refine ZX (.v [0,2,3,4,5,6] (.e1 1 (.e1 7 (.v [8] (.e1 9 (.fin)))))) ([]) (h:=?_);refine wkX ?_)
  (repeat(refine wkH ?_))
  repeat(refine wkT ?_;intros)
  refine eVA rfl rfl ?_ ?_ ?_
  ·rfl
  ·exact⟨by omega,by omega⟩
  intro r'
  repeat(refine wkT ?_;intros)
  repeat(refine wkM ?_;intros)
  (refine ZX (.v [0,2,3,4,5,6] (.e1 1 (.e1 7 (.v [8] (.e1 9 (.fin)))))) ([]) (h:=?_);refine wkX ?_)
  (repeat(refine wkH ?_))
  repeat(refine wkT ?_;intros)
  refine eVA rfl rfl ?_ ?_ ?_
  ·rfl
  ·exact⟨by omega,by omega⟩
  intro e'
  repeat(refine wkT ?_;intros)
  repeat(refine wkO ?_;intros)
  obtain⟨r3,e1,e2⟩:=SlS.turn 35 t1.symm r'
  obtain⟨u3,e3,e4⟩:=SlS.turn 122 t2.symm e'
  have e5:=Zcy e1
  have e6:=Zcy e3
  exact Zh ⟨m+1,r3,u3⟩ hlt sbB (by simp only[e2,e4,e5,e6];exact suB) (by show hs.length-(m+1)<hs.length-m;omega)
 ·have hge:m=hs.length:=by have:=Wb h1;omega
  obtain⟨r3,e1,e2⟩:=SlS.turn 35 (show bR (bs.take m)=bR bs by rw[List.take_of_length_le (by omega)]) r
  obtain⟨u3,e3,e4⟩:=SlS.turn 122 (show bE (bs.take m)=bE bs by rw[List.take_of_length_le (by omega)]) e
  have e5:=Zcy e1
  have e6:=Zcy e3
  repeat(refine wkM ?_;intros)
  refine ZcH rfl rfl (fun w hw=>⟨(r3,u3), ?_, ?_⟩)
  ·dsimp only
   rw[e5,e6]
  ·show Own _ (mS _ r3++mS _ u3) w
   rw[e2,e4]
   refine(hw.sub (?_:(mS _ e++mS _ r:List Blk).Sublist _)).perm List.perm_append_comm
   exact suB
instance ZJk (w0:World)(L:List Blk)(v:Value)(bs:List Bat)[h:BatC w0 L v bs]:SpecR prog w0 L 15 [v] (AllO bs) (fun s=> .agg (ZB ⟨slH s.1,slH s.2⟩)) (fun s=>mS 35 s.1++mS 122 s.2) (bs.length<=1048576/\(bR bs).length<=1048576/\(bE bs).length<=1048576):=⟨fun hp w hw=>Zrm v bs w (h.out w hw) hp⟩
structure InkO (rs:List Zb)(es:List Za) where
 px:Nat
 m1:Nat
 m2:Nat
 R:List (Zb×Bool)
 X:List (Za×Bool)
 r:AddOk [] R rs
 e:AddOk [] X es
def InkO.mem {rs:List Zb}{es:List Za}(s:InkO rs es):List Blk:=[⟨s.m1, .obj (mRp s.R),177⟩,⟨s.m2, .obj (mEx s.X),178⟩,⟨s.px,vIn s.m1 s.m2,180⟩]
theorem AddOk.nil {κ:Type}[DecidableEq κ]:AddOk ([]:List (κ×Bool)) [] []:=⟨SetM.nil,fun k=>by simp,Wl _⟩
theorem AddOk.then {κ:Type}[DecidableEq κ]{R R' R2:List (κ×Bool)}{rs ks:List κ}(h:AddOk R R' rs)(k:AddOk R' R2 ks):AddOk R R2 (rs++ks):=⟨k.sm,fun z=>by
 rw[k.mem,h.mem,Wv,or_assoc],by
 have h1:=h.len
 have h2:=k.len
 rw[Wp]
 omega⟩
set_option maxHeartbeats 8000000 in
theorem Zlq (v:Value)(bs:List Bat)(w:World)(hv:BatA w v bs)(hl:bs.length<=1048576/\(bR bs).length<=4096/\(bE bs).length<=4096)(hr:∀r∈bR bs,RepV r)(he:∀y∈bE bs,ExV y):
  Calls prog 17 [v].toArray w (RetM (InkO (bR bs) (bE bs)) (fun s=> .pointer (some ⟨s.px,0,none⟩)) (fun s=>s.mem) w):=by
 obtain⟨hs,ha,hn,h3,h4⟩:=hv.ex
 have hav:=ArgC.mk ha
 obtain⟨p,cp,rfl⟩:=ha.form
 refine Zg Tryz.func17 rfl Tryz.ntmps17 rfl ?_
 repeat(refine wkM ?_;intros)
 rename_i s0
 refine ZhR [⟨s0.2.1, .obj (mRp []),177⟩,⟨s0.2.2, .obj (mEx []),178⟩,⟨s0.1,vIn s0.2.1 s0.2.2,180⟩] (List.reverse_perm _).symm ?_
 refine Zm (S:=(m:Nat)×InkO (bR (bs.take m)) (bE (bs.take m))) (fun q=>q.1<=hs.length) (fun q=>[(0, .slice p hs.length cp),(3, .pointer (some ⟨q.2.px,0,none⟩)),(4, .int .i64 (q.1:Nat))]) (fun q=>q.2.mem) (fun q=>hs.length-q.1) ⟨0,s0.1,s0.2.1,s0.2.2,[],[],AddOk.nil,AddOk.nil⟩ (Wm _) sbB (Wj _) (fun q hm=>?_)
 obtain⟨m,px,m1,m2,R,X,okR,okX⟩:=q
 simp only[InkO.mem] at hm⊢
 repeat(refine wkM ?_;intros)
 refine Zl rfl (fun h1=>?_) (fun h1=>?_)
 ·have hlt:m<hs.length:=by have:=Wa h1;omega
  obtain⟨bw,ow,rfl,hrow'⟩:=ha.opn (k:=1) hlt
  have h3':=h3 m hlt
  have h4':=h4 m hlt
  obtain⟨xr,xe,hx⟩:∃xr xe,gi hs (m:Int)=⟨xr,xe⟩:=⟨_,_,rfl⟩
  rw[hx] at h3' h4'
  have hra:=ArgC.mk h3'
  have hea:=ArgC.mk h4'
  have t1:=Zl3 (bs:=bs) (i:=m) (by omega)
  have t2:=Znf (bs:=bs) (i:=m) (by omega)
  have t3:=Zg8 bs (m+1)
  have t4:=Zhr bs (m+1)
  have t5:=congrArg List.length t1
  have t6:=congrArg List.length t2
  rw[Wp] at t5 t6
  have k1:=okR.len
  have k2:=okX.len
  rw[Wx,Nat.zero_add] at k1 k2
  have hmr:gi bs (m:Int)∈bs:=ZI (by omega)
  have hpre:R.length+(gi bs (m:Int)).1.length<=4096/\X.length+(gi bs (m:Int)).2.length<=4096/\SetM R/\SetM X/\(∀r∈(gi bs (m:Int)).1,RepV r)/\∀y∈(gi bs (m:Int)).2,ExV y:=⟨by omega,by omega,okR.sm,okX.sm,fun r h=>hr r (List.mem_flatMap.2 ⟨_,hmr,h⟩),fun y h=>he y (List.mem_flatMap.2 ⟨_,hmr,h⟩)⟩
  repeat(refine wkM ?_;intros)
  simp only[hx]
  repeat(refine wkM ?_;intros)
  refine sZ rfl rfl hpre ?_
  intro q
  repeat(refine wkO ?_;intros)
  exact Zh ⟨m+1,px,m1,m2,q.1.1.1,q.1.1.2,by rw[t1];exact okR.then q.2.1,by rw[t2];exact okX.then q.2.2⟩ hlt sbB (Wj _) (by show hs.length-(m+1)<hs.length-m;omega)
 ·have hge:m=hs.length:=by have:=Wb h1;omega
  have e1:bs.take m=bs:=List.take_of_length_le (by omega)
  repeat(refine wkM ?_;intros)
  rw[e1] at okR okX
  exact Zy rfl rfl (fun w hw=>⟨⟨px,m1,m2,R,X,okR,okX⟩,rfl,hw⟩)
instance ZBY (w0:World)(L:List Blk)(v:Value)(bs:List Bat)[h:BatC w0 L v bs]:SpecR prog w0 L 17 [v] (InkO (bR bs) (bE bs)) (fun s=> .pointer (some ⟨s.px,0,none⟩)) (fun s=>s.mem) ((bs.length<=1048576/\(bR bs).length<=4096/\(bE bs).length<=4096)/\(∀r∈bR bs,RepV r)/\∀y∈bE bs,ExV y):=⟨fun hp w hw=>Zlq v bs w (h.out w hw) hp.1 hp.2.1 hp.2.2⟩
end
section
theorem Zfy (a:Addr)(x y:Nat):(a.add x).add y=a.add (x+y):=by
 simp only[Addr.add]
 by_cases h1:x=0
 ·subst h1
  simp
 ·by_cases h2:y=0
  ·subst h2
   simp[h1]
  ·have h3:¬x+y=0:=by omega
   simp[h1,h2,Nat.add_assoc]
def dropA (p:Option Addr)(c k s:Nat):Option Addr:=if c=k then p else p.map (·.add (k*s))
section
variable {P : Program} {w0 : World} {n : Nat} {L : List Blk} {E : Env} {x z1 : Operand} {T : TypeId}
instance (priority :=low) ZHW {e s l c k:Nat}{p:Option Addr}[IsC (evl E x) (.slice p l c)][hy:IsC (evl E z1) (.int .i64 (k:Nat))][h:UndC P T (.slice e)][hs:SizeC P e s]:YsC P w0 n L E (.slice T x none (some z1) none) (.slice p k c) (k<=c/\l<=c):=⟨fun hi d ty pos aft gd=>
 ZaC (fun _=>Instr.sliceAt T (.slice p l c) none (some (.int .i64 (k:Nat))) none) (fun a ha=>by simp only[execOp,ha.ev (isE (x:=x)),Option.map_none,Option.map_some,ha.ev (isE (x:=z1))]) (fun a w _ _=>by
  have h3:(if c=0 then p else p.map (·.add (0*s)))=p:=by
   split
   ·rfl
   ·cases p
    ·rfl
    ·simp[Addr.add]
  simp only[Nat.zero_mul] at h3
  simp[Instr.sliceAt,Instr.slice,run_underlying h.out,Instr.sliceBounds,Instr.sliceBound,asIntOf,ZaF hs.out,hi.1,hi.2,h3])⟩
instance (priority :=low) ZIA {e s l c k:Nat}{p:Option Addr}[IsC (evl E x) (.slice p l c)][hy:IsC (evl E z1) (.int .i64 (k:Nat))][h:UndC P T (.slice e)][hs:SizeC P e s]:YsC P w0 n L E (.slice T x (some z1) none none) (.slice (dropA p c k s) (l-k) (c-k)) (k<=l/\l<=c):=⟨fun hi d ty pos aft gd=>
 ZaC (fun _=>Instr.sliceAt T (.slice p l c) (some (.int .i64 (k:Nat))) none none) (fun a ha=>by simp only[execOp,ha.ev (isE (x:=x)),Option.map_none,Option.map_some,ha.ev (isE (x:=z1))]) (fun a w _ _=>by
  simp[Instr.sliceAt,Instr.slice,run_underlying h.out,Instr.sliceBounds,Instr.sliceBound,asIntOf,ZaF hs.out,hi.1,hi.2,dropA])⟩
end
theorem ArgS.take {α:Type}{enc:α->Array Value}{xs:List α}{w:World}{p:Option Addr}{n c:Nat}(h:ArgS w (.slice p n c) enc xs)(k:Nat)(hk:k<=xs.length):ArgS w (.slice p k c) enc (xs.take k):=by
 have hl:(xs.take k).length=k:=by rw[Wt];omega
 rcases h.out with⟨h1,h2⟩|⟨a,c',h1,h2,h3⟩
 ·subst h2
  injection h1 with e1 e2 e3
  subst e1 e3
  have:k=0:=by simpa using hk
  subst this
  exact⟨.inl ⟨rfl,rfl⟩⟩
 ·injection h1 with e1 e2 e3
  subst e1 e3
  refine⟨.inr ⟨a,c,by rw[hl],by omega,fun i f k' u hi hs hu=>?_⟩⟩
  rw[List.getElem_take] at hu
  exact h3 i f k' u (by omega) hs hu
theorem ArgS.drop {α:Type}{enc:α->Array Value}{s:Nat}[he:EncC enc s]{xs:List α}{w:World}{p:Option Addr}{n c:Nat}(h:ArgS w (.slice p n c) enc xs)(k:Nat)(hk:k<=n):ArgS w (.slice (dropA p c k s) (n-k) (c-k)) enc (xs.drop k):=by
 rcases h.out with⟨h1,h2⟩|⟨a,c',h1,h2,h3⟩
 ·subst h2
  injection h1 with e1 e2 e3
  subst e1 e2 e3
  have:k=0:=by omega
  subst this
  refine⟨.inl ⟨?_,rfl⟩⟩
  unfold dropA
  rfl
 ·injection h1 with e1 e2 e3
  subst e1 e2 e3
  have hl:(xs.drop k).length=xs.length-k:=List.length_drop
  by_cases hc:c=k
  ·have hd:xs.drop k=[]:=List.drop_of_length_le (by omega)
   rw[hd]
   refine⟨.inr ⟨a,c-k, ?_,by simp,fun i f k' u hi=>absurd hi (by simp)⟩⟩
   unfold dropA
   rw[if_pos hc,show xs.length-k=0 by omega]
   rfl
  ·refine⟨.inr ⟨a.add (k*s),c-k, ?_,by omega,fun i f k' u hi hs hu=>?_⟩⟩
   ·unfold dropA
    rw[if_neg hc,hl]
    rfl
   ·rw[List.getElem_drop] at hu
    have hks:k'=s:=by
     have hi':k+i<xs.length:=by omega
     rw[<-hs xs[k+i],he.size xs[k+i]]
    subst hks
    have:=h3 (k+i) f k' u (by omega) hs hu
    rw[Nat.add_mul,Nat.add_assoc] at this
    have e:(a.add (k*k')).add (i*k'+f)=a.add (k*k'+(i*k'+f)):=Zfy a _ _
    rw[e]
    exact this
class OwnF {α:Type}{enc:α->Array Value}{k:Nat}{xs:List α}(T:TypeId)(s:FlS enc k xs)(L:List Blk)(L1:outParam (List Blk)):Prop where
 out:L.Perm (mF T s++L1)
section
variable {α : Type} {enc : α -> Array Value} {k : Nat} {xs : List α}
instance (priority :=high) ofHere (T:TypeId)(s:FlS enc k xs)(L:List Blk):OwnF T s (mF T s++L) L:=⟨.refl _⟩
instance (priority :=low) ofThere (T:TypeId)(s:FlS enc k xs)(e:Blk)(L L1:List Blk)[h:OwnF T s L L1]:OwnF T s (e::L) (e::L1):=⟨(h.out.cons e).trans List.perm_middle.symm⟩
instance (priority :=low) ofSkip (T:TypeId)(s:FlS enc k xs)(A L L1:List Blk)[h:OwnF T s L L1]:OwnF T s (A++L) (A++L1):=⟨by
 refine(h.out.append_left A).trans ?_
 rw[<-List.append_assoc,<-List.append_assoc]
 exact List.perm_append_comm.append_right _⟩
theorem FlS.like (s:FlS enc k xs){ys:List α}(h:ys=xs):∃s':FlS enc k ys,vF s'=vF s/\∀T,mF T s'=mF T s:=by
 subst h
 exact⟨s,rfl,fun _=>rfl⟩
def FlS.em (b:Nat):FlS enc k []:=⟨some (b,0,[]),(fun h=>by cases h),fun t ht=>by injection ht with ht;subst ht;exact⟨Wl _,by simp⟩⟩
instance (priority :=low) ofDel (T:TypeId)(b:Nat)(L L1:List Blk)[h:DelC b L (row enc [] []) T L1]:OwnF T (FlS.em b:FlS enc k []) L L1:=⟨h.out⟩
theorem FlS.sl (s:FlS enc k xs)(h:xs≠[]):∃s':SlS enc k xs,vSl s'=vF s/\∀T,mS T s'=mF T s:=by
 rcases s.cases 0 with⟨h0, -, -⟩|⟨b,c,sp,h1,h2, -⟩
 ·exact absurd h0 h
 ·obtain⟨s,h3,h4⟩:=s
  cases s with
  |none=>exact absurd (h3 rfl) h
  |some t=>exact⟨SlS.at_ t.1 t.2.1 t.2.2 (h4 t rfl) h,rfl,fun _=>rfl⟩
end
section
variable {P : Program} {w0 : World} {n : Nat} {ops : Array Oper} {L L1 : List Blk} {E : Env}
variable {Q : Exit -> Act -> World -> Prop} {rest : List Oper}
variable {ty : TypeId} {pos : String} {aft : Array Edge} {gd : Option (Nat × Bool)} {t : Tmp} {x y : Operand}
variable {α : Type} {enc : α -> Array Value} {S T : TypeId} {k B : Nat} {xs ys : List α} {v : Value} {z : Value} {zc : Array Value} {s : FlS enc (k + 1) xs}
variable [hx : IsC (evl E x) (vF s)] [hy : IsC (evl E y) v] [hl : LstC w0 L v α enc ys] [hd : OwnF T s L L1] [hT : UndC P S (.slice T)] [hz : ZeroC P T z zc] [he : EncC enc (k + 1)] [hk : SizeC P T (k + 1)] [hB : BytesC P T B]
include hx hy hd hl hT hz he hk hB
theorem Zjd (hzk:zc.size=k+1)(hb:(xs.length+ys.length)*B<=140737488355328/\xs.length+ys.length<=9223372036854775807)(a:Act)(w:World)(ha:Rep n E a)(hw:Own w0 L w):
  ∃s':FlS enc (k+1) (xs++ys),∃w',(execOp a.eval ⟨some t, .call ⟨.builtin .append,#[x,y],#[S,S]⟩,ty,pos,aft,gd⟩).run P w= .ok (.value (vF s')) w'/\Own w0 (mF T s'++L1) w':=by
 have hp:=hw.perm hd.out
 have hlen:(xs++ys).length=xs.length+ys.length:=Wp
 have hv:=hl.out w hw
 by_cases h0:ys=[]
 ·subst h0
  obtain⟨s',e1,e2⟩:=s.like (Wh xs)
  obtain⟨i,hi, -⟩:=Zbx hk.out
  refine⟨s',w, ?_,by rw[e2];exact hp⟩
  rw[e1]
  have hx':Env.ev E x=some (vF s):=by rw[<-ZaL,hx.out]
  have hy':Env.ev E y=some v:=by rw[<-ZaL,hy.out]
  refine ZaM (d:=some t) (pos:=pos) (aft:=aft) (gd:=gd) ha hx' hy' ?_
  rcases hv.out with⟨hv0, -⟩|⟨a2,c2,hv0, -, -⟩
  ·rw[hv0]
   rcases s.cases T with⟨-,hv, -⟩|⟨b,c,sp,h1,hv, -⟩
   ·rw[hv]
    exact Zb1 hT.out hi (.inl ⟨rfl,rfl,rfl⟩)
   ·rw[hv]
    exact Zb1 hT.out hi (.inr ⟨b,rfl,h1.1⟩)
  ·rw[hv0]
   rcases s.cases T with⟨-,hv, -⟩|⟨b,c,sp,h1,hv, -⟩
   ·rw[hv]
    exact ZcM hT.out hi (.inl ⟨rfl,rfl,rfl⟩)
   ·rw[hv]
    exact ZcM hT.out hi (.inr ⟨b,rfl,h1.1⟩)
 ·obtain⟨b2,o2,c2,hv2,hc2,hrow⟩:=hv.blk (k:=k) h0 []
  obtain⟨cs2,T2,fz,hf,hcell⟩:=hrow.out w (Own.start w)
  have hm:0<ys.length:=List.length_pos_iff.2 h0
  have hne:xs++ys≠[]:=fun h0=>by rw[h0,Wx] at hlen;omega
  have hy':Env.ev E y=some (.slice (some ⟨b2,o2,none⟩) ys.length c2):=by rw[<-ZaL,hy.out,hv2]
  have hcs:∀j v,(rowL enc ys)[j]? =some v->cs2[o2+j]? =some v:=fun j v hv=>by
   have hj:j<ys.length*(k+1):=by
    rw[<-Z9 (enc:=enc) (k:=k+1) ys]
    rcases Nat.lt_or_ge j (rowL enc ys).length with h|h
    ·exact h
    ·rw[List.getElem?_eq_none h] at hv;cases hv
   have hi:j / (k+1)<ys.length:=Nat.div_lt_of_lt_mul (by rw[Nat.mul_comm];exact hj)
   have hf:j % (k+1)<k+1:=Nat.mod_lt _ (Nat.succ_pos _)
   have e:j / (k+1)*(k+1)+j % (k+1)=j:=by rw[Nat.mul_comm];exact Nat.div_add_mod j (k+1)
   have hg:=Ze0 (enc:=enc) (k:=k+1) ys (j / (k+1)) (j % (k+1)) hi hf
   rw[e,hv] at hg
   have:=(hcell _ _ (k+1) v hi he.size hg.symm).1
   rw[Nat.add_assoc,e] at this
   exact this
  rcases s.cases T with⟨rfl,hv,hm0⟩|⟨b,c,sp,h1,hv,hm1⟩
  ·have hx':Env.ev E x=some (.slice none 0 0):=by rw[<-ZaL,hx.out,hv]
   rw[hm0,Wg] at hp
   obtain⟨s,w',hr,ho⟩:=Zdo (L:=L1) (ty:=ty) (b2:=b2) (off2:=o2) (m:=ys.length) (c2:=c2) (news:=rowL enc ys) hT.out hz.out hz.cells hk.out hB.out hzk hp ⟨T2,fz,hf⟩ (by rw[Z9 (k:=k+1)]) hcs hm (by simpa using hb.1) (by simpa using hb.2)
   refine⟨⟨some s.1,(fun h=>by cases h),fun t ht=>by injection ht with ht;subst ht;rw[Wg];exact s.2⟩,w', ?_,ho⟩
   have h3:=ZaM (d:=some t) (pos:=pos) (aft:=aft) (gd:=gd) ha hx' hy' hr
   rw[h3]
   rfl
  ·have hx':Env.ev E x=some (.slice (some ⟨b,0,none⟩) xs.length c):=by rw[<-ZaL,hx.out,hv]
   rw[hm1] at hp
   obtain⟨s,w',hr,ho⟩:=ZeQ (L1:=L1) (ty:=ty) (b:=b) (len:=xs.length) (c:=c) (b2:=b2) (off2:=o2) (m:=ys.length) (c2:=c2) (xs:=rowL enc xs) (sp:=sp) (news:=rowL enc ys) hT.out hz.out hz.cells hk.out hB.out hzk hp (.refl _) (Z9 xs) h1.2 h1.1 ⟨T2,fz,hf⟩ (by rw[Z9 (k:=k+1)]) hcs (ZcI ys) hb.1 hb.2
   refine⟨⟨some s.1,(fun h=>by cases h),fun t ht=>by injection ht with ht;subst ht;rw[hlen];exact s.2⟩,w', ?_, ?_⟩
   ·have h3:=ZaM (d:=some t) (pos:=pos) (aft:=aft) (gd:=gd) ha hx' hy' hr
    rw[h3]
    show _=Result.ok (Next.value (Value.slice _ (xs++ys).length _)) w'
    rw[hlen]
   ·show Own w0 (⟨s.1.1,row enc (xs++ys) s.1.2.2,T⟩::L1) w'
    rw[row,Zbf]
    exact ho
theorem sVF (hg:guardB ops E gd=some true)(hd':Nat.blt t n=true)(hzk:zc.size=k+1)(hb:(xs.length+ys.length)*B<=140737488355328/\xs.length+ys.length<=9223372036854775807)
  (h:∀s':FlS enc (k+1) (xs++ys),JO P w0 n ops Q rest ((t,vF s')::E) (mF T s'++L1)):JO P w0 n ops Q (⟨some t, .call ⟨.builtin .append,#[x,y],#[S,S]⟩,ty,pos,aft,gd⟩::rest) E L:=
 Zcs (L':=FlS enc (k+1) (xs++ys)) (o:=⟨some t, .call ⟨.builtin .append,#[x,y],#[S,S]⟩,ty,pos,aft,gd⟩) hg hd' (fun s=>vF s) (fun s=>mF T s++L1)
  (fun a w ha hw=>by
   obtain⟨s,w',hr,ho⟩:=Zjd (hx:=hx) (hy:=hy) (hl:=hl) (hd:=hd) (hT:=hT) (hz:=hz) (he:=he) (hk:=hk) (hB:=hB) hzk hb a w ha hw
   exact⟨s,w', .inl hr,ho⟩) h
theorem eVF {K:Env->List Blk->Prop}{Lw:List Blk}(hg:guardB ops E gd=some true)(hd':Nat.blt t n=true)[hw:SblC Lw L1](hzk:zc.size=k+1)(hb:(xs.length+ys.length)*B<=140737488355328/\xs.length+ys.length<=9223372036854775807)
  (h:∀s':FlS enc (k+1) (xs++ys),JE P w0 n ops Lw K rest ((t,vF s')::E) (mF T s'++L1)):JE P w0 n ops Lw K (⟨some t, .call ⟨.builtin .append,#[x,y],#[S,S]⟩,ty,pos,aft,gd⟩::rest) E L:=
 Zcw (S:=FlS enc (k+1) (xs++ys)) (o:=⟨some t, .call ⟨.builtin .append,#[x,y],#[S,S]⟩,ty,pos,aft,gd⟩) hg hd' (fun s=>vF s) (fun s=>mF T s++L1)
  (fun a w ha hw=>by
   obtain⟨s,w',hr,ho⟩:=Zjd (hx:=hx) (hy:=hy) (hl:=hl) (hd:=hd) (hT:=hT) (hz:=hz) (he:=he) (hk:=hk) (hB:=hB) hzk hb a w ha hw
   exact⟨s,w', .inl hr,ho⟩) (fun _=>Zaq (hw.out.trans (List.sublist_append_right _ _))) h
end
end
section
theorem ZpB (a:Zb):leRp a a:=by
 unfold leRp cmpRp
 rw[ZiP]
 decide
theorem Ze5 {α:Type}{le:α->α->Prop}:∀{l l':List α},(∀x∈l,∀y∈l,le x y->le y x->x=y)->l.Nodup->l'.Nodup->l.Pairwise le->l'.Pairwise le->(∀x,x∈l↔x∈l')->l=l'
 |[],[],_,_,_,_,_,_=>rfl
 |[],b::l',_,_,_,_,_,h=>absurd ((h b).2 (.head _)) (by simp)
 |a::l,[],_,_,_,_,_,h=>absurd ((h a).1 (.head _)) (by simp)
 |a::l,b::l',an,n1,n2,p1,p2,h=>by
  have e:a=b:=by
   rcases List.mem_cons.1 ((h a).1 (.head _)) with h1|h1
   ·exact h1
   ·rcases List.mem_cons.1 ((h b).2 (.head _)) with h2|h2
    ·exact h2.symm
    ·exact an a (.head _) b (.tail _ h2) ((List.pairwise_cons.1 p1).1 _ h2) ((List.pairwise_cons.1 p2).1 _ h1)
  subst e
  rw[Ze5 (fun x hx y hy=>an x (.tail _ hx) y (.tail _ hy)) (List.nodup_cons.1 n1).2 (List.nodup_cons.1 n2).2 (List.pairwise_cons.1 p1).2 (List.pairwise_cons.1 p2).2 fun x=>?_]
  have h3:=h x
  constructor
  ·intro hx
   rcases List.mem_cons.1 (h3.1 (.tail _ hx)) with h4|h4
   ·subst h4;exact((List.nodup_cons.1 n1).1 hx).elim
   ·exact h4
  ·intro hx
   rcases List.mem_cons.1 (h3.2 (.tail _ hx)) with h4|h4
   ·subst h4;exact((List.nodup_cons.1 n2).1 hx).elim
   ·exact h4
theorem ZgU {κ α:Type}[DecidableEq κ]{p:κ×α}:∀{l:List (κ×α)},(l.map (·.1)).Nodup->(p∈l↔mget l p.1=some p.2)
 |[],_=>by simp[mget]
 |q::l,h=>by
  obtain⟨h1,h2⟩:=List.nodup_cons.1 h
  have ih:=ZgU (p:=p) h2
  rw[mget,Ww]
  split
  ·rename_i he
   constructor
   ·rintro(rfl|h3)
    ·rfl
    ·exact(h1 (List.mem_map.2 ⟨p,h3,he⟩)).elim
   ·intro h3
    injection h3 with h3
    exact .inl (Prod.ext he h3.symm)
  ·rename_i he
   rw[<-ih]
   constructor
   ·rintro(rfl|h3)
    ·exact(he rfl).elim
    ·exact h3
   ·exact .inr
structure WinI (m:List (ZF×Zb))(p:List Zb):Prop where
 get:∀i w,mget m i=some w->w∈p/\idR w=i/\∀r∈p,idR r=i->leRp r w
 has:∀r∈p,∃w,mget m (idR r)=some w
theorem WinI.step {m:List (ZF×Zb)}{p:List Zb}(h:WinI m p)(r:Zb):WinI (winS m r) (p++[r]):=by
 have hput:(∀w,mget m (idR r)=some w->leRp w r)->WinI (mput m (idR r) r) (p++[r]):=fun hw=>by
  refine⟨fun i w hi=>?_,fun z hz=>?_⟩
  ·rw[ZaE] at hi
   split at hi
   ·rename_i he
    injection hi with hi
    subst hi he
    refine⟨List.mem_append_right _ (.head _),rfl,fun z hz hi=>?_⟩
    rcases List.mem_append.1 hz with h1|h1
    ·obtain⟨w,h2⟩:=h.has z h1
     rw[hi] at h2
     exact ZmL ((h.get _ _ h2).2.2 z h1 hi) (hw w h2)
    ·rw[Wo] at h1
     subst h1
     exact ZpB _
   ·rename_i he
    obtain⟨h1,h2,h3⟩:=h.get i w hi
    refine⟨List.mem_append_left _ h1,h2,fun z hz hi=>?_⟩
    rcases List.mem_append.1 hz with h4|h4
    ·exact h3 z h4 hi
    ·rw[Wo] at h4
     subst h4
     exact(he hi.symm).elim
  ·rw[ZaE]
   split
   ·exact⟨_,rfl⟩
   ·rename_i he
    rcases List.mem_append.1 hz with h4|h4
    ·exact h.has z h4
    ·rw[Wo] at h4
     subst h4
     exact(he rfl).elim
 unfold winS
 split
 ·rename_i hn
  exact hput fun w hw=>by rw[hn] at hw;cases hw
 ·rename_i w hs
  split
  ·rename_i hc
   refine hput fun w' hw=>?_
   rw[hs] at hw
   injection hw with hw
   subst hw
   unfold leRp cmpRp at*
   rw[ZcJ]
   omega
  ·rename_i hc
   refine⟨fun i w' hi=>?_,fun z hz=>?_⟩
   ·obtain⟨h1,h2,h3⟩:=h.get i w' hi
    refine⟨List.mem_append_left _ h1,h2,fun z hz hzi=>?_⟩
    rcases List.mem_append.1 hz with h4|h4
    ·exact h3 z h4 hzi
    ·rw[Wo] at h4
     subst h4
     rw[hzi,hi] at hs
     injection hs with hs
     subst hs
     unfold leRp
     omega
   ·rcases List.mem_append.1 hz with h4|h4
    ·exact h.has z h4
    ·rw[Wo] at h4
     subst h4
     exact⟨w,hs⟩
theorem ZwG (rs:List Zb):WinI (winR rs) rs:=by
 have key:∀(rs p:List Zb)(m:List (ZF×Zb)),WinI m p->WinI (rs.foldl winS m) (p++rs):=by
  intro rs
  induction rs with
  |nil=>intro p m h;rw[Wh];exact h
  |cons r rs ih=>
   intro p m h
   have:=ih (p++[r]) _ (h.step r)
   rw[List.append_assoc] at this
   exact this
 exact key rs [] [] ⟨fun i w h=>by simp[mget] at h,fun r h=>by cases h⟩
theorem ZkE {rs:List Zb}{i:ZF}{w:Zb}:mget (winR rs) i=some w↔w∈rs/\idR w=i/\∀r∈rs,idR r=i->leRp r w:=by
 have h:=ZwG rs
 constructor
 ·exact h.get i w
 ·rintro⟨h1,h2,h3⟩
  obtain⟨u,hu⟩:=h.has w h1
  rw[h2] at hu
  obtain⟨g1,g2,g3⟩:=h.get i u hu
  rw[hu,Zfz (h3 u g1 g2) (g3 w h1 h2)]
theorem ZgJ {rs ks:List Zb}{i:ZF}(h:∀r,idR r=i->(r∈rs↔r∈ks)):mget (winR rs) i=mget (winR ks) i:=by
 have h1:∀w,mget (winR rs) i=some w↔mget (winR ks) i=some w:=fun w=>by
  rw[ZkE,ZkE]
  constructor
  ·rintro⟨h1,h2,h3⟩
   exact⟨(h w h2).1 h1,h2,fun r hr hi=>h3 r ((h r hi).2 hr) hi⟩
  ·rintro⟨h1,h2,h3⟩
   exact⟨(h w h2).2 h1,h2,fun r hr hi=>h3 r ((h r hi).1 hr) hi⟩
 cases hc:mget (winR rs) i with
 |some w=>exact((h1 w).1 hc).symm
 |none=>
  cases hd:mget (winR ks) i with
  |some w=>
   have:=(h1 w).2 hd
   rw[hc] at this
   cases this
  |none=>rfl
theorem Ze8 {rs:List Zb}{r:Zb}:r∈cntR rs↔r.Cancel=false/\mget (winR rs) (idR r)=some r:=by
 have hW:=Zga rs
 unfold cntR cntL
 rw[(Za2 _).mem_iff,List.mem_filter,List.mem_map]
 constructor
 ·rintro⟨⟨p,hp,rfl⟩,hc⟩
  refine⟨by simpa using hc, ?_⟩
  rw[hW.id p hp]
  exact(ZgU hW.nd).1 hp
 ·rintro⟨hc,hm⟩
  exact⟨⟨(idR r,r),(ZgU hW.nd).2 hm,rfl⟩,by simp[hc]⟩
theorem Zfh (rs:List Zb):(cntR rs).Nodup:=(Za2 _).nodup_iff.2 (Zhz (Zga rs))
theorem ZjY (rs:List Zb):(cntR rs).Pairwise leRp:=Zfk _
theorem Zl5 {r z:Zb}(h:idR r=idR z):r.Object=z.Object:=by
 have:=congrArg ZF.object h
 exact this
theorem Zt5 {rs ks:List Zb}{o:Int}(h:∀r,r.Object=o->(r∈rs↔r∈ks)):ofL rs o=ofL ks o:=by
 refine Ze5 (le:=leRp) (fun x _ y _=>Zfz) ((Zfh rs).filter _) ((Zfh ks).filter _) ((ZjY rs).filter _) ((ZjY ks).filter _) fun r=>?_
 unfold ofL
 rw[List.mem_filter,List.mem_filter,Ze8,Ze8]
 constructor
 ·rintro⟨⟨h1,h2⟩,h3⟩
  have ho:r.Object=o:=Wa h3
  refine⟨⟨h1, ?_⟩,h3⟩
  rw[<-ZgJ fun z hz=>h z ((Zl5 hz).trans ho)]
  exact h2
 ·rintro⟨⟨h1,h2⟩,h3⟩
  have ho:r.Object=o:=Wa h3
  refine⟨⟨h1, ?_⟩,h3⟩
  rw[ZgJ fun z hz=>h z ((Zl5 hz).trans ho)]
  exact h2
theorem Zps {rs ks:List Zb}{r:Zb}(h:∀r,r∈rs↔r∈ks):statR rs r=statR ks r:=by
 have h1:(rs.any fun x=>decide (r=x))=(ks.any fun x=>decide (r=x)):=by
  rw[Bool.eq_iff_iff,List.any_eq_true,List.any_eq_true]
  constructor
  ·rintro⟨x,hx,he⟩;exact⟨x,(h x).1 hx,he⟩
  ·rintro⟨x,hx,he⟩;exact⟨x,(h x).2 hx,he⟩
 unfold statR
 rw[h1,ZgJ fun z _=>h z]
end
section
def leTm (a b:Zc):Prop:=a.T<b.T\/(a.T=b.T/\a.Report.Seq<=b.Report.Seq)
instance (a b:Zc):Decidable (leTm a b):=by unfold leTm;infer_instance
theorem ZhJ {a b c:Zc}(h:leTm a b)(k:leTm b c):leTm a c:=by
 unfold leTm at*
 rcases h with h|⟨h,h'⟩ <;> rcases k with k|⟨k,k'⟩
 ·exact .inl (by grind)
 ·exact .inl (by rw[<-k];exact h)
 ·exact .inl (by rw[h];exact k)
 ·exact .inr ⟨h.trans k,Int.le_trans h' k'⟩
theorem Zrs (a b:Zc):leTm a b\/leTm b a:=by
 unfold leTm
 by_cases h:a.T<b.T
 ·exact .inl (.inl h)
 ·by_cases k:b.T<a.T
  ·exact .inr (.inl k)
  ·have e:a.T=b.T:=by grind
   rcases Int.le_total a.Report.Seq b.Report.Seq with h1|h1
   ·exact .inl (.inr ⟨e,h1⟩)
   ·exact .inr (.inr ⟨e.symm,h1⟩)
theorem Zi3 (a b:Zc):(a.T<b.T/\cmpTm a b= -1)\/(b.T<a.T/\cmpTm a b=1)\/(a.T=b.T/\cmpTm a b=Lib.compareInt a.Report.Seq b.Report.Seq):=by
 unfold cmpTm
 simp only[orL]
 by_cases h:a.T<b.T
 ·refine .inl ⟨h, ?_⟩
  rw[show cq a.T b.T= -1 from if_pos h]
  rfl
 ·by_cases k:b.T<a.T
  ·refine .inr (.inl ⟨k, ?_⟩)
   rw[show cq a.T b.T=1 by unfold cq;rw[if_neg h,if_pos k]]
   rfl
  ·refine .inr (.inr ⟨by grind, ?_⟩)
   rw[show cq a.T b.T=0 by unfold cq;rw[if_neg h,if_neg k],if_pos rfl]
   split
   ·rename_i h0;exact h0.symm
   ·rfl
theorem ZsE {a b:Zc}(h:cmpTm a b<0):leTm a b:=by
 rcases Zi3 a b with⟨h1, -⟩|⟨-,h2⟩|⟨h1,h2⟩
 ·exact .inl h1
 ·omega
 ·refine .inr ⟨h1, ?_⟩
  rw[h2] at h
  unfold Lib.compareInt at h
  split at h
  ·omega
  ·split at h <;> omega
theorem Zsh {a b:Zc}(h:¬cmpTm a b<0):leTm b a:=by
 rcases Zi3 a b with⟨-,h2⟩|⟨h1, -⟩|⟨h1,h2⟩
 ·omega
 ·exact .inl h1
 ·refine .inr ⟨h1.symm, ?_⟩
  rw[h2] at h
  unfold Lib.compareInt at h
  split at h
  ·omega
  ·split at h <;> omega
theorem Zuq (xs:List Zc)(j:Nat):swpTm xs j=swpG xs j:=rfl
theorem Zne :∀(j:Nat)(xs:List Zc),dwnTm xs j=dwnG cmpTm xs j
 |0,_=>rfl
 |j+1,xs=>by rw[dwnTm,dwnG,Zne j,Zuq]
theorem Zh6 (xs:List Zc):∀i,srtTm xs i=srtG cmpTm xs i
 |0=>rfl
 |i+1=>by rw[srtTm,srtG,Zne,Zh6 xs i]
theorem ZlZ (xs:List Zc):(srtTm xs (xs.length-1)).Perm xs:=by
 rw[Zh6]
 rcases Nat.eq_zero_or_pos xs.length with h|h
 ·rw[List.length_eq_zero_iff.1 h]
  exact .refl _
 ·exact Zbw _ _ _ (by omega)
theorem Zn8 (xs:List Zc):(srtTm xs (xs.length-1)).Pairwise leTm:=by
 refine List.pairwise_iff_getElem.2 fun p q hp hq hpq=>?_
 have hl:=ZcK xs (xs.length-1)
 rw[<-Zj hp,<-Zj hq]
 rw[Zh6]
 exact ZcE (c:=cmpTm) (le:=leTm) (fun a b h=>ZsE h) (fun a b h=>Zsh h) (fun _ _ _=>ZhJ) xs (xs.length-1) (by omega) p q hpq (by omega)
def posT (l:List Zc)(x:Zc):Nat->Nat
 |0=>0
 |k+1=>if leTm (gi l (k:Int)) x then k+1 else posT l x k
def putL (l:List Zc)(x:Zc):List Zc:=l.take (posT l x l.length)++x::l.drop (posT l x l.length)
theorem Zna (l:List Zc)(x:Zc):∀k,posT l x k<=k
 |0=>Wl _
 |k+1=>by
  have:=Zna l x k
  rw[posT]
  split <;> omega
theorem Zm8 (l:List Zc)(x:Zc):∀k j:Nat,posT l x k<=j->j<k->¬leTm (gi l (j:Int)) x
 |0,j,_,h=>absurd h (Nat.not_lt_zero _)
 |k+1,j,h1,h2=>by
  rw[posT] at h1
  split at h1
  ·omega
  ·rename_i hk
   rcases Nat.lt_or_ge j k with h3|h3
   ·exact Zm8 l x k j h1 h3
   ·rw[show j=k by omega]
    exact hk
theorem ZmN (l:List Zc)(x:Zc):∀k p:Nat,posT l x k=p+1->leTm (gi l (p:Int)) x
 |0,p,h=>by simp[posT] at h
 |k+1,p,h=>by
  rw[posT] at h
  split at h
  ·rename_i hk
   rw[show p=k by omega]
   exact hk
  ·exact ZmN l x k p h
theorem Zqf (l:List Zc)(x:Zc):(putL l x).Perm (x::l):=by
 unfold putL
 refine List.perm_middle.trans (List.Perm.cons _ ?_)
 rw[List.take_append_drop]
theorem ZsR {l:List Zc}{x:Zc}(h:l.Pairwise leTm):(putL l x).Pairwise leTm:=by
 have hp:=Zna l x l.length
 unfold putL
 generalize hq:posT l x l.length=p at*
 have hlo:∀y∈l.take p,leTm y x:=fun y hy=>by
  obtain⟨j,hj,rfl⟩:=List.getElem_of_mem hy
  rw[Wt] at hj
  cases p with
  |zero=>omega
  |succ p=>
   have h1:=ZmN l x l.length p hq
   rw[Zj (by omega)] at h1
   rw[List.getElem_take]
   rcases Nat.lt_or_ge j p with h2|h2
   ·exact ZhJ (List.pairwise_iff_getElem.1 h j p (by omega) (by omega) h2) h1
   ·have e:j=p:=by omega
    subst e
    exact h1
 have hhi:∀y∈l.drop p,leTm x y:=fun y hy=>by
  obtain⟨j,hj,rfl⟩:=List.getElem_of_mem hy
  rw[List.length_drop] at hj
  rw[List.getElem_drop]
  have h1:=Zm8 l x l.length (p+j) (by omega) (by omega)
  rw[Zj (by omega)] at h1
  exact(Zrs _ _).resolve_left h1
 refine List.pairwise_append.2 ⟨h.sublist (List.take_sublist _ _),List.pairwise_cons.2 ⟨hhi,h.sublist (List.drop_sublist _ _)⟩,fun a ha b hb=>?_⟩
 rcases List.mem_cons.1 hb with rfl|hb
 ·exact hlo a ha
 ·exact ZhJ (hlo a ha) (hhi b hb)
def puts (l:List Zc):List Zc:=l.foldl putL []
theorem Zgc (l:List Zc):(puts l).Perm l/\(puts l).Pairwise leTm:=by
 have key:∀(l a:List Zc),a.Pairwise leTm->(l.foldl putL a).Perm (a++l)/\(l.foldl putL a).Pairwise leTm:=by
  intro l
  induction l with
  |nil=>intro a h;exact⟨by rw[Wh];exact .refl _,h⟩
  |cons x l ih=>
   intro a h
   obtain⟨h1,h2⟩:=ih (putL a x) (ZsR h)
   refine⟨h1.trans (((Zqf a x).append_right l).trans ?_),h2⟩
   exact List.perm_middle.symm
 have:=key l [] .nil
 rw[Wg] at this
 exact this
theorem ZpL (l:List Zc)(x:Zc):puts (l++[x])=putL (puts l) x:=by
 unfold puts
 rw[List.foldl_append]
 rfl
theorem ZjS (l:List Zc):(puts l).length=l.length:=(Zgc l).1.length_eq
noncomputable def repL (rs:List Zb)(es:List Za)(o:Int):List Zc:=puts (tmXL es (ofL rs o))
theorem Zvl {r z:Zb}(h:r.Object=z.Object)(k:r.Seq=z.Seq):idR r=idR z:=by unfold idR;rw[h,k]
theorem Zt3 {rs:List Zb}{o:Int}{r z:Zb}(hr:r∈ofL rs o)(hz:z∈ofL rs o)(h:r.Seq=z.Seq):r=z:=by
 obtain⟨h1,h2⟩:=List.mem_filter.1 hr
 obtain⟨g1,g2⟩:=List.mem_filter.1 hz
 have e:=Zvl ((Wa h2).trans (Wa g2).symm:r.Object=z.Object) h
 have k1:=(Ze8.1 h1).2
 have k2:=(Ze8.1 g1).2
 rw[e,k2] at k1
 exact(Option.some.inj k1).symm
theorem ZqM (rs:List Zb)(o:Int):(ofL rs o).Nodup:=(Zfh rs).filter _
theorem Zht {ex:List Za}:∀{cs:List Zb},cs.Nodup->(tmXL ex cs).Nodup
 |[],_=>List.nodup_nil
 |r::cs,h=>by
  obtain⟨h1,h2⟩:=List.nodup_cons.1 h
  have ih:=Zht (ex:=ex) h2
  unfold tmXL at*
  rw[List.filterMap_cons]
  split
  ·exact ih
  ·rename_i z hz
   refine List.nodup_cons.2 ⟨fun hm=>h1 ?_,ih⟩
   have h3:=(Ze1 (ex:=ex) (cs:=cs) hm).1
   unfold tmF at hz
   split at hz
   ·injection hz with hz
    subst hz
    exact h3
   ·cases hz
theorem Zuw {ex:List Za}{rs:List Zb}{o:Int}:∀x∈tmXL ex (ofL rs o),∀y∈tmXL ex (ofL rs o),leTm x y->leTm y x->x=y:=fun x hx y hy h k=>by
 obtain⟨h1,h2⟩:=Ze1 hx
 obtain⟨g1,g2⟩:=Ze1 hy
 have e:x.Report.Seq=y.Report.Seq/\x.T=y.T:=by
  unfold leTm at h k
  rcases h with h|⟨h,h'⟩ <;> rcases k with k|⟨k,k'⟩
  ·exact absurd h (by grind)
  ·exact absurd h (by rw[k];grind)
  ·exact absurd k (by rw[h];grind)
  ·exact⟨Int.le_antisymm h' k',h⟩
 have e2:=Zt3 h1 g1 e.1
 cases x;cases y
 simp only at e e2⊢
 rw[e2,e.2]
theorem Zqu (rs:List Zb)(es:List Za)(o:Int):repL rs es o=tmXS es (ofL rs o):=by
 have h1:=Zgc (tmXL es (ofL rs o))
 have h2:=ZlZ (tmXL es (ofL rs o))
 have h3:=Zn8 (tmXL es (ofL rs o))
 have hn:=Zht (ex:=es) (ZqM rs o)
 unfold repL tmXS
 refine Ze5 (le:=leTm) (fun x hx y hy=>Zuw x (h1.1.mem_iff.1 hx) y (h1.1.mem_iff.1 hy)) (h1.1.nodup_iff.2 hn) (h2.nodup_iff.2 hn) h1.2 h3 fun x=>?_
 rw[h1.1.mem_iff,h2.mem_iff]
theorem Zr6 {es ks:List Za}(h:∀y,y∈es↔y∈ks)(cs:List Zb):tmXL es cs=tmXL ks cs:=by
 unfold tmXL
 congr 1
 funext r
 unfold tmF
 rw[ZrN h]
theorem Zq2 {es ks:List Za}(h:∀y,y∈es↔y∈ks)(cs:List Zb):tmXS es cs=tmXS ks cs:=by
 unfold tmXS
 rw[Zr6 h]
theorem ZkU {l:List (Zb×Bool)}{x:List (Za×Bool)}{rs:List Zb}{es:List Za}{o:Int}(hr:∀r,r.Object=o->(r∈pKR l↔r∈rs))(he:∀y,y∈pKE x↔y∈es):tmX l x o=repL rs es o:=by
 rw[Zqu]
 unfold tmX
 rw[Zt5 (ks:=rs) fun r ho=>((Za2 (pKR l)).mem_iff).trans (hr r ho)]
 exact Zq2 (fun y=>((ZcN (pKE x)).mem_iff).trans (he y)) _
end
section
set_option maxHeartbeats 8000000 in
theorem ZlS (v:Value)(l:List Zc)(s:ZR)(w:World)(hv:ArgS w v Zi l)(hl:l.length<=4096)(hok:∀x∈l,TkOk x)(hs: -1048576<=s.MaxSpeed/\s.MaxSpeed<=1048576):
  Calls prog 57 [v, .agg (Zv s)].toArray w (RetM (SlS (eI .i64) 1 (cI (chainL (cCp s.MaxSpeed l) l.length))) (fun o=>vSl o) (fun o=>mS 3 o) w):=by
 obtain⟨p,cp,rfl⟩:=hv.form
 have hC:∀i k,cCp s.MaxSpeed l i k=cpt s.MaxSpeed (gi l (i:Int)) (gi l (k:Int)):=fun _ _=>rfl
 generalize hCe:cCp s.MaxSpeed l=C at*
 generalize hn:l.length=n at*
 have hgo:∀i:Nat,i<n->TkOk (gi l (i:Int)):=fun i hi=>hok _ (ZI (by omega))
 refine Zg Tryz.func57 rfl Tryz.ntmps57 rfl ?_
 repeat(refine wkM ?_;intros)
 refine sM rfl rfl ⟨by omega,by omega⟩ (fun b5=>?_)
 repeat(refine wkM ?_;intros)
 rename_i b3
 refine Zm (S:=Nat) (fun m=>m<=n) (fun m=>[(0, .slice p n cp),(3, .pointer (some ⟨b3,0,none⟩)),(5, .slice (some ⟨b5,0,none⟩) n n),(6, .int .i64 (mostL (bestL C n m))),(7, .int .i64 ((n:Int)-1-m))]) (fun m=>[⟨b5,row (eI .i64) (tabL (n-m) (bestL C n m)) [],3⟩,⟨b3,Zv s,32⟩]) (fun m=>n-m) 0 (Wm _) ?_ ?_ (fun m hm=>?_)
 ·exact sbB
 ·have e:tabL (n-0) (bestL C n 0)=List.replicate n 0:=by simp[tabL,cI,bestL]
  simp only[e]
  exact slB
 repeat(refine wkM ?_;intros)
 refine Zl rfl (fun h=>?_) (fun h=>?_)
 ·have hlt:m<n:=by have:=Wa h;omega
  obtain⟨i,hi⟩:∃i,n=m+i+1:=⟨n-m-1,by omega⟩
  have e7:(n:Int)-1-(m:Int)=(i:Int):=by omega
  have e8:n-m=i+1:=by omega
  have hbl:=Zc4 C n m
  have hbn:=Zcf C n m
  have hnx:bestL C n (m+1)=innB C i (i+1) (bestL C n m) 1::bestL C n m:=by
   rw[bestL,show n-(m+1)=i by omega,show n-m=i+1 by omega]
  have hmo:=Zd5 hbl
  generalize bestL C n m=r at*
  rw[e8]
  simp only[e7]
  have ht1:=Zb4 (i+1) r
  have hset:(tabL (i+1) r).set ((i:Int)).toNat (1:Int)=tabL i (1::r):=by
   rw[Int.toNat_natCast]
   exact Zkt i r 1
  repeat(refine wkM ?_;intros)
  simp only[hset]
  refine Zm (S:=Nat×Nat) (fun q=>q.1<=m/\innB C i (i+1) r 1=innB C i (i+1+q.1) (r.drop q.1) q.2/\q.2<=m+1) (fun q=>[(0, .slice p n cp),(3, .pointer (some ⟨b3,0,none⟩)),(5, .slice (some ⟨b5,0,none⟩) n n),(6, .int .i64 (mostL r)),(7, .int .i64 (i:Nat)),(8, .int .i64 ((i+1+q.1:Nat)))]) (fun q=>[⟨b5,row (eI .i64) (tabL i (q.2::r)) [],3⟩,⟨b3,Zv s,32⟩]) (fun q=>m-q.1) (0,1) ⟨Wm _,rfl,by show 1<=m+1;omega⟩ sbB slB (fun q hq=>?_)
  obtain⟨j,a⟩:=q
  obtain⟨hj,hin,ha⟩:=hq
  simp only at hj hin ha⊢
  have ht2:=Zb4 i (a::r)
  rw[Wu] at ht2
  have hai:=ZoG i r a
  repeat(refine wkM ?_;intros)
  refine Zl rfl (fun h=>?_) (fun h=>?_)
  ·have hjm:j<m:=by have:=Wa h;omega
   have hget:=Zmh i r a j (by omega)
   have hb:=hbl (r.getD j 0) (by rw[List.getD_eq_getElem?_getD,List.getElem?_eq_getElem (by omega)];exact List.getElem_mem _)
   have hdr:r.drop j=r.getD j 0::r.drop (j+1):=by
    rw[List.drop_eq_getElem_cons (by omega),List.getD_eq_getElem?_getD,List.getElem?_eq_getElem (by omega)]
    rfl
   rw[hdr] at hin
   simp only[innB] at hin
   have hne:l≠[]:=fun h0=>by rw[h0] at hn;simp at hn;omega
   obtain⟨bw,ow,cw,hvw,hcw,hrow⟩:=hv.blk (k:=11) hne []
   injection hvw with e1 e2 e3
   subst e1
   subst e3
   have hrow':∀L,RowC w L bw ow Zc Zi l:=fun L=>⟨fun w' hw'=>hrow.out w' (hw'.sub (Wk _))⟩
   have k1:=hgo i (by omega)
   have k2:=hgo (i+1+j) (by omega)
   have hCk:=hC i (i+1+j)
   generalize r.getD j 0=bb at*
   repeat(refine wkM ?_;intros)
   (refine jD 10 10 (h:=?_);(repeat(first|refine wkH ?_|(refine tC rfl rfl ?_ ?_;focus(exact⟨k1,k2,hs⟩))));refine Zn ?_;(repeat(refine Z4 ?_;intro _));refine Zr ?_)
   simp only[<-hCk]
   cases hc:C i (i+1+j)
   ·rw[hc,if_neg (by decide)] at hin
    repeat(refine wkO ?_;intros)
    exact Zh (j+1,a) ⟨hjm,by rw[hin];rfl,ha⟩ sbB slB (by show m-(j+1)<m-j;omega)
   ·rw[hc,if_pos rfl] at hin
    have hmv:(if(bb:Int)+1>(a:Int) then(bb:Int)+1 else(a:Int))=((max a (bb+1):Nat):Int):=by
     split <;> omega
    have hs2:(tabL i (a::r)).set ((i:Int)).toNat ((max a (bb+1):Nat):Int)=tabL i (max a (bb+1)::r):=by
     rw[Int.toNat_natCast]
     exact Zm4 i r a (max a (bb+1))
    repeat(refine wkM ?_;intros)
    refine jD 13 13 (h:=?_)
    (repeat(refine wkH ?_))
    rw[hget,hai,hmv]
    refine Zn ?_
    refine Zr ?_
    repeat(refine wkM ?_;intros)
    simp only[hs2]
    repeat(refine wkO ?_;intros)
    exact Zh (j+1,max a (bb+1)) ⟨hjm,by rw[hin];rfl,by show max a (bb+1)<=m+1;omega⟩ sbB slB (by show m-(j+1)<m-j;omega)
  ·have hge:j=m:=by have:=Wb h;omega
   subst hge
   rw[<-hbn,List.drop_length,hbn] at hin
   simp only[innB] at hin
   rw[hin] at hnx
   have hmx:(if(a:Int)>(mostL r:Int) then(a:Int) else(mostL r:Int))=((mostL (bestL C n (j+1)):Nat):Int):=by
    rw[hnx,mostL]
    split <;> omega
   have e9:n-(j+1)=i:=by omega
   repeat(refine wkM ?_;intros)
   simp only[hai,hmx]
   exact Zh (j+1) hlt sbB (by simp only[e9,hnx];exact Wj _) (by omega)
 ·have hge:m=n:=by have:=Wb h;omega
  subst hge
  have hbn:=Zcf C m m
  have hat:∀i:Nat,i<m->gi (tabL 0 (bestL C m m)) (i:Int)=((bestA C m i:Nat):Int):=fun i hi=>by
   rw[Zj (by rw[Zb4];omega)]
   simp only[tabL,List.replicate_zero,Wg,cI,List.getElem_map,bestA,List.getD_eq_getElem?_getD,List.getElem?_eq_getElem (show i<(bestL C m m).length by omega),Option.getD_some]
  have hmo:=Zd5 (Zc4 C m m)
  have htl:=Zb4 0 (bestL C m m)
  rw[Nat.sub_self]
  repeat(refine wkM ?_;intros)
  have hO:=fun i (hi:i<=m)=>ZeF C m i hi
  have hmA:mostL (bestL C m m)=mostA C m:=rfl
  have hB:∀i,bestA C m i<=m:=fun i=>by
   have:bestA C m i<=mostA C m:=Zg7 _ _
   omega
  generalize tabL 0 (bestL C m m)=tb at*
  refine Zm (S:=(i:Nat)×SlS (eI .i64) 1 (cI (outN C m i).1)) (fun q=>q.1<=m) (fun q=>[(0, .slice p m cp),(3, .pointer (some ⟨b3,0,none⟩)),(5, .slice (some ⟨b5,0,none⟩) m m),(6, .int .i64 ((outN C m q.1).2:Nat)),(9,vSl q.2),(10, .int .i64 (q.1:Nat))]) (fun q=>mS 3 q.2++[⟨b5,row (eI .i64) tb [],3⟩,⟨b3,Zv s,32⟩]) (fun q=>m-q.1) ⟨0,SlS.no⟩ (Wm _) sbB suB (fun q hq=>?_)
  obtain⟨i,o⟩:=q
  simp only at hq⊢
  have hOi:=hO i hq
  have hnx:outN C m (i+1)=outS C m (outN C m i) i:=rfl
  unfold outS at hnx
  have hlen:=hOi.len
  repeat(refine wkM ?_;intros)
  refine Zl rfl (fun h=>?_) (fun h=>?_)
  ·have hlt:i<m:=by have:=Wa h;omega
   have hai:=hat i hlt
   have hol:=ZfQ (outN C m i).1
   repeat(refine wkM ?_;intros)
   refine Zav (S:=Bool) (fun q=>q=decide (bestA C m i=(outN C m i).2/\0<(outN C m i).2/\((outN C m i).1=[]\/C ((outN C m i).1.getLastD 0) i=true))) (fun q=>[(0, .slice p m cp),(3, .pointer (some ⟨b3,0,none⟩)),(5, .slice (some ⟨b5,0,none⟩) m m),(6, .int .i64 ((outN C m i).2:Nat)),(9,vSl o),(10, .int .i64 (i:Nat)),(98, .bool q)]) (fun _=>mS 3 o++[⟨b5,row (eI .i64) tb [],3⟩,⟨b3,Zv s,32⟩]) ?_ (fun q hq=>?_)
   ·have hne:l≠[]:=fun h0=>by rw[h0] at hn;simp at hn;omega
    obtain⟨bw,ow,cw,hvw,hcw,hrow⟩:=hv.blk (k:=11) hne []
    injection hvw with e1 e2 e3
    subst e1
    subst e3
    have hrow':∀L,RowC w L bw ow Zc Zi l:=fun L=>⟨fun w' hw'=>hrow.out w' (hw'.sub (Wk _))⟩
    have k2:=hgo i hlt
    rcases o.cases 3 with⟨x0,x1,x2⟩|⟨bo,co,sp,hc1,x1,x2,xne⟩
    ·have hout:(outN C m i).1=[]:=by
      have:=congrArg List.length x0
      rw[hol] at this
      exact List.length_eq_zero_iff.1 this
     simp only[x1,x2,Wf,Wg]
     by_cases c1:bestA C m i=(outN C m i).2
     ·refine jD 32 32 (h:=?_)
      (repeat(refine wkH ?_))
      simp only[hai,Wc (show((bestA C m i:Nat):Int)=((outN C m i).2:Int) by omega)]
      (repeat(refine wkH ?_))
      try simp only[Wc (show((0:Nat):Int)=0 by omega)]
      (repeat(refine wkH ?_))
      by_cases c2:0<(outN C m i).2
      ·have hd:decide (bestA C m i=(outN C m i).2/\0<(outN C m i).2/\((outN C m i).1=[]\/C ((outN C m i).1.getLastD 0) i=true))=true:=Wc ⟨c1,c2, .inl hout⟩
       simp only[Wc (show(0:Int)<((outN C m i).2:Int) by omega)]
       (repeat(refine wkH ?_))
       refine Zn ?_
       refine Zr ?_
       repeat(refine wkM ?_;intros)
       exact Zt true hd.symm sbB suB
      ·have hd:decide (bestA C m i=(outN C m i).2/\0<(outN C m i).2/\((outN C m i).1=[]\/C ((outN C m i).1.getLastD 0) i=true))=false:=We fun h=>c2 h.2.1
       simp only[We (show¬(0:Int)<((outN C m i).2:Int) by omega)]
       (repeat(refine wkH ?_))
       refine Zn ?_
       refine Zr ?_
       repeat(refine wkM ?_;intros)
       exact Zt false hd.symm sbB suB
     ·have hd:decide (bestA C m i=(outN C m i).2/\0<(outN C m i).2/\((outN C m i).1=[]\/C ((outN C m i).1.getLastD 0) i=true))=false:=We fun h=>c1 h.1
      refine jD 32 32 (h:=?_)
      (repeat(refine wkH ?_))
      simp only[hai,We (show¬((bestA C m i:Nat):Int)=((outN C m i).2:Int) by omega)]
      (repeat(refine wkH ?_))
      refine Zn ?_
      refine Zr ?_
      repeat(refine wkM ?_;intros)
      exact Zt false hd.symm sbB suB
    ·have hone:(outN C m i).1≠[]:=fun h0=>by rw[h0] at xne;exact xne rfl
     have hpos:0<(outN C m i).1.length:=List.length_pos_iff.2 hone
     have hlm:(outN C m i).1.getLastD 0<m:=by
      have h1:(outN C m i).1.getLastD 0∈(outN C m i).1:=by
       rw[ZbW hone,List.getD_eq_getElem?_getD,List.getElem?_eq_getElem (by omega)]
       exact List.getElem_mem _
      have:=hOi.lt _ h1
      omega
     have hla:gi (cI (outN C m i).1) (((cI (outN C m i).1).length:Int)-1)=(((outN C m i).1.getLastD 0:Nat):Int):=by
      rw[hol,show(((outN C m i).1.length:Int)-1)=(((outN C m i).1.length-1:Nat):Int) by omega,Zj (by rw[hol];omega),ZbW hone]
      simp only[cI,List.getElem_map,List.getD_eq_getElem?_getD,List.getElem?_eq_getElem (show(outN C m i).1.length-1<(outN C m i).1.length by omega),Option.getD_some]
     have k1:=hgo _ hlm
     have hCk:=hC ((outN C m i).1.getLastD 0) i
     simp only[x1,x2,Wf,Wg]
     by_cases c1:bestA C m i=(outN C m i).2
     ·refine jD 32 32 (h:=?_)
      (repeat(refine wkH ?_))
      simp only[hai,Wc (show((bestA C m i:Nat):Int)=((outN C m i).2:Int) by omega)]
      (repeat(refine wkH ?_))
      simp only[We (show¬((cI (outN C m i).1).length:Int)=0 by omega)]
      (repeat(refine wkH ?_))
      simp only[hla]
      (repeat(first|refine wkH ?_|(refine tC rfl rfl ?_ ?_;focus(exact⟨k1,k2,hs⟩))))
      simp only[<-hCk]
      cases hc:C ((outN C m i).1.getLastD 0) i
      ·have hd:decide (bestA C m i=(outN C m i).2/\0<(outN C m i).2/\((outN C m i).1=[]\/C ((outN C m i).1.getLastD 0) i=true))=false:=by
        simp only[hc,c1,hone,false_or,decide_eq_false_iff_not]
        exact fun h=>absurd h.2.2 (by decide)
       rw[hc] at hd
       (repeat(refine wkH ?_))
       refine Zn ?_
       refine Zr ?_
       repeat(refine wkM ?_;intros)
       exact Zt false hd.symm sbB suB
      ·by_cases c2:0<(outN C m i).2
       ·have hd:decide (bestA C m i=(outN C m i).2/\0<(outN C m i).2/\((outN C m i).1=[]\/C ((outN C m i).1.getLastD 0) i=true))=true:=Wc ⟨c1,c2, .inr hc⟩
        rw[hc] at hd
        (repeat(refine wkH ?_))
        simp only[Wc (show(0:Int)<((outN C m i).2:Int) by omega)]
        (repeat(refine wkH ?_))
        refine Zn ?_
        refine Zr ?_
        repeat(refine wkM ?_;intros)
        exact Zt true (hd.symm.trans (by simp)) sbB suB
       ·have hd:decide (bestA C m i=(outN C m i).2/\0<(outN C m i).2/\((outN C m i).1=[]\/C ((outN C m i).1.getLastD 0) i=true))=false:=We fun h=>c2 h.2.1
        rw[hc] at hd
        (repeat(refine wkH ?_))
        simp only[We (show¬(0:Int)<((outN C m i).2:Int) by omega)]
        (repeat(refine wkH ?_))
        refine Zn ?_
        refine Zr ?_
        repeat(refine wkM ?_;intros)
        exact Zt false (hd.symm.trans (by simp)) sbB suB
     ·have hd:decide (bestA C m i=(outN C m i).2/\0<(outN C m i).2/\((outN C m i).1=[]\/C ((outN C m i).1.getLastD 0) i=true))=false:=We fun h=>c1 h.1
      refine jD 32 32 (h:=?_)
      (repeat(refine wkH ?_))
      simp only[hai,We (show¬((bestA C m i:Nat):Int)=((outN C m i).2:Int) by omega)]
      (repeat(refine wkH ?_))
      refine Zn ?_
      refine Zr ?_
      repeat(refine wkM ?_;intros)
      exact Zt false hd.symm sbB suB
   ·by_cases hP:bestA C m i=(outN C m i).2/\0<(outN C m i).2/\((outN C m i).1=[]\/C ((outN C m i).1.getLastD 0) i=true)
    ·rw[Wc hP] at hq
     subst hq
     rw[if_pos hP] at hnx
     repeat(refine wkM ?_;intros)
     refine sU rfl rfl ?_ ?_ ?_ ?_
     ·rfl
     ·rfl
     ·exact⟨by decide,by omega,by omega⟩
     intro s'
     repeat(refine wkO ?_;intros)
     have e1:cI (outN C m (i+1)).1=cI (outN C m i).1++[(i:Int)]:=by rw[hnx];simp[cI]
     have e4:(((outN C m (i+1)).2:Nat):Int)=((outN C m i).2:Int)-1:=by rw[hnx];simp only;omega
     obtain⟨s3,e2,e3⟩:=SlS.turn 3 e1.symm s'
     exact Zh ⟨i+1,s3⟩ hlt (by simp only[e2,e4];exact sbB) (by simp only[e3];exact suB) (by show m-(i+1)<m-i;omega)
    ·rw[We hP] at hq
     subst hq
     rw[if_neg hP] at hnx
     repeat(refine wkO ?_;intros)
     have e1:cI (outN C m (i+1)).1=cI (outN C m i).1:=by rw[hnx]
     have e4:(((outN C m (i+1)).2:Nat):Int)=((outN C m i).2:Int):=by rw[hnx]
     obtain⟨s3,e2,e3⟩:=SlS.turn 3 e1.symm o
     exact Zh ⟨i+1,s3⟩ hlt (by simp only[e2,e4];exact sbB) (by simp only[e3];exact suB) (by show m-(i+1)<m-i;omega)
  ·have hge:i=m:=by have:=Wb h;omega
   subst hge
   repeat(refine wkM ?_;intros)
   exact Zy rfl rfl (fun w hw=>⟨o,rfl,hw.sub suB⟩)
instance ZCk (w0:World)(L:List Blk)(v:Value)(l:List Zc)(s:ZR)[h:LstC w0 L v Zc Zi l]:SpecR prog w0 L 57 [v, .agg (Zv s)] (SlS (eI .i64) 1 (cI (chainL (cCp s.MaxSpeed l) l.length))) (fun o=>vSl o) (fun o=>mS 3 o) (l.length<=4096/\(∀x∈l,TkOk x)/\(-1048576<=s.MaxSpeed/\s.MaxSpeed<=1048576)):=⟨fun hp w hw=>
 ZlS v l s w (h.out w hw) hp.1 hp.2.1 hp.2.2⟩
end
section
open Fv (va red)
def mtF (a b:Ze):Zp×Bool:=if a.From.P<b.From.P then(b.From,b.OpenFrom) else if a.From.P=b.From.P then(a.From,a.OpenFrom||b.OpenFrom) else(a.From,a.OpenFrom)
def mtT (a b:Ze):Zp×Bool:=if b.To.P<a.To.P then(b.To,b.OpenTo) else if a.To.P=b.To.P then(a.To,a.OpenTo||b.OpenTo) else(a.To,a.OpenTo)
def mt (a b:Ze):Ze:=⟨(mtF a b).1,(mtT a b).1,(mtF a b).2,(mtT a b).2⟩
def mtO (a b:Ze):Bool:=decide ((mt a b).From.P<(mt a b).To.P)||(decide ((mt a b).From.P=(mt a b).To.P)&&(!(mt a b).OpenFrom&& !(mt a b).OpenTo))
end
section
open Fv (va red)
abbrev rI :=ZaD
def ri (u:UL)(ds:List Ze):Nat->List UL
 |0=>[]
 |k+1=>ri u ds k++(if mtO u.In (gi ds (k:Int))=true then [⟨mt u.In (gi ds (k:Int)),u.F⟩] else [])
def ro (us:List UL)(ds:List Ze):Nat->List UL
 |0=>[]
 |m+1=>ro us ds m++ri (gi us (m:Int)) ds ds.length
end
section
open Fv (va red)
def memI (I:Ze)(t:Rat):Prop:=(I.From.P<t\/(I.From.P=t/\I.OpenFrom=false))/\(t<I.To.P\/(t=I.To.P/\I.OpenTo=false))
def okI (I:Ze):Prop:=I.From.P<I.To.P\/(I.From.P=I.To.P/\I.OpenFrom=false/\I.OpenTo=false)
theorem Zwu {us:List UL}{x:UL}{ds:List Ze}:∀{m:Nat},m<=us.length->(x∈ro us ds m↔∃i:Nat,i<m/\x∈ri (gi us (i:Int)) ds ds.length)
 |0,_=>by simp[ro]
 |m+1,hm=>by
  rw[ro,Wv,Zwu (by omega)]
  constructor
  ·rintro(⟨i,h1,h2⟩|h1)
   ·exact⟨i,by omega,h2⟩
   ·exact⟨m,by omega,h1⟩
  ·rintro⟨i,h1,h2⟩
   rcases(by omega:i<m\/i=m) with h4|h4
   ·exact .inl ⟨i,h4,h2⟩
   ·subst h4;exact .inr h2
structure UK (K:Nat)(u:UL):Prop where
 i:IvOk K u.In
 f:LnOk K u.F
theorem UK.mono {K K':Nat}{u:UL}(h:UK K u)(hk:K<=K'):UK K' u:=⟨h.i.mono hk,h.f.mono hk⟩
theorem UK.uin {K:Nat}{u:UL}(h:UK K u)(hk:K<=KN):UIn u:=⟨h.i.mono hk,h.f.mono hk⟩
theorem Zwm {K:Nat}{f:ZG}{t:Rat}(h:LnOk K f)(ht:M t<=K):LnOk (4*K+4) (lred f t):=by
 have one:∀a b:Rat,M a<=K->M b<=K->M (a+t*(b+t*0))<=4*K+4:=fun a b ha hb=>by
  have h1:=Zju a (t*(b+t*0))
  have h2:=Zor t (b+t*0)
  have h3:=Zju b (t*0)
  have h4:=Zor t 0
  have h5:M 0=1:=by decide
  omega
 have h0:M 0<=4*K+4:=by
  have h5:M 0=1:=by decide
  omega
 exact⟨one _ _ h.x0 h.x1,h0,one _ _ h.y0 h.y1,h0⟩
theorem Zwj {K:Nat}{l:List UL}{i:Nat}{xs:List UL}{x:UL}(h:∀v∈xs,UK (4*K+4) v)(hx:UK K x):∀v∈nstp l i xs x,UK (4*K+4) v:=by
 have hx':=hx.mono (show K<=4*K+4 by omega)
 have trn:∀{u:UL},UK (4*K+4) u->∀v∈turn xs u,UK (4*K+4) v:=fun hu v hv=>by
  rcases List.mem_or_eq_of_mem_set hv with h1|h1
  ·exact h v h1
  ·rw[h1];exact hu
 unfold nstp
 split
 ·split
  ·rename_i hc
   have h0:0<xs.length:=by
    unfold cA at hc
    simp only[Wq] at hc
    exact Zcp hc.1
   have hl:=h _ (ZI (i:=(xs.length:Int)-1) (xs:=xs) (by omega))
   exact trn ⟨⟨hl.i.r1,hx'.i.r2,hl.i.n1,hx'.i.n2,hl.i.m1,hx'.i.m2⟩,hl.f⟩
  ·intro v hv
   rcases List.mem_append.1 hv with h1|h1
   ·exact h v h1
   ·rw[Wo] at h1
    subst h1
    split
    ·exact⟨hx'.i.at _ _,hx'.f⟩
    ·exact hx'
 ·split
  ·rename_i hc
   have h0:0<xs.length:=by
    unfold cC at hc
    simp only[Wq] at hc
    exact Zcp hc.1
   have hl:=h _ (ZI (i:=(xs.length:Int)-1) (xs:=xs) (by omega))
   exact trn ⟨hl.i.at _ _,hl.f⟩
  ·split
   ·exact h
   ·intro v hv
    rcases List.mem_append.1 hv with h1|h1
    ·exact h v h1
    ·rw[Wo] at h1
     subst h1
     exact⟨hx'.i,Zwm hx.f hx.i.m1⟩
theorem Zs5 {K:Nat}{l:List UL}(h:∀u∈l,UK K u):∀m,m<=l.length->∀v∈nrm l m,UK (4*K+4) v
 |0,_=>fun v hv=>by cases hv
 |m+1,hm=>Zwj (Zs5 h m (by omega)) (h _ (ZI (by omega)))
theorem ZzD {K:Nat}{u v:UL}(h:UK K u)(hv:v∈atU u):UK K v:=by
 unfold atU at hv
 rcases List.mem_append.1 hv with h1|h1
 ·split at h1
  ·cases h1
  ·rw[Wo] at h1
   subst h1
   exact⟨⟨h.i.r1,h.i.r1,h.i.n1,h.i.n1,h.i.m1,h.i.m1⟩,h.f⟩
 ·split at h1
  ·cases h1
  ·rcases List.mem_cons.1 h1 with h2|h2
   ·subst h2
    exact⟨h.i.at _ _,h.f⟩
   ·split at h2
    ·cases h2
    ·rw[Wo] at h2
     subst h2
     exact⟨⟨h.i.r2,h.i.r2,h.i.n2,h.i.n2,h.i.m2,h.i.m2⟩,h.f⟩
theorem Zs6 {K:Nat}{us:List UL}(h:∀u∈us,UK K u):∀m,m<=us.length->∀v∈atm us m,UK K v
 |0,_,v,hv=>by cases hv
 |m+1,hm,v,hv=>by
  rw[atm] at hv
  rcases List.mem_append.1 hv with h1|h1
  ·exact Zs6 h m (by omega) v h1
  ·exact ZzD (h _ (ZI (by omega))) h1
theorem Zpy {K:Nat}{us:List UL}(h:∀u∈us,UK K u):∀v∈nrmR us,UK (4*K+4) v:=by
 unfold nrmR
 split
 ·exact Zs5 (Zs6 (fun u hu=>h u (ZeK hu)) _ (Wl _)) _ (Wl _)
 ·intro v hv
  cases hv
end
section
theorem Zwc {α β:Type}[Inhabited α][Inhabited β]{f:α->β}{xs:List α}{i:Nat}(h:i<xs.length):gi (xs.map f) (i:Int)=f (gi xs (i:Int)):=by
 rw[Zj (by rw[Ws];exact h),Zj h,List.getElem_map]
end
end Go.Vt
