/- that the gaps between reports are those of the chain (part 20 of 32.) Conditions: those that each statement names. -/
import Derived.Test.YtjicdlilgjdefaaGreatDoorKG4
import Derived.Test.YtjicdlilgjdefaaGreatDoorKG12
import Derived.Test.YtjicdlilgjdefaaGreatDoorKG18
import Derived.Test.YtjicdlilgjdefaaGreatDoorKG19
set_option linter.unusedSimpArgs false
set_option linter.unusedVariables false
set_option maxHeartbeats 2000000
set_option maxRecDepth 100000
namespace Go.Vt
theorem ZaE {κ α:Type}[DecidableEq κ]{x:κ}{v:α}{y:κ}:∀(m:List (κ×α)),mget (mput m x v) y=if y=x then some v else mget m y
 |[]=>by simp[mput,mget]
 |p::m=>by
  rw[mput]
  by_cases h:x=p.1
  ·rw[if_pos h,mget,mget]
   by_cases h2:y=x
   ·rw[if_pos h2,if_pos h2]
   ·rw[if_neg h2,if_neg h2,if_neg (by rw[<-h];exact h2)]
  ·rw[if_neg h,mget,mget,ZaE m]
   by_cases h2:y=p.1
   ·rw[if_pos h2,if_pos h2,if_neg (by rw[h2];exact fun h3=>h h3.symm)]
   ·rw[if_neg h2,if_neg h2]
theorem Zdr {κ α:Type}[DecidableEq κ]{x:κ}:∀{m:List (κ×α)},(∃v,mget m x=some v)↔x∈m.map (·.1)
 |[]=>by simp[mget]
 |p::m=>by
  rw[mget,List.map_cons,Ww]
  by_cases h:x=p.1
  ·rw[if_pos h]
   simp[h]
  ·rw[if_neg h,Zdr (m:=m)]
   simp[h]
theorem ZdO {κ α:Type}[DecidableEq κ]{x:κ}{v:α}:∀{m:List (κ×α)},mget m x=none->(mput m x v).length=m.length+1
 |[],_=>rfl
 |p::m,h=>by
  rw[mget] at h
  split at h
  ·cases h
  ·rename_i h1
   rw[mput,if_neg h1,Wu,ZdO h,Wu]
theorem ZdY {κ α:Type}[DecidableEq κ]{x:κ}{v u:α}:∀{m:List (κ×α)},mget m x=some u->(mput m x v).length=m.length
 |p::m,h=>by
  rw[mget] at h
  rw[mput]
  split at h
  ·rename_i h1
   rw[if_pos h1]
   rfl
  ·rename_i h1
   rw[if_neg h1,Wu,ZdY h,Wu]
theorem ZhM {κ α:Type}[DecidableEq κ]{x:κ}{v:α}:∀{m:List (κ×α)},(m.map (·.1)).Nodup->((mput m x v).map (·.1)).Nodup
 |[],_=>by simp[mput]
 |p::m,h=>by
  rw[List.map_cons,List.nodup_cons] at h
  rw[mput]
  split
  ·rename_i h1
   rw[List.map_cons,List.nodup_cons]
   exact⟨by rw[h1];exact h.1,h.2⟩
  ·rename_i h1
   rw[List.map_cons,List.nodup_cons]
   refine⟨fun h2=>?_,ZhM h.2⟩
   obtain⟨u,hu⟩:=Zdr.2 h2
   rw[ZaE,if_neg (fun h3=>h1 h3.symm)] at hu
   exact h.1 (Zdr.1 ⟨u,hu⟩)
inductive Con (l:List Za)(d:Int):Int->Prop
 |base:Con l d d
 |fwd {x:Za}:x∈l->Con l d x.From->Con l d x.To
 |bwd {x:Za}:x∈l->Con l d x.To->Con l d x.From
theorem Con.mono {l k:List Za}{d v:Int}(h:∀x∈l,x∈k)(c:Con l d v):Con k d v:=by
 induction c with
 |base=>exact .base
 |fwd hx _ ih=>exact .fwd (h _ hx) ih
 |bwd hx _ ih=>exact .bwd (h _ hx) ih
def hasM (m:List (Int×Bool))(v:Int):Bool:=(mget m v).getD false
def dmS (m:List (Int×Bool))(x:Za):List (Int×Bool):=mput (mput m x.From true) x.To true
structure CompOk (l:List Za)(d:Int)(m:List (Int×Bool)):Prop where
 nd:(m.map (·.1)).Nodup
 tr:∀v b,mget m v=some b->b=true
 b0:hasM m d=true
 con:∀v,hasM m v=true->Con l d v
 few:m.length<=1+l.countP fun x=>hasM m x.From&&hasM m x.To
theorem CompOk.get {l:List Za}{d:Int}{m:List (Int×Bool)}(h:CompOk l d m)(v:Int):(hasM m v=true/\mget m v=some true)\/(hasM m v=false/\mget m v=none):=by
 unfold hasM
 cases hm:mget m v with
 |none=>exact .inr ⟨rfl,rfl⟩
 |some b=>
  have:=h.tr v b hm
  subst this
  exact .inl ⟨rfl,rfl⟩
theorem ZgN (m:List (Int×Bool))(x:Za)(v:Int):hasM (dmS m x) v=(decide (v=x.From)||decide (v=x.To)||hasM m v):=by
 unfold hasM dmS
 rw[ZaE,ZaE]
 by_cases h1:v=x.To
 ·simp[h1]
 ·by_cases h2:v=x.From
  ·simp[h2]
  ·simp[h1,h2]
theorem ZgG {α:Type}{p r:α->Bool}:∀{V:List α},(∀x∈V,p x=true->r x=true)->(∃x∈V,p x=false/\r x=true)->V.countP p<V.countP r
 |[],_,⟨x,hx,_⟩=>by cases hx
 |y::V,h,⟨x,hx,h1,h2⟩=>by
  have hle:V.countP p<=V.countP r:=List.countP_mono_left fun z hz hp=>h z (.tail _ hz) hp
  rw[List.countP_cons,List.countP_cons]
  rcases List.mem_cons.1 hx with rfl|hx
  ·simp only[h1,h2]
   simp
   omega
  ·have:=ZgG (fun z hz=>h z (.tail _ hz)) ⟨x,hx,h1,h2⟩
   have h3:=h y (.head _)
   by_cases hp:p y=true
   ·simp only[hp,h3 hp];omega
   ·by_cases hr:r y=true
    ·simp only[hp,hr];simp;omega
    ·simp only[hp,hr];simpa using this
theorem CompOk.grow {l:List Za}{d:Int}{m:List (Int×Bool)}(h:CompOk l d m){x:Za}(hx:x∈l)(hd:hasM m x.From≠hasM m x.To):CompOk l d (dmS m x)/\(dmS m x).length=m.length+1:=by
 have hlen:(dmS m x).length=m.length+1:=by
  unfold dmS
  rcases h.get x.From with⟨f1,f2⟩|⟨f1,f2⟩
  ·rcases h.get x.To with⟨t1,t2⟩|⟨t1,t2⟩
   ·exact(hd (f1.trans t1.symm)).elim
   ·have hne:x.To≠x.From:=fun e=>by rw[e,f2] at t2;cases t2
    rw[ZdO (by rw[ZaE,if_neg hne];exact t2),ZdY f2]
  ·rcases h.get x.To with⟨t1,t2⟩|⟨t1,t2⟩
   ·have hne:x.To≠x.From:=fun e=>by rw[e,f2] at t2;cases t2
    rw[ZdY (u:=true) (by rw[ZaE,if_neg hne];exact t2),ZdO f2]
   ·exact(hd (f1.trans t1.symm)).elim
 have hold:∀v,hasM m v=true->hasM (dmS m x) v=true:=fun v hv=>by rw[ZgN,hv];simp
 refine⟨⟨ZhM (ZhM h.nd),fun v b hv=>?_,hold _ h.b0,fun v hv=>?_, ?_⟩,hlen⟩
 ·unfold dmS at hv
  rw[ZaE,ZaE] at hv
  split at hv
  ·injection hv with hv;exact hv.symm
  ·split at hv
   ·injection hv with hv;exact hv.symm
   ·exact h.tr v b hv
 ·rw[ZgN] at hv
  have c:Con l d x.From/\Con l d x.To:=by
   rcases h.get x.From with⟨f1,f2⟩|⟨f1,f2⟩
   ·have:=h.con _ f1
    exact⟨this, .fwd hx this⟩
   ·rcases h.get x.To with⟨t1,t2⟩|⟨t1,t2⟩
    ·have:=h.con _ t1
     exact⟨.bwd hx this,this⟩
    ·exact(hd (f1.trans t1.symm)).elim
  rw[Bool.or_eq_true,Bool.or_eq_true] at hv
  rcases hv with(hv|hv)|hv
  ·rw[Wa hv];exact c.1
  ·rw[Wa hv];exact c.2
  ·exact h.con v hv
 ·have h1:=ZgG (p:=fun y=>hasM m y.From&&hasM m y.To) (r:=fun y=>hasM (dmS m x) y.From&&hasM (dmS m x) y.To) (V:=l) (fun y _ hy=>by
   rw[Wq] at hy⊢
   exact⟨hold _ hy.1,hold _ hy.2⟩) ⟨x,hx,by
    rcases h.get x.From with⟨f1,f2⟩|⟨f1,f2⟩
    ·rcases h.get x.To with⟨t1,t2⟩|⟨t1,t2⟩
     ·exact(hd (f1.trans t1.symm)).elim
     ·simp[t1]
    ·simp[f1],by simp[ZgN]⟩
  have:=h.few
  omega
theorem Zlb (l:List Za)(d:Int):CompOk l d [(d,true)]:=by
 have hg:∀v,mget [(d,true)] v=if v=d then some true else none:=fun v=>rfl
 refine⟨by simp,fun v b hv=>?_,by unfold hasM;rw[hg,if_pos rfl];rfl,fun v hv=>?_,by simp⟩
 ·rw[hg] at hv
  split at hv
  ·injection hv with hv;exact hv.symm
  ·cases hv
 ·unfold hasM at hv
  rw[hg] at hv
  by_cases h:v=d
  ·subst h;exact .base
  ·rw[if_neg h] at hv;cases hv
theorem CompOk.all {l:List Za}{d:Int}{m:List (Int×Bool)}(h:CompOk l d m)(hc:∀x∈l,hasM m x.From=hasM m x.To){v:Int}:v∈m.map (·.1)↔Con l d v:=by
 have h1:v∈m.map (·.1)↔hasM m v=true:=by
  rw[<-Zdr]
  rcases h.get v with⟨a,b⟩|⟨a,b⟩
  ·simp[a,b]
  ·simp[a,b]
 rw[h1]
 clear h1
 refine⟨h.con v,fun c=>?_⟩
 induction c with
 |base=>exact h.b0
 |fwd hx _ ih=>rw[<-hc _ hx];exact ih
 |bwd hx _ ih=>rw[hc _ hx];exact ih
end Go.Vt
namespace Go.Vt
open Go.RowKit Go.Proofs
open Go.Proofs.Tryz (prog)
section
abbrev SqIn (l:List (Int×Bool)):Type:=(ys:{ys:List Int // ys.Perm (pKI l)})×SlS (eI .i64) 1 ys.1
instance ZDg (w0:World)(L:List Blk)(bm b:Nat)(TB:TypeId)(l:List (Int×Bool))[k1:AtC w0 L bm #[.map (some b)] TB][k2:AtO w0 L b (mIn l)]:SpecR prog w0 L 333 [.slice none 0 0,vKsI bm] (SqIn l) (fun s=>vSl s.2) (fun s=>mS 3 s.2) (l.length<=1048576):=
 ⟨fun hl w hw=>ZnF bm b TB l w hl (k1.out w hw) (k2.out w hw)⟩
instance ZF2 (w0:World)(L:List Blk)(bm b:Nat)(TB:TypeId)(l:List (Int×Bool))[k1:AtC w0 L bm #[.map (some b)] TB][k2:AtO w0 L b (mIn l)]:SpecR prog w0 L 305 [vKsI bm] (SqIn l) (fun s=>vSl s.2) (fun s=>mS 3 s.2) (l.length<=1048576):=⟨fun hl w hw=>by
 have f1:=FoC.mk (k1.out w hw)
 have f2:=FoO.mk (k2.out w hw)
 refine Zg Tryz.func305 rfl Tryz.ntmps305 rfl ?_
 repeat(first|(refine wkM ?_;intros)|(refine wnM ?_ ?_;(focus(exact hl));intros))
 rename_i s
 exact Zy rfl rfl (fun w hw=>⟨s,rfl,hw.sub suB⟩)⟩
instance Zw7 (w0:World)(L:List Blk)(bm b:Nat)(TB:TypeId)(l:List (Int×Bool))[k1:AtC w0 L bm #[.map (some b)] TB][k2:AtO w0 L b (mIn l)]:SpecR prog w0 L 264 [vKsI bm] (SlS (eI .i64) 1 (sortI (pKI l))) (fun s=>vSl s) (fun s=>mS 3 s) (l.length<=12):=⟨fun hl w hw=>by
 have f1:=FoC.mk (k1.out w hw)
 have f2:=FoO.mk (k2.out w hw)
 refine Zg Tryz.func264 rfl Tryz.ntmps264 rfl ?_
 repeat(first|(refine wkM ?_;intros)|(refine wnM ?_ ?_;(focus(exact Wi hl (by decide)));intros))
 rename_i s
 obtain⟨⟨ys,hp⟩,s⟩:=s
 simp only
 have hlen:ys.length<=12:=by
  have:=hp.length_eq
  rw[Ws] at this
  omega
 refine sZ rfl rfl hlen ?_
 intro s'
 repeat(refine wkM ?_;intros)
 obtain⟨s2,e1,e2⟩:=s'.1.like (Zjj hp).symm
 refine Zy rfl rfl (fun w hw=>⟨s2, ?_, ?_⟩)
 ·show Ending.returned (vSl s)=Ending.returned (vSl s2)
  rw[e1,s'.2]
 ·show Own _ (mS 3 s2) w
  rw[e2]
  exact hw.sub suB⟩
structure ExB (x:Za):Prop where
 f:0<=x.From/\x.From<=1073741824
 t:0<=x.To/\x.To<=1073741824
 s:0<=x.Sent/\x.Sent<=1073741824
 r:0<=x.Received/\x.Received<=1073741824
 l:0<=x.Least/\x.Least<=1073741824
def wgt (x:Za):Int:=x.Received-x.Sent-x.Least
instance ZAZ (x:Za):SpecC prog 218 [.agg (Zf x)] (.int .i64 (wgt x)) (ExB x):=⟨fun hp w=>by
 have h1:=hp.s
 have h2:=hp.r
 have h3:=hp.l
 refine Zg Tryz.func218 rfl Tryz.ntmps218 rfl ?_
 repeat(refine wkO ?_;intros)
 exact rtT rfl rfl⟩
def dmL (l:List Za)(i:Nat):List (Int×Bool):=(l.take i).foldl dmS []
def devL (l:List Za):List Int:=sortI (pKI (dmL l l.length))
theorem ZiR {κ α:Type}[DecidableEq κ](m:List (κ×α))(x:κ)(v:α):(mput m x v).length<=m.length+1:=by
 induction m with
 |nil=>simp[mput]
 |cons p m ih=>
  rw[mput]
  split
  ·simp
  ·simp only[Wu]
   omega
theorem ZgW {l:List Za}{i:Nat}(h:i<l.length):dmL l (i+1)=dmS (dmL l i) (gi l (i:Int)):=by
 unfold dmL
 rw[Wn h,List.foldl_append,Zj h]
 rfl
theorem Zit (l:List Za):∀i,i<=l.length->(dmL l i).length<=2*i
 |0,_=>by simp[dmL]
 |i+1,h=>by
  have ih:=Zit l i (by omega)
  rw[ZgW (by omega)]
  have h1:=ZiR (dmL l i) (gi l (i:Int)).From true
  have h2:=ZiR (mput (dmL l i) (gi l (i:Int)).From true) (gi l (i:Int)).To true
  unfold dmS
  omega
set_option maxHeartbeats 4000000 in
theorem ZjW (v:Value)(l:List Za)(w:World)(hv:ArgS w v Zf l)(hl:l.length<=6):
  Calls prog 213 [v].toArray w (RetM (SlS (eI .i64) 1 (devL l)) (fun s=>vSl s) (fun s=>mS 3 s) w):=by
 obtain⟨p,cp,rfl⟩:=hv.form
 refine Zg Tryz.func213 rfl Tryz.ntmps213 rfl ?_
 repeat(refine wkM ?_;intros)
 rename_i b
 refine Zm (S:=Nat) (fun i=>i<=l.length) (fun i=>[(3, .map (some b)),(7, .slice p l.length cp),(8, .int .i64 l.length),(9, .int .i64 (i:Nat))]) (fun i=>[⟨b, .obj (mIn (dmL l i)),383⟩]) (fun i=>l.length-i) 0 (Wm _) sbB slB (fun i hi=>?_)
 repeat(refine wkM ?_;intros)
 refine Zl rfl (fun h=>?_) (fun h=>?_)
 ·have hlt:i<l.length:=by have:=Wa h;omega
  obtain⟨bw,ow,rfl,hrow'⟩:=hv.opn (k:=4) hlt
  have hnx:=ZgW hlt
  unfold dmS at hnx
  repeat(refine wkM ?_;intros)
  rename_i b5
  (refine ZX (.v [0,1,2,3,4,5] (.e1 6 (.e1 7 (.fin)))) ([⟨b5,Zf (gi l (i:Int)),122⟩]) (h:=?_);refine wkX ?_)
  (repeat(refine wkH ?_))
  repeat(refine wkT ?_;intros)
  refine eMu rfl ?_
  repeat(refine wkT ?_;intros)
  refine eMu rfl ?_
  repeat(refine wkT ?_;intros)
  rw[<-hnx]
  repeat(refine wkO ?_;intros)
  exact Zh (i+1) hlt sbB slB (by omega)
 ·have hge:i=l.length:=by have:=Wb h;omega
  subst hge
  have hm:=Zit l l.length (Wl _)
  repeat(first|(refine wkM ?_;intros)|(refine wnM ?_ ?_;(focus(first|exact trivial|exact(show(dmL l l.length).length<=12 by omega)));intros))
  rename_i bm s
  exact Zy rfl rfl (fun w hw=>⟨s,rfl,hw.sub suB⟩)
instance ZyO (w0:World)(L:List Blk)(v:Value)(l:List Za)[h:LstC w0 L v Za Zf l]:SpecR prog w0 L 213 [v] (SlS (eI .i64) 1 (devL l)) (fun s=>vSl s) (fun s=>mS 3 s) (l.length<=6):=⟨fun hp w hw=>ZjW v l w (h.out w hw) hp⟩
structure CompL (l:List Za)(d:Int)(c:List Int):Prop where
 ord:c.Pairwise leI
 nd:c.Nodup
 mem:∀v,v∈c↔Con l d v
 few:c.length<=1+l.length
theorem ZrD {l:List Za}{d:Int}{m:List (Int×Bool)}(h:CompOk l d m)(hc:∀x∈l,hasM m x.From=hasM m x.To):CompL l d (sortI (pKI m)):=by
 have hp:=ZcZ (pKI m)
 refine⟨Zer _,hp.nodup_iff.2 h.nd,fun v=>by rw[hp.mem_iff];exact h.all hc, ?_⟩
 have h1:=h.few
 have h2:=List.countP_le_length (p:=fun x:Za=>hasM m x.From&&hasM m x.To) (l:=l)
 rw[Zej,Ws]
 omega
set_option maxHeartbeats 8000000 in
theorem Zqx (v:Value)(l:List Za)(d:Int)(w:World)(hv:ArgS w v Zf l)(hl:l.length<=6):
  Calls prog 266 [v, .int .i64 d].toArray w (RetM ((c:{c:List Int // CompL l d c})×SlS (eI .i64) 1 c.1) (fun s=>vSl s.2) (fun s=>mS 3 s.2) w):=by
 obtain⟨p,cp,rfl⟩:=hv.form
 refine Zg Tryz.func266 rfl Tryz.ntmps266 rfl ?_
 repeat(refine wkM ?_;intros)
 refine sMi rfl ?_
 repeat(refine wkM ?_;intros)
 rename_i b
 refine Zm (S:=List (Int×Bool)×Bool) (fun q=>CompOk l d q.1/\(q.2=false->∀x∈l,hasM q.1 x.From=hasM q.1 x.To)) (fun q=>[(0, .slice p l.length cp),(5, .map (some b)),(6, .bool q.2)]) (fun q=>[⟨b, .obj (mIn q.1),383⟩]) (fun q=>2*(8-q.1.length)+(if q.2 then 1 else 0)) ([(d,true)],true) ⟨Zlb l d,fun h=>by cases h⟩ sbB slB (fun q hq=>?_)
 obtain⟨m,g⟩:=q
 obtain⟨hm,hg⟩:=hq
 simp only at hm hg⊢
 have hfew:=hm.few
 have hcp:=List.countP_le_length (p:=fun x:Za=>hasM m x.From&&hasM m x.To) (l:=l)
 repeat(refine wkM ?_;intros)
 refine Zl rfl (fun h=>?_) (fun h=>?_)
 ·subst h
  repeat(refine wkM ?_;intros)
  refine Zm (S:=Nat×List (Int×Bool)×Bool) (fun q=>q.1<=l.length/\CompOk l d q.2.1/\(q.2.2=false->q.2.1=m/\∀x∈l.take q.1,hasM m x.From=hasM m x.To)/\(q.2.2=true->m.length<q.2.1.length)) (fun q=>[(0, .slice p l.length cp),(5, .map (some b)),(6, .bool q.2.2),(13, .slice p l.length cp),(14, .int .i64 l.length),(15, .int .i64 (q.1:Nat))]) (fun q=>[⟨b, .obj (mIn q.2.1),383⟩]) (fun q=>l.length-q.1) (0,m,false) ⟨Wm _,hm,fun _=>⟨rfl,fun x hx=>by rw[List.take_zero] at hx;cases hx⟩,fun h=>by cases h⟩ sbB slB (fun q hq=>?_)
  obtain⟨i,k,g⟩:=q
  obtain⟨hi,hk,h0,h1⟩:=hq
  simp only at hi hk h0 h1⊢
  repeat(refine wkM ?_;intros)
  refine Zl rfl (fun h=>?_) (fun h=>?_)
  ·have hlt:i<l.length:=by have:=Wa h;omega
   obtain⟨bw,ow,rfl,hrow'⟩:=hv.opn (k:=4) hlt
   have hx:gi l (i:Int)∈l:=ZI (by omega)
   have htk:l.take (i+1)=l.take i++[gi l (i:Int)]:=by rw[Wn hlt,Zj hlt]
   repeat(refine wkM ?_;intros)
   rename_i b8
   generalize gi l (i:Int)=x at*
   have hh:∀v,(mget k v).getD false=hasM k v:=fun _=>rfl
   by_cases hd:hasM k x.From=hasM k x.To
   ·simp only[hh,hd,bne_self_eq_false]
    repeat(refine wkO ?_;intros)
    exact Zh (i+1,k,g) ⟨hlt,hk,fun hg=>by
     obtain⟨rfl,h2⟩:=h0 hg
     refine⟨rfl,fun y hy=>?_⟩
     rw[htk] at hy
     rcases List.mem_append.1 hy with hy|hy
     ·exact h2 y hy
     ·rw[Wo] at hy
      rw[hy]
      exact hd,h1⟩ sbB slB (by show l.length-(i+1)<l.length-i;omega)
   ·have hd':(hasM k x.From != hasM k x.To)=true:=by simpa using hd
    obtain⟨g1,g2⟩:=hk.grow hx hd
    have hgr:m.length<(dmS k x).length:=by
     cases g with
     |false=>
      have e:=(h0 rfl).1
      rw[e] at g2⊢
      omega
     |true=>have:=h1 rfl;omega
    simp only[hh,hd']
    repeat(refine wkM ?_;intros)
    (refine ZX (.v [0,1,2,3,4,5] (.e1 6 (.e1 7 (.e1 8 (.fin))))) ([⟨b8,Zf x,122⟩]) (h:=?_);refine wkX ?_)
    (repeat(refine wkH ?_))
    repeat(refine wkT ?_;intros)
    refine eMu rfl ?_
    repeat(refine wkT ?_;intros)
    refine eMu rfl ?_
    repeat(refine wkT ?_;intros)
    repeat(refine wkO ?_;intros)
    exact Zh (i+1,dmS k x,true) ⟨hlt,g1,(fun h=>by cases h),fun _=>hgr⟩ sbB slB (by show l.length-(i+1)<l.length-i;omega)
  ·have hge:i=l.length:=by have:=Wb h;omega
   subst hge
   rw[List.take_length] at h0
   repeat(refine wkM ?_;intros)
   refine Zh (k,g) ⟨hk,fun hg=>by
    obtain⟨rfl,h2⟩:=h0 hg
    exact h2⟩ sbB slB ?_
   have hf2:=hk.few
   have hc2:=List.countP_le_length (p:=fun x:Za=>hasM k x.From&&hasM k x.To) (l:=l)
   show 2*(8-k.length)+(if g then 1 else 0)<2*(8-m.length)+(if true then 1 else 0)
   cases g with
   |false=>rw[(h0 rfl).1];simp
   |true=>have:=h1 rfl;simp;omega
 ·subst h
  have hc:=hg rfl
  have hC:=ZrD hm hc
  have hml:m.length<=12:=by omega
  repeat(first|(refine wkM ?_;intros)|(refine wnM ?_ ?_;(focus(first|exact trivial|exact hml));intros))
  rename_i bm s
  exact Zy rfl rfl (fun w hw=>⟨⟨⟨_,hC⟩,s⟩,rfl,hw.sub suB⟩)
instance ZHk (w0:World)(L:List Blk)(v:Value)(l:List Za)(d:Int)[h:LstC w0 L v Za Zf l]:SpecR prog w0 L 266 [v, .int .i64 d] ((c:{c:List Int // CompL l d c})×SlS (eI .i64) 1 c.1) (fun s=>vSl s.2) (fun s=>mS 3 s.2) (l.length<=6):=⟨fun hp w hw=>Zqx v l d w (h.out w hw) hp⟩
end
section
open Classical in
noncomputable def cutK (xs:List Int)(t:Int):Nat:=if h:∃k,CutI xs t k then h.choose else 0
theorem Zt7 {xs:List Int}(t:Int)(h:xs.Pairwise leI):CutI xs t (cutK xs t):=by
 unfold cutK
 rw[dif_pos (Zh0 h)]
 exact(Zh0 h).choose_spec
instance ZKr (w0:World)(L:List Blk)(v:Value)(xs:List Int)(t:Int)[h:LstC w0 L v Int (eI .i64) xs]:SpecM prog w0 L 212 [v, .int .i64 t] (.tuple #[.int .i64 (cutK xs t:Nat), .bool (decide (t∈xs))]) (xs.Pairwise leI/\xs.length<=1048576):=⟨fun hp w hw=>Zrh v xs t _ (Zt7 t hp.1) hp.1 w (h.out w hw) hp.2⟩
def slH {α:Type}{enc:α->Array Value}{k:Nat}{xs:List α}(s:SlS enc k xs):Sl:=match s.s with
 |none=>⟨none,xs.length,0⟩
 |some q=>⟨some ⟨q.1,0,none⟩,xs.length,q.2.1⟩
theorem Zb5 {α:Type}{enc:α->Array Value}{k:Nat}{xs:List α}(s:SlS enc k xs):vSl s= .slice (slH s).a (slH s).len (slH s).cap:=by
 rcases s with⟨s,h1,h2⟩
 rcases s with _|⟨b,c,sp⟩
 ·obtain rfl:=h1.1 rfl
  rfl
 ·rfl
theorem Zcy {α:Type}{enc:α->Array Value}{k:Nat}{xs ys:List α}{s:SlS enc k xs}{t:SlS enc k ys}(h:vSl s=vSl t):slH s=slH t:=by
 rw[Zb5,Zb5 t] at h
 injection h with h1 h2 h3
 cases hs:slH s
 cases ht:slH t
 rw[hs,ht] at h1 h2 h3
 simp only at h1 h2 h3
 rw[h1,h2,h3]
def smI (l:List Za)(c:List Int):Nat->List Int
 |0=>[]
 |i+1=>if(gi l (i:Int)).From∈c then smI l c i++[(i:Int)] else smI l c i
theorem Zgj (l:List Za)(c:List Int):∀i,(smI l c i).length<=i
 |0=>Wl _
 |i+1=>by
  have:=Zgj l c i
  rw[smI]
  split
  ·rw[Wp,List.length_singleton];omega
  ·omega
theorem Ziu (l:List Za)(c:List Int):∀i,∀k∈smI l c i,0<=k/\k<i
 |0,k,h=>by cases h
 |i+1,k,h=>by
  rw[smI] at h
  split at h
  ·rcases List.mem_append.1 h with h|h
   ·have:=Ziu l c i k h;omega
   ·rw[Wo] at h;omega
  ·have:=Ziu l c i k h;omega
theorem ArgS.lstK {α:Type}{w:World}{v:Value}{enc:α->Array Value}{xs:List α}(h:ArgS w v enc xs)(L:List Blk):LstC w L v α enc xs:=⟨fun w' hw'=>h.to hw'.ext⟩
abbrev PartS (l:List Za)(d:Int):Type:=(c:{c:List Int // CompL l d c})×SlS (eI .i64) 1 (smI l c.1 l.length)
abbrev vGr (p:Option Addr)(n cp:Nat)(h:Sl)(z:Int):Value:= .agg (ZP ⟨⟨p,n,cp⟩,h,z⟩)
set_option maxHeartbeats 8000000 in
theorem Zpm (p:Option Addr)(n cp:Nat)(l:List Za)(d:Int)(w:World)(hv:ArgS w (.slice p n cp) Zf l)(hl:l.length<=6):
  Calls prog 215 [.slice p n cp, .int .i64 d].toArray w (RetM (PartS l d) (fun s=>vGr p n cp (slH s.2) (s.1.1.length:Nat)) (fun s=>mS 3 s.2) w):=by
 obtain⟨p',cp',hform⟩:=hv.form
 injection hform with h1 h2 h3
 subst h1
 subst h2
 subst h3
 have hls:=fun L=>hv.lstK L
 refine Zg Tryz.func215 rfl Tryz.ntmps215 rfl ?_
 repeat(first|(refine wkM ?_;intros)|(refine wnM ?_ ?_;(focus(exact hl));intros))
 rename_i b4 cs b6
 obtain⟨⟨c,hc⟩,s⟩:=cs
 simp only
 have hcl:=hc.few
 have hbs:c.Pairwise leI/\c.length<=1048576:=⟨hc.ord,by omega⟩
 refine Zm (S:=(i:Nat)×SlS (eI .i64) 1 (smI l c i)) (fun q=>q.1<=l.length) (fun q=>[(5,vSl s),(4, .pointer (some ⟨b4,0,none⟩)),(6, .pointer (some ⟨b6,0,none⟩)),(18, .slice p l.length cp),(19, .int .i64 l.length),(20, .int .i64 (q.1:Nat))]) (fun q=>mS 3 q.2++(⟨b6,ZP ⟨⟨p,l.length,cp⟩,slH q.2,(c.length:Nat)⟩,324⟩::(mS 3 s++[⟨b4,ZP ZdA,324⟩]))) (fun q=>l.length-q.1) ⟨0,SlS.no⟩ (Wm _) sbB suB (fun q hq=>?_)
 obtain⟨i,o⟩:=q
 simp only at hq⊢
 have hsl:=Zgj l c i
 have hnx:smI l c (i+1)=if(gi l (i:Int)).From∈c then smI l c i++[(i:Int)] else smI l c i:=rfl
 repeat(refine wkM ?_;intros)
 refine Zl rfl (fun h=>?_) (fun h=>?_)
 ·have hlt:i<l.length:=by have:=Wa h;omega
  obtain⟨bw,ow,rfl,hrow'⟩:=hv.opn (k:=4) hlt
  repeat(first|(refine wkM ?_;intros)|(refine wnM ?_ ?_;(focus(exact hbs));intros))
  rename_i b8
  by_cases hf:(gi l (i:Int)).From∈c
  ·rw[if_pos hf] at hnx
   simp only[Wc hf]
   repeat(refine wkM ?_;intros)
   dsimp only
   rw[<-Zb5 o]
   repeat(refine wkM ?_;intros)
   refine sU rfl rfl ?_ ?_ ?_ ?_
   ·rfl
   ·rfl
   ·exact⟨by decide,by omega,by omega⟩
   intro s'
   rw[Zb5 s']
   repeat(refine wkM ?_;intros)
   obtain⟨s3,x1,x2⟩:=SlS.turn 3 hnx.symm s'
   have x3:=Zcy x1
   repeat(refine wkO ?_;intros)
   exact Zh ⟨i+1,s3⟩ hlt sbB (by simp only[x2,x3];exact suB) (by show l.length-(i+1)<l.length-i;omega)
  ·rw[if_neg hf] at hnx
   simp only[We hf]
   repeat(refine wkO ?_;intros)
   obtain⟨s3,x1,x2⟩:=SlS.turn 3 hnx.symm o
   have x3:=Zcy x1
   exact Zh ⟨i+1,s3⟩ hlt sbB (by simp only[x2,x3];exact suB) (by show l.length-(i+1)<l.length-i;omega)
 ·have hge:i=l.length:=by have:=Wb h;omega
  subst hge
  repeat(refine wkM ?_;intros)
  exact ZcH rfl rfl (fun w hw=>⟨⟨⟨c,hc⟩,o⟩,rfl,hw.sub suB⟩)
instance ZIy (w0:World)(L:List Blk)(p:Option Addr)(n cp:Nat)(l:List Za)(d:Int)[h:LstC w0 L (.slice p n cp) Za Zf l]:SpecR prog w0 L 215 [.slice p n cp, .int .i64 d] (PartS l d) (fun s=>vGr p n cp (slH s.2) (s.1.1.length:Nat)) (fun s=>mS 3 s.2) (l.length<=6):=⟨fun hp w hw=>Zpm p n cp l d w (h.out w hw) hp⟩
end
section
abbrev mII (l:List (Int×Int)):Obj:=mapO (Value.int .i64) (Value.int .i64) l
instance ZHq :MapT prog 326 (Value.int .i64) (Value.int .i64):=⟨trivial⟩
instance ZHu :UndC prog 326 (.map 3 3):=⟨by kernel_rfl⟩
def vSr (m1 m2:Option Nat):Array Value:=#[.map m1, .map m2]
instance ZKM (m1 m2:Option Nat):CsC (vSr m1 m2) 2:=⟨by kernel_rfl,by kernel_rfl⟩
instance ZKL (m1 m2:Nat):BdC prog 328 [(0, .map (some m1)),(1, .map (some m2))] (.agg (vSr (some m1) (some m2))):=⟨fun w=>by kernel_rfl⟩
instance ZKt (m1 m2:Option Nat):LdC prog 326 (vSr m1 m2) 0 (.map m1):=⟨ZC⟩
instance ZJB (m1 m2:Option Nat):LdC prog 326 (vSr m1 m2) 1 (.map m2):=⟨ZC⟩
instance ZKO (m1 m2:Option Nat):LdC prog 328 (vSr m1 m2) 0 (.agg (vSr m1 m2)):=⟨ZO 2⟩
instance ZJe :FaO prog 328 0 0 0:=⟨fun b w=>by kernel_rfl⟩
instance ZI5 :FaO prog 328 1 0 1:=⟨fun b w=>by kernel_rfl⟩
instance ZHt :SizeC prog 328 2:=⟨by kernel_rfl⟩
instance ZHX :ZeroC prog 328 (.agg (vSr none none)) (vSr none none):=⟨by kernel_rfl,by kernel_rfl⟩
instance ZGX {α:Type}{enc:α->Array Value}{k:Nat}{xs:List α}(w0:World)(L:List Blk)(s:SlS enc k xs)[h:LstC w0 L (vSl s) α enc xs]:LstC w0 L (.slice (slH s).a (slH s).len (slH s).cap) α enc xs:=⟨fun w hw=>by rw[<-Zb5];exact h.out w hw⟩
def edI (l:List Za)(k:Int):Ed:=⟨(gi l k).From,(gi l k).To,wgt (gi l k),k.toNat⟩
def edL (l:List Za)(sm:List Int):List Ed:=sm.map (edI l)
theorem Znm (l:List Za)(sm:List Int):(edL l sm).length=sm.length:=Ws _
theorem Zky {l:List Za}{sm:List Int}{j:Nat}(h:j<sm.length):(edL l sm).take (j+1)=(edL l sm).take j++[edI l (gi sm (j:Int))]:=by
 rw[Wn (by rw[Znm];exact h)]
 simp only[edL,List.getElem_map]
 rw[Zj h]
theorem ZnH (q:Sr)(l:List Ed)(e:Ed):q.round (l++[e])=(q.round l).use e:=by
 unfold Sr.round
 rw[List.foldl_append]
 rfl
structure MatS (q:Sr)(a b:List (Int×Int)):Prop where
 s:∀v,mget a v=q.s v
 b:∀v,mget b v=(q.by' v).map fun e=>(e.i:Int)
theorem MatS.use {q:Sr}{a b:List (Int×Int)}(h:MatS q a b){e:Ed}{z:Int}(hh:hit q.s e=some z):MatS (q.use e) (mput a e.v z) (mput b e.v (e.i:Int)):=by
 unfold Sr.use
 rw[hh]
 refine⟨fun v=>?_,fun v=>?_⟩
 ·simp only
  rw[ZaE]
  unfold upd
  split
  ·rfl
  ·exact h.s v
 ·simp only
  rw[ZaE]
  unfold upd
  split
  ·rfl
  ·exact h.b v
def SrB (q:Sr):Prop:=∀v b,q.s v=some b-> -(2147483648*(q.n:Int))<=b/\b<=2147483648*(q.n:Int)
theorem SrB.use {q:Sr}(h:SrB q){e:Ed}(he: -2147483648<=e.w/\e.w<=2147483648):SrB (q.use e):=by
 cases hh:hit q.s e with
 |none=>rw[Zbo hh];exact h
 |some z=>
  have hn:=Zgn hh
  obtain⟨c,hc,hz⟩:∃c,q.s e.u=some c/\z=c+e.w:=by
   unfold hit at hh
   cases h1:q.s e.u with
   |none=>simp[h1] at hh
   |some c=>
    simp only[h1] at hh
    refine⟨c,rfl, ?_⟩
    cases h3:q.s e.v with
    |none=>simp only[h3] at hh;injection hh with hh;exact hh.symm
    |some d=>
     simp only[h3] at hh
     split at hh
     ·injection hh with hh;exact hh.symm
     ·cases hh
  have h1:=h _ _ hc
  intro v b hb
  rw[hn]
  unfold Sr.use at hb
  rw[hh] at hb
  simp only at hb
  unfold upd at hb
  split at hb
  ·injection hb with hb
   omega
  ·have:=h v b hb
   omega
theorem ZrQ (q:Sr)(e:Ed):(q.use e).n<=q.n+1:=by
 cases hh:hit q.s e with
 |none=>rw[Zbo hh];omega
 |some z=>rw[Zgn hh];omega
theorem SrB.round :∀{l:List Ed} {q:Sr},SrB q->(∀e∈l, -2147483648<=e.w/\e.w<=2147483648)->SrB (q.round l)/\(q.round l).n<=q.n+l.length
 |[],_,h,_=>⟨h,Wl _⟩
 |e::l,q,h,hl=>by
  rw[ZaT]
  obtain⟨h1,h2⟩:=SrB.round (h.use (hl e (.head _))) fun f hf=>hl f (.tail _ hf)
  have:=ZrQ q e
  exact⟨h1,by rw[Wu];omega⟩
theorem SrB.rounds {E:List Ed}{q:Sr}(h:SrB q)(h0:q.n=0)(hl:∀e∈E, -2147483648<=e.w/\e.w<=2147483648):∀k,SrB (q.rounds E k)/\(q.rounds E k).n<=k*E.length
 |0=>⟨h,by rw[show q.rounds E 0=q from rfl,h0];exact Wm _⟩
 |k+1=>by
  obtain⟨h1,h2⟩:=h.rounds h0 hl k
  obtain⟨h3,h4⟩:=h1.round hl
  refine⟨h3,Wi h4 ?_⟩
  rw[Nat.succ_mul]
  omega
def sr0 (ds:List Int):Sr:=⟨fun v=>if v∈ds then some 0 else none,fun _=>none,fun _=>0,0⟩
def ini (ds:List Int)(i:Nat):List (Int×Int):=(ds.take i).foldl (fun m d=>mput m d 0) []
theorem ZkY {ds:List Int}{i:Nat}(h:i<ds.length):ini ds (i+1)=mput (ini ds i) (gi ds (i:Int)) 0:=by
 unfold ini
 rw[Wn h,List.foldl_append,Zj h]
 rfl
theorem Zmp (ds:List Int)(v:Int):∀i,i<=ds.length->mget (ini ds i) v=if v∈ds.take i then some 0 else none
 |0,_=>by simp[ini,mget]
 |i+1,h=>by
  have htk:ds.take (i+1)=ds.take i++[ds[i]]:=Wn (by omega)
  rw[ZkY (by omega),ZaE,Zmp ds v i (by omega),htk,Zj (by omega)]
  by_cases h1:v=ds[i]
  ·rw[if_pos h1,if_pos (List.mem_append_right _ (List.mem_singleton.2 h1))]
  ·rw[if_neg h1]
   by_cases h2:v∈ds.take i
   ·rw[if_pos h2,if_pos (List.mem_append_left _ h2)]
   ·rw[if_neg h2,if_neg fun h3=>(List.mem_append.1 h3).elim h2 fun h4=>h1 (List.mem_singleton.1 h4)]
theorem ZwR (ds:List Int):MatS (sr0 ds) (ini ds ds.length) []:=⟨fun v=>by rw[Zmp ds v _ (Wl _),List.take_length];rfl,fun v=>rfl⟩
theorem ZfT (E:List Ed)(ds:List Int):SrOk E (· ∈ds) (sr0 ds):=by
 refine⟨fun v b hb=>?_,fun t ht=>⟨0,if_pos ht⟩,fun v=>Wl _,(fun v e he=>by cases he),fun v b _ hb=>?_⟩
 ·unfold sr0 at hb
  simp only at hb
  split at hb
  ·rename_i hv
   injection hb with hb
   rw[<-hb]
   exact .src hv
  ·cases hb
 ·unfold sr0 at hb
  simp only at hb
  split at hb
  ·rename_i hv
   injection hb with hb
   exact⟨hv,hb.symm⟩
  ·cases hb
theorem Zyk (ds:List Int):SrB (sr0 ds):=fun v b hb=>by
 unfold sr0 at hb
 simp only at hb
 split at hb
 ·injection hb with hb
  rw[<-hb]
  exact⟨by simp[sr0],by simp[sr0]⟩
 ·cases hb
theorem ZtA (E:List Ed)(ds:List Int):HasBy E (sr0 ds):=fun v hv=>absurd hv (Nat.not_lt_zero _)
theorem ZfH (f:Int->Int):∀ds:List Int,∃L,∀t,t∈ds->f t<=L
 |[]=>⟨0,fun t h=>by cases h⟩
 |d::ds=>by
  obtain⟨L,h⟩:=ZfH f ds
  refine⟨max L (f d),fun t ht=>?_⟩
  rcases List.mem_cons.1 ht with rfl|ht
  ·omega
  ·have:=h t ht
   omega
structure FrOk (E:List Ed)(ds:List Int)(K:Nat)(r:Int)(q:Sr):Prop where
 n:q.n<=4096
 good:r= -1->SrOk E (· ∈ds) q/\(∀e∈E,hit q.s e=none)/\∀t,t∈ds->∃c,q.s t=some c/\c<=0
 bad:r≠ -1->∃e0∈E,r=(e0.i:Int)/\(∃a,hit ((sr0 ds).rounds E K).s e0=some a)/\q={(sr0 ds).rounds E K with by':=upd ((sr0 ds).rounds E K).by' e0.v (some e0)}
structure FrS (l:List Za)(sm ds:List Int)(K:Nat) where
 q:Sr
 r:Int
 m1:Nat
 m2:Nat
 a:List (Int×Int)
 b:List (Int×Int)
 ok:FrOk (edL l sm) ds K r q
 mat:MatS q a b
structure FrI (E:List Ed)(ds:List Int)(k j:Nat)(z:Int)(a b:List (Int×Int)):Prop where
 mat:MatS ((((sr0 ds).rounds E k)).round (E.take j)) a b
 z0: -1<=z
 zz:z<0↔(((sr0 ds).rounds E k).round (E.take j)).n=((sr0 ds).rounds E k).n
set_option maxHeartbeats 16000000 in
theorem ZsV (p:Option Addr)(n cp:Nat)(h:Sl)(v2:Value)(l:List Za)(sm ds:List Int)(sz:Nat)(w:World)(hv:ArgS w (.slice p n cp) Zf l)(hs:ArgS w (.slice h.a h.len h.cap) (eI .i64) sm)(hd:ArgS w v2 (eI .i64) ds)
  (hl:l.length<=6) (hsm:sm.length<=6) (hrng:∀k∈sm,0<=k/\k<l.length) (hex:∀x∈l,ExB x) (hdl:ds.length<=1048576) (hsz:sz<=12)
  (hpre:(∀e∈edL l sm,e.v∈ds)\/((∃f,PotE (edL l sm) f)/\∃V:List Int,V.length<=sz/\∀v b,Rch (edL l sm) (· ∈ds) v b->v∈V)):
  Calls prog 216 [.agg (ZP ⟨⟨p,n,cp⟩,h,(sz:Nat)⟩),v2].toArray w (RetM (FrS l sm ds (sz+1)) (fun x=> .tuple #[.agg (vSr (some x.m1) (some x.m2)), .int .i64 x.r]) (fun x=>[⟨x.m2, .obj (mII x.b),326⟩,⟨x.m1, .obj (mII x.a),326⟩]) w):=by
 obtain⟨p',cp',hf1⟩:=hv.form
 injection hf1 with f1 f2 f3
 subst f1
 subst f2
 subst f3
 obtain⟨p2,cp2,hf2⟩:=hd.form
 subst hf2
 obtain⟨hp,hlen,hcap⟩:=h
 obtain⟨p3,cp3,hf3⟩:=hs.form
 injection hf3 with f1 f2 f3
 simp only at f1 f2 f3
 subst f1
 subst f2
 subst f3
 refine Zg Tryz.func216 rfl Tryz.ntmps216 rfl ?_
 repeat(refine wkM ?_;intros)
 rename_i b2 b4 m1 m2 b6
 obtain⟨E,hE⟩:∃E,E=edL l sm:=⟨_,rfl⟩
 have hEl:E.length=sm.length:=by rw[hE,Znm]
 have hEe:∀e∈E, -2147483648<=e.w/\e.w<=2147483648:=fun e he=>by
  rw[hE] at he
  obtain⟨k,hk,rfl⟩:=List.mem_map.1 he
  have hr:=hrng k hk
  have hx:=hex (gi l k) (ZI (by omega))
  have h1:=hx.s
  have h2:=hx.r
  have h3:=hx.l
  show-2147483648<=wgt (gi l k)/\wgt (gi l k)<=2147483648
  unfold wgt
  omega
 refine Zm (S:=Nat) (fun i=>i<=ds.length) (fun i=>[(2, .pointer (some ⟨b2,0,none⟩)),(4, .pointer (some ⟨b4,0,none⟩)),(6, .pointer (some ⟨b6,0,none⟩)),(25, .slice p2 ds.length cp2),(26, .int .i64 ds.length),(27, .int .i64 (i:Nat))]) (fun i=>[⟨b6,vSr (some m1) (some m2),328⟩,⟨m2, .obj (mII []),326⟩,⟨m1, .obj (mII (ini ds i)),326⟩,⟨b4,vSr none none,328⟩,⟨b2,ZP ⟨⟨p,l.length,cp⟩,⟨hp,sm.length,hcap⟩,(sz:Nat)⟩,324⟩]) (fun i=>ds.length-i) 0 (Wm _) sbB slB (fun i hi=>?_)
 repeat(refine wkM ?_;intros)
 refine Zl rfl (fun h=>?_) (fun h=>?_)
 ·have hlt:i<ds.length:=by have:=Wa h;omega
  have hne:ds≠[]:=fun h0=>by rw[h0] at hlt;simp at hlt
  obtain⟨bw,ow,cw,hvw,hcw,hrow⟩:=hd.blk (k:=0) hne []
  injection hvw with e1 e2 e3
  subst e1
  subst e3
  have hrow':∀L,RowC w L bw ow Int (eI .i64) ds:=fun L=>⟨fun w' hw'=>hrow.out w' (hw'.sub (Wk _))⟩
  have hnx:=ZkY hlt
  repeat(refine wkM ?_;intros)
  rw[<-hnx]
  repeat(refine wkO ?_;intros)
  exact Zh (i+1) hlt sbB slB (by omega)
 have hge:i=ds.length:=by have:=Wb h;omega
 subst hge
 have hB0:=fun k=>(Zyk ds).rounds rfl hEe k
 have hS0:=fun k=>(ZfT E ds).rounds k
 clear h
 have hwr:IntKind.i64.wrap (((sz:Nat):Int)+1)=((sz+1:Nat):Int):=by
  rw[IntWalk.i64_in _ (by omega)]
  omega
 repeat(refine wkO ?_;intros)
 dsimp only
 simp only[hwr]
 refine Zm (S:=(k:Nat)×{ab:List (Int×Int)×List (Int×Int) // MatS ((sr0 ds).rounds E k) ab.1 ab.2}) (fun q=>q.1<=sz+1/\∀j,j<q.1->((sr0 ds).rounds E j).n<((sr0 ds).rounds E (j+1)).n) (fun q=>[(2, .pointer (some ⟨b2,0,none⟩)),(4, .pointer (some ⟨b4,0,none⟩)),(6, .pointer (some ⟨b6,0,none⟩)),(37, .int .i64 ((sz+1:Nat))),(38, .int .i64 (q.1:Nat))]) (fun q=>[⟨b6,vSr (some m1) (some m2),328⟩,⟨m2, .obj (mII q.2.1.2),326⟩,⟨m1, .obj (mII q.2.1.1),326⟩,⟨b4,vSr none none,328⟩,⟨b2,ZP ⟨⟨p,l.length,cp⟩,⟨hp,sm.length,hcap⟩,(sz:Nat)⟩,324⟩]) (fun q=>sz+1-q.1) ⟨0,⟨(ini ds ds.length,[]),ZwR ds⟩⟩ ⟨Wm _,fun j hj=>absurd hj (Nat.not_lt_zero _)⟩ sbB slB (fun q hq=>?_)
 obtain⟨k,⟨⟨a,b⟩,hm⟩⟩:=q
 obtain⟨hk,hup⟩:=hq
 simp only at hk hup hm⊢
 repeat(refine wkM ?_;intros)
 refine Zl rfl (fun h=>?_) (fun h=>?_)
 ·have hlt:k<sz+1:=by have:=Wa h;omega
  clear h
  repeat(refine wkM ?_;intros)
  have hBk:=hB0 k
  refine Zm (S:=(j:Nat)×{x:List (Int×Int)×List (Int×Int)×Int // FrI E ds k j x.2.2 x.1 x.2.1}) (fun q=>q.1<=sm.length) (fun q=>[(2, .pointer (some ⟨b2,0,none⟩)),(4, .pointer (some ⟨b4,0,none⟩)),(6, .pointer (some ⟨b6,0,none⟩)),(9, .int .i64 q.2.1.2.2),(37, .int .i64 ((sz+1:Nat))),(38, .int .i64 (k:Nat)),(41, .slice hp sm.length hcap),(42, .int .i64 sm.length),(43, .int .i64 (q.1:Nat))]) (fun q=>[⟨b6,vSr (some m1) (some m2),328⟩,⟨m2, .obj (mII q.2.1.2.1),326⟩,⟨m1, .obj (mII q.2.1.1),326⟩,⟨b4,vSr none none,328⟩,⟨b2,ZP ⟨⟨p,l.length,cp⟩,⟨hp,sm.length,hcap⟩,(sz:Nat)⟩,324⟩]) (fun q=>sm.length-q.1) ⟨0,⟨(a,b, -1),⟨hm,Int.le_refl _,⟨fun _=>rfl,fun _=>(show(-1:Int)<0 by omega)⟩⟩⟩⟩ (Wm _) sbB slB (fun q hq=>?_)
  obtain⟨j,⟨⟨a,b,z⟩,hm⟩⟩:=q
  simp only at hq hm⊢
  repeat(refine wkM ?_;intros)
  refine Zl rfl (fun h=>?_) (fun h=>?_)
  ·have hlt3:j<sm.length:=by have:=Wa h;omega
   clear h
   have hr:=hrng (gi sm (j:Int)) (ZI (by omega))
   have hxE:=hex (gi l (gi sm (j:Int))) (ZI (by omega))
   obtain⟨Q,hQ⟩:∃Q,Q=((sr0 ds).rounds E k).round (E.take j):=⟨_,rfl⟩
   have hQ2:((sr0 ds).rounds E k).round (E.take (j+1))=Q.use ⟨(gi l (gi sm (j:Int))).From,(gi l (gi sm (j:Int))).To,wgt (gi l (gi sm (j:Int))),(gi sm (j:Int)).toNat⟩:=by
    rw[hE,Zky hlt3,<-hE,ZnH,hQ]
    rfl
   obtain⟨hm1,hz0,hzz⟩:=hm
   rw[<-hQ] at hm1 hzz
   have hQB:SrB Q/\Q.n<=90:=by
    obtain⟨h1,h2⟩:=hBk.1.round (l:=E.take j) fun e he=>hEe e (List.mem_of_mem_take he)
    rw[<-hQ] at h1 h2
    have h3:k*E.length<=13*6:=Nat.mul_le_mul (by omega) (by omega)
    have h4:=hBk.2
    rw[Wt] at h2
    exact⟨h1,by omega⟩
   have hnn:Q.n≥((sr0 ds).rounds E k).n:=by rw[hQ];exact ZeS _ _
   have hne3:sm≠[]:=fun h0=>by rw[h0] at hlt3;simp at hlt3
   have hne:l≠[]:=fun h0=>by rw[h0] at hr;simp at hr;omega
   obtain⟨bs,os,cs,hvs,hcs,hrs⟩:=hs.blk (k:=0) hne3 []
   injection hvs with e1 e2 e3
   subst e1
   subst e3
   obtain⟨bw,ow,cw,hvw,hcw,hrow⟩:=hv.blk (k:=4) hne []
   injection hvw with e1 e2 e3
   subst e1
   subst e3
   have hrs':∀L,RowC w L bs os Int (eI .i64) sm:=fun L=>⟨fun w' hw'=>hrs.out w' (hw'.sub (Wk _))⟩
   have hrow':∀L,RowC w L bw ow Za Zf l:=fun L=>⟨fun w' hw'=>hrow.out w' (hw'.sub (Wk _))⟩
   repeat(refine wkM ?_;intros)
   rename_i b12
   have hIi:(((gi sm (j:Int)).toNat:Nat):Int)=gi sm (j:Int):=by omega
   generalize gi l (gi sm (j:Int))=x at*
   generalize gi sm (j:Int)=ii at*
   obtain⟨e,he⟩:∃e:Ed,e=⟨x.From,x.To,wgt x,ii.toNat⟩:=⟨_,rfl⟩
   rw[<-he] at hQ2
   have eu:e.u=x.From:=by rw[he]
   have ev:e.v=x.To:=by rw[he]
   have ew:e.w=wgt x:=by rw[he]
   have ei:(e.i:Int)=ii:=by rw[he];exact hIi
   have hwx: -2147483648<=wgt x/\wgt x<=2147483648:=by
    have h1:=hxE.s
    have h2:=hxE.r
    have h3:=hxE.l
    unfold wgt
    omega
   simp only[hm1.s]
   refine Zd3 (S:=Bool) (fun q=>q=(hit Q.s e).isSome) (fun q=>[(2, .pointer (some ⟨b2,0,none⟩)),(4, .pointer (some ⟨b4,0,none⟩)),(6, .pointer (some ⟨b6,0,none⟩)),(9, .int .i64 z),(11, .int .i64 ii),(12, .pointer (some ⟨b12,0,none⟩)),(13, .int .i64 ((Q.s x.From).getD 0)),(37, .int .i64 ((sz+1:Nat))),(38, .int .i64 (k:Nat)),(41, .slice (some ⟨bs,os,none⟩) sm.length hcap),(42, .int .i64 sm.length),(43, .int .i64 (j:Nat)),(80, .bool q)]) (fun _=>[⟨b12,Zf x,122⟩,⟨b6,vSr (some m1) (some m2),328⟩,⟨m2, .obj (mII b),326⟩,⟨m1, .obj (mII a),326⟩,⟨b4,vSr none none,328⟩,⟨b2,ZP ⟨⟨some ⟨bw,ow,none⟩,l.length,cp⟩,⟨some ⟨bs,os,none⟩,sm.length,hcap⟩,(sz:Nat)⟩,324⟩]) ?_ (fun q hq2=>?_)
   ·unfold hit
    rw[eu,ev,ew]
    cases hA:Q.s x.From with
    |none=>
     simp only[Option.isSome_none]
     repeat(refine wkM ?_;intros)
     exact Zt false rfl sbB slB
    |some av=>
     have hav:=hQB.1 _ _ hA
     simp only[Option.isSome_some,Option.getD_some]
     repeat(refine wkM ?_;intros)
     cases hB:Q.s x.To with
     |none=>
      simp only[Option.isSome_none,Bool.not_false]
      repeat(refine wkM ?_;intros)
      exact Zt true rfl sbB slB
     |some bv=>
      simp only[Option.isSome_some,Option.getD_some,Bool.not_true]
      repeat(first|(refine wkM ?_;intros)|(refine wnM ?_ ?_;(focus(exact hxE));intros))
      by_cases hc:av+wgt x<bv
      ·simp only[Wc hc]
       rw[if_pos hc]
       repeat(refine wkM ?_;intros)
       exact Zt true rfl sbB slB
      ·simp only[We hc]
       rw[if_neg hc]
       repeat(refine wkM ?_;intros)
       exact Zt false rfl sbB slB
   ·cases hh:hit Q.s e with
    |none=>
     rw[hh] at hq2
     subst hq2
     simp only[Option.isSome_none]
     rw[Zbo hh] at hQ2
     repeat(refine wkO ?_;intros)
     exact Zh ⟨j+1,⟨(a,b,z),⟨by rw[hQ2];exact hm1,hz0,by rw[hQ2];exact hzz⟩⟩⟩ hlt3 sbB slB (by show sm.length-(j+1)<sm.length-j;omega)
    |some zv=>
     rw[hh] at hq2
     subst hq2
     simp only[Option.isSome_some]
     obtain⟨av,hA,hzv⟩:∃av,Q.s x.From=some av/\zv=av+wgt x:=by
      unfold hit at hh
      rw[eu,ev,ew] at hh
      cases h1:Q.s x.From with
      |none=>simp[h1] at hh
      |some c=>
       simp only[h1] at hh
       refine⟨c,rfl, ?_⟩
       cases h3:Q.s x.To with
       |none=>simp only[h3] at hh;injection hh with hh;exact hh.symm
       |some d=>
        simp only[h3] at hh
        split at hh
        ·injection hh with hh;exact hh.symm
        ·cases hh
     have hav:=hQB.1 _ _ hA
     simp only[hA,Option.getD_some]
     have hmu:=hm1.use hh
     rw[ev,ei] at hmu
     have hnu:=Zgn hh
     repeat(refine wkM ?_;intros)
     (refine ZX (.v [0,1,2,3,4,5,6,7,8,9,10,11,12,13] (.e1 14 (.v [15] (.e1 16 (.e1 17 (.e1 18 (.fin))))))) ([⟨b12,Zf x,122⟩,⟨b6,vSr (some m1) (some m2),328⟩]) (h:=?_);refine wkX ?_)
     (repeat(first|refine wkH ?_|(refine tC rfl rfl ?_ ?_;focus(exact hxE))))
     repeat(refine wkT ?_;intros)
     refine eMe rfl rfl ?_
     repeat(refine wkT ?_;intros)
     refine eEs rfl ?_
     repeat(refine wkT ?_;intros)
     refine eMu rfl ?_
     repeat(refine wkT ?_;intros)
     subst hzv
     repeat(refine wkO ?_;intros)
     exact Zh ⟨j+1,⟨(mput a x.To (av+wgt x),mput b x.To ii,ii),⟨by rw[hQ2];exact hmu,(show-1<=ii by omega),by
      rw[hQ2,hnu]
      show ii<0↔Q.n+1=_
      omega⟩⟩⟩ hlt3 sbB slB (by show sm.length-(j+1)<sm.length-j;omega)
  ·have hge:j=sm.length:=by have:=Wb h;omega
   subst hge
   clear h
   have htk:E.take sm.length=E:=by rw[<-hEl,List.take_length]
   obtain⟨hm1,hz0,hzz⟩:=hm
   rw[htk] at hm1 hzz
   repeat(refine wkM ?_;intros)
   by_cases hz:z<0
   ·simp only[Wc hz]
    obtain⟨s1,s2⟩:=Zg9 (hzz.1 hz)
    have hn9:((sr0 ds).rounds E k).n<=4096:=by
     have h3:k*E.length<=13*6:=Nat.mul_le_mul (by omega) (by omega)
     have h4:=hBk.2
     omega
    have hgood:FrOk E ds (sz+1) (-1) ((sr0 ds).rounds E k):=⟨hn9,fun _=>⟨hS0 k,s2,fun t ht=>ZcQ ⟨0,if_pos ht,Int.le_refl _⟩ k⟩,fun h=>absurd rfl h⟩
    rw[s1] at hm1
    repeat(refine wkM ?_;intros)
    refine ZA rfl (Zab rfl) (Zk rfl) (fun w hw=>⟨⟨_, -1,m1,m2,a,b,hE▸hgood,hm1⟩,rfl,hw.sub ?_⟩)
    exact slB
   ·simp only[We hz]
    have hup2:((sr0 ds).rounds E k).n<((sr0 ds).rounds E (k+1)).n:=by
     have h1:=ZeS E ((sr0 ds).rounds E k)
     have h2:(((sr0 ds).rounds E k).round E).n≠((sr0 ds).rounds E k).n:=fun h=>hz (hzz.2 h)
     show _<(((sr0 ds).rounds E k).round E).n
     omega
    repeat(refine wkO ?_;intros)
    exact Zh ⟨k+1,⟨(a,b),hm1⟩⟩ ⟨hlt,fun j hj=>by
     rcases Nat.lt_or_ge j k with h1|h1
     ·exact hup j h1
     ·have:j=k:=by have:j<k+1:=hj;omega
      subst this
      exact hup2⟩ sbB slB (by show sz+1-(k+1)<sz+1-k;omega)
 ·have hge:k=sz+1:=by have:=Wb h;omega
  subst hge
  clear h
  rw[<-hE] at hpre
  rcases hpre with hp1|⟨⟨f,hf⟩,V,hV1,hV2⟩
  ·obtain⟨Q,hQ⟩:∃Q,Q=(sr0 ds).rounds E (sz+1):=⟨_,rfl⟩
   rw[<-hQ] at hm
   have hpres:∀v,v∈ds->∃c,Q.s v=some c:=fun v hv=>by
    obtain⟨c,hc,_⟩:=ZcQ (E:=E) (q:=sr0 ds) ⟨0,if_pos hv,Int.le_refl _⟩ (sz+1)
    exact⟨c,by rw[hQ];exact hc⟩
   have hQB:SrB Q/\Q.n<=90:=by
    obtain⟨h1,h2⟩:=hB0 (sz+1)
    rw[<-hQ] at h1 h2
    have h3:(sz+1)*E.length<=13*6:=Nat.mul_le_mul (by omega) (by omega)
    exact⟨h1,by omega⟩
   have hSQ:=hS0 (sz+1)
   rw[<-hQ] at hSQ
   repeat(refine wkM ?_;intros)
   refine Zm (S:=Nat) (fun j=>j<=sm.length/\∀e∈E.take j,hit Q.s e=none) (fun j=>[(2, .pointer (some ⟨b2,0,none⟩)),(4, .pointer (some ⟨b4,0,none⟩)),(6, .pointer (some ⟨b6,0,none⟩)),(103, .slice hp sm.length hcap),(104, .int .i64 sm.length),(105, .int .i64 (j:Nat))]) (fun _=>[⟨b6,vSr (some m1) (some m2),328⟩,⟨m2, .obj (mII b),326⟩,⟨m1, .obj (mII a),326⟩,⟨b4,vSr none none,328⟩,⟨b2,ZP ⟨⟨p,l.length,cp⟩,⟨hp,sm.length,hcap⟩,(sz:Nat)⟩,324⟩]) (fun j=>sm.length-j) 0 ⟨Wm _,fun e he=>by rw[List.take_zero] at he;cases he⟩ sbB slB (fun j hj=>?_)
   obtain⟨hj,hno⟩:=hj
   repeat(refine wkM ?_;intros)
   refine Zl rfl (fun h=>?_) (fun h=>?_)
   ·have hlt3:j<sm.length:=by have:=Wa h;omega
    clear h
    have hr:=hrng (gi sm (j:Int)) (ZI (by omega))
    have hxE:=hex (gi l (gi sm (j:Int))) (ZI (by omega))
    have htk:=Zky (l:=l) hlt3
    rw[<-hE] at htk
    have heE:edI l (gi sm (j:Int))∈E:=by
     rw[hE]
     exact List.mem_map.2 ⟨_,ZI (by omega),rfl⟩
    have hne3:sm≠[]:=fun h0=>by rw[h0] at hlt3;simp at hlt3
    have hne:l≠[]:=fun h0=>by rw[h0] at hr;simp at hr;omega
    obtain⟨bs,os,cs,hvs,hcs,hrs⟩:=hs.blk (k:=0) hne3 []
    injection hvs with e1 e2 e3
    subst e1
    subst e3
    obtain⟨bw,ow,cw,hvw,hcw,hrow⟩:=hv.blk (k:=4) hne []
    injection hvw with e1 e2 e3
    subst e1
    subst e3
    have hrs':∀L,RowC w L bs os Int (eI .i64) sm:=fun L=>⟨fun w' hw'=>hrs.out w' (hw'.sub (Wk _))⟩
    have hrow':∀L,RowC w L bw ow Za Zf l:=fun L=>⟨fun w' hw'=>hrow.out w' (hw'.sub (Wk _))⟩
    repeat(refine wkM ?_;intros)
    rename_i b19
    have hIi:(((gi sm (j:Int)).toNat:Nat):Int)=gi sm (j:Int):=by omega
    obtain⟨e,he⟩:∃e:Ed,e=edI l (gi sm (j:Int)):=⟨_,rfl⟩
    rw[<-he] at htk heE
    have eu:e.u=(gi l (gi sm (j:Int))).From:=by rw[he];rfl
    have ev:e.v=(gi l (gi sm (j:Int))).To:=by rw[he];rfl
    have ew:e.w=wgt (gi l (gi sm (j:Int))):=by rw[he];rfl
    have ei:(e.i:Int)=gi sm (j:Int):=by rw[he];exact hIi
    generalize gi l (gi sm (j:Int))=x at*
    generalize gi sm (j:Int)=ii at*
    have hwx: -2147483648<=wgt x/\wgt x<=2147483648:=by
     have h1:=hxE.s
     have h2:=hxE.r
     have h3:=hxE.l
     unfold wgt
     omega
    obtain⟨bv,hB⟩:=hpres x.To (by rw[<-ev];exact hp1 e heE)
    have hgo:hit Q.s e=none->∀f∈E.take (j+1),hit Q.s f=none:=fun h0 f hf=>by
     rw[htk] at hf
     rcases List.mem_append.1 hf with hf|hf
     ·exact hno f hf
     ·rw[Wo] at hf
      rw[hf]
      exact h0
    simp only[hm.s]
    cases hA:Q.s x.From with
    |none=>
     have hh:hit Q.s e=none:=by
      unfold hit
      rw[eu,hA]
     simp only[Option.isSome_none]
     refine jD 13 13 (h:=?_)
     (repeat(refine wkH ?_))
     refine Zn ?_
     refine Zr ?_
     repeat(refine wkO ?_;intros)
     exact Zh (j+1) ⟨hlt3,hgo hh⟩ sbB slB (by show sm.length-(j+1)<sm.length-j;omega)
    |some av=>
     have hav:=hQB.1 _ _ hA
     simp only[Option.isSome_some,Option.getD_some]
     refine jD 13 13 (h:=?_)
     (repeat(first|refine wkH ?_|(refine tC rfl rfl ?_ ?_;focus(exact hxE))))
     simp only[hm.s,hB,Option.getD_some]
     (repeat(first|refine wkH ?_|(refine tC rfl rfl ?_ ?_;focus(exact hxE))))
     refine Zn ?_
     refine Zr ?_
     by_cases hc:av+wgt x<bv
     ·have hh:hit Q.s e=some (av+wgt x):=by
       unfold hit
       rw[eu,ev,ew,hA,hB]
       exact if_pos hc
      simp only[Wc hc]
      repeat(refine wkM ?_;intros)
      have hmb:MatS {Q with by':=upd Q.by' e.v (some e)} a (mput b x.To ii):=⟨hm.s,fun v=>by
       rw[ZaE,<-ev]
       unfold upd
       simp only
       by_cases h9:v=e.v
       ·rw[if_pos h9,if_pos h9,Option.map_some,ei]
       ·rw[if_neg h9,if_neg h9]
        exact hm.b v⟩
      have hbad:FrOk E ds (sz+1) ii {Q with by':=upd Q.by' e.v (some e)}:=⟨(show Q.n<=4096 by omega),fun h=>by omega,fun _=>⟨e,heE,ei.symm,⟨_,by rw[<-hQ];exact hh⟩,by rw[<-hQ]⟩⟩
      refine ZA rfl (Zab rfl) (Zk rfl) (fun w hw=>⟨⟨_,ii,m1,m2,a,_,hE▸hbad,hmb⟩,rfl,hw.sub ?_⟩)
      exact slB
     ·have hh:hit Q.s e=none:=by
       unfold hit
       rw[eu,ev,ew,hA,hB]
       exact if_neg hc
      simp only[We hc]
      repeat(refine wkO ?_;intros)
      exact Zh (j+1) ⟨hlt3,hgo hh⟩ sbB slB (by show sm.length-(j+1)<sm.length-j;omega)
   ·have hge:j=sm.length:=by have:=Wb h;omega
    subst hge
    have htk:E.take sm.length=E:=by rw[<-hEl,List.take_length]
    rw[htk] at hno
    have hgood:FrOk E ds (sz+1) (-1) Q:=⟨by omega,fun _=>⟨hSQ,hno,fun t ht=>by rw[hQ];exact ZcQ ⟨0,if_pos ht,Int.le_refl _⟩ (sz+1)⟩,fun h=>absurd rfl h⟩
    repeat(refine wkM ?_;intros)
    refine ZA rfl (Zab rfl) (Zk rfl) (fun w hw=>⟨⟨_, -1,m1,m2,a,b,hE▸hgood,hm⟩,rfl,hw.sub ?_⟩)
    exact slB
  ·exfalso
   obtain⟨Lb,hLb⟩:=ZfH f ds
   have hall:=(ZfT E ds).all (fun t ht=>⟨0,if_pos ht,Int.le_refl _⟩) hf (L:=Lb) hLb hV2
   have hno:=(hS0 V.length).noHit hall
   have hs1:=Zfq hno
   have hlt:=hup V.length (by omega)
   rw[show(sr0 ds).rounds E (V.length+1)=((sr0 ds).rounds E V.length).round E from rfl,hs1] at hlt
   omega
instance ZJc (w0:World)(L:List Blk)(p:Option Addr)(n cp:Nat)(h:Sl)(v2:Value)(l:List Za)(sm ds:List Int)(sz:Nat)[k1:LstC w0 L (.slice p n cp) Za Zf l][k2:LstC w0 L (.slice h.a h.len h.cap) Int (eI .i64) sm][k3:LstC w0 L v2 Int (eI .i64) ds]:SpecR prog w0 L 216 [.agg (ZP ⟨⟨p,n,cp⟩,h,(sz:Nat)⟩),v2] (FrS l sm ds (sz+1)) (fun x=> .tuple #[.agg (vSr (some x.m1) (some x.m2)), .int .i64 x.r]) (fun x=>[⟨x.m2, .obj (mII x.b),326⟩,⟨x.m1, .obj (mII x.a),326⟩])
  (l.length<=6/\sm.length<=6/\(∀k∈sm,0<=k/\k<l.length)/\(∀x∈l,ExB x)/\ds.length<=1048576/\sz<=12/\((∀e∈edL l sm,e.v∈ds)\/((∃f,PotE (edL l sm) f)/\∃V:List Int,V.length<=sz/\∀v b,Rch (edL l sm) (· ∈ds) v b->v∈V))):=⟨fun hq w hw=>
 ZsV p n cp h v2 l sm ds sz w (k1.out w hw) (k2.out w hw) (k3.out w hw) hq.1 hq.2.1 hq.2.2.1 hq.2.2.2.1 hq.2.2.2.2.1 hq.2.2.2.2.2.1 hq.2.2.2.2.2.2⟩
end
end Go.Vt
