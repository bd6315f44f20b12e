/- For any moving Boolean, any period and any two labels, Constant and FromBool have their labels, and Is gives the moving Boolean back, if both labels differ. Conditions: none. (part 23 of 28.) Conditions: those that each statement names. -/
import Derived.Shelf.Spec.SlicesGrow
import Derived.Ground.Names8Prog
import Derived.Test.YtcgkgdgpdpihmaaGreatDoorProg
import Derived.Test.YtcgkgdgpdpihmaaGreatDoorKM5
import Derived.Test.YtcgkgdgpdpihmaaGreatDoorKM11
import Derived.Test.YtcgkgdgpdpihmaaGreatDoorKM15
import Derived.Test.YtcgkgdgpdpihmaaGreatDoorKM19
import Derived.Test.YtcgkgdgpdpihmaaGreatDoorKM21
import Derived.Test.YtcgkgdgpdpihmaaGreatDoorKM22
set_option linter.unusedSimpArgs false
set_option linter.unusedVariables false
set_option maxHeartbeats 2000000
set_option maxRecDepth 100000
namespace Go.Vt
open Go.RowKit Go.Proofs
open Go.Proofs.Tryz (prog)
section
abbrev inL (us:List PU):List Za:=mpN (fun u:PU=>u.In) us us.length
set_option maxHeartbeats 8000000 in
theorem Ze1 (v:Value)(us:List PU)(w:World)(hv:ArgS w v rP us)(hl:us.length<=1048576):
  Calls prog 20 [v].toArray w (RetM (SlS rI 20 (inL us)) (fun s=>vSl s) (fun s=>mS 37 s) w):=by
 obtain⟨p,cp,rfl⟩:=hv.form
 refine Zb Tryz.func20 rfl Tryz.ntmps20 rfl ?_
 repeat(refine wkB ?_;intros)
 refine Zab (S:=SlS rI 20 (inL us)) (fun _=>True) (fun s=>[(3,vSl s)]) (fun s=>mS 37 s) ?_ (fun s _=>?_)
 ·refine Zm (S:=(_:Nat)×(o:List Za)×SlS rI 20 o) (fun q=>q.1<=us.length/\q.2.1=mpN (fun u:PU=>u.In) us q.1) (fun q=>[(0, .slice p us.length cp),(3,vSl q.2.2),(4, .int .i64 (q.1:Nat))]) (fun q=>mS 37 q.2.2) (fun q=>us.length-q.1) ⟨0,[],SlS.no⟩ ⟨Wm _,rfl⟩ sbB suB (fun q hq=>?_)
  obtain⟨m,out,s⟩:=q
  obtain⟨hq,ho⟩:=hq
  dsimp only at hq ho⊢
  have hlen:out.length=m:=by rw[ho];exact Z4 _ us m
  have hend:m=us.length->out=inL us:=fun h=>by rw[ho,h]
  have hnxt:out++[(gi us (m:Int)).In]=mpN (fun u:PU=>u.In) us (m+1):=by rw[ho];rfl
  clear ho
  repeat(refine wkB ?_;intros)
  refine Zg rfl (fun h=>?_) (fun h=>?_)
  ·have hlt:m<us.length:=by have:=Wa h;omega
   obtain⟨bw,ow,rfl,hrow'⟩:=hv.opn (k:=20) hlt
   repeat(refine wkB ?_;intros)
   refine sU (k:=20) (enc:=rI) (s:=s) rfl rfl ?_ ?_ ?_ ?_
   ·rfl
   ·rfl
   ·exact⟨by decide,by omega,by omega⟩
   intro s'
   repeat(first|(refine wkB ?_;intros)|(refine wnM ?_ ?_;(focus(exact⟨by omega,by omega⟩));intros))
   exact Zd ⟨m+1,_,s'⟩ ⟨hlt,hnxt⟩ sbB suB (by show us.length-(m+1)<us.length-m;omega)
  ·have hge:m=us.length:=by have:=Wb h;omega
   obtain⟨s',f1,f2⟩:=SlS.turn 37 (hend hge) s
   repeat(refine wkB ?_;intros)
   exact Zh s' trivial (by rw[f1];exact sbB) (by rw[f2];exact suB)
 repeat(refine wkB ?_;intros)
 exact Zs rfl rfl (fun w hw=>⟨s,rfl,hw.sub suB⟩)
instance ZqR (w0:World)(L:List Blk)(v:Value)(us:List PU)[h:LstC w0 L v PU rP us]:SpecR prog w0 L 20 [v] (SlS rI 20 (inL us)) (fun s=>vSl s) (fun s=>mS 37 s) (us.length<=1048576):=⟨fun hp w hw=>Ze1 v us w (h.out w hw) hp⟩
set_option maxHeartbeats 8000000 in
theorem Zkg (v:Value)(us:List PU)(x:Int)(w:World)(hv:ArgS w v rP us)(hl:us.length<=1024)(hk:∀i∈whL us x us.length,IvOk B28 i):
  Calls prog 43 [v, .int .i64 x].toArray w (RetM (SlS rI 20 (nrmS (whL us x us.length))) (fun s=>vSl s) (fun s=>mS 37 s) w):=by
 obtain⟨p,cp,rfl⟩:=hv.form
 have hwl:=ZbO us x us.length
 refine Zb Tryz.func43 rfl Tryz.ntmps43 rfl ?_
 repeat(refine wkB ?_;intros)
 refine Zab (S:=SlS rI 20 (whL us x us.length)) (fun _=>True) (fun s=>[(5,vSl s)]) (fun s=>mS 37 s) ?_ (fun s _=>?_)
 ·refine Zm (S:=(_:Nat)×(o:List Za)×SlS rI 20 o) (fun q=>q.1<=us.length/\q.2.1=whL us x q.1) (fun q=>[(0, .slice p us.length cp),(1, .int .i64 x),(5,vSl q.2.2),(6, .int .i64 (q.1:Nat))]) (fun q=>mS 37 q.2.2) (fun q=>us.length-q.1) ⟨0,[],SlS.no⟩ ⟨Wm _,rfl⟩ sbB suB (fun q hq=>?_)
  obtain⟨m,out,s⟩:=q
  obtain⟨hq,ho⟩:=hq
  dsimp only at hq ho⊢
  have hlen:out.length<=m:=by rw[ho];exact ZbO us x m
  have hend:m=us.length->out=whL us x us.length:=fun h=>by rw[ho,h]
  have hnxt:(if(gi us (m:Int)).Label=x then out++[(gi us (m:Int)).In] else out)=whL us x (m+1):=by rw[ho];rfl
  clear ho
  repeat(refine wkB ?_;intros)
  refine Zg rfl (fun h=>?_) (fun h=>?_)
  ·have hlt:m<us.length:=by have:=Wa h;omega
   obtain⟨bw,ow,rfl,hrow'⟩:=hv.opn (k:=20) hlt
   repeat(refine wkB ?_;intros)
   by_cases c:(gi us (m:Int)).Label=x
   ·simp only[Wc c]
    rw[if_pos c] at hnxt
    repeat(refine wkB ?_;intros)
    refine sU (k:=20) (enc:=rI) (s:=s) rfl rfl ?_ ?_ ?_ ?_
    ·rfl
    ·rfl
    ·exact⟨by decide,by omega,by omega⟩
    intro s'
    repeat(first|(refine wkB ?_;intros)|(refine wnM ?_ ?_;(focus(exact⟨by omega,by omega⟩));intros))
    exact Zd ⟨m+1,_,s'⟩ ⟨hlt,hnxt⟩ sbB suB (by show us.length-(m+1)<us.length-m;omega)
   ·simp only[We c]
    rw[if_neg c] at hnxt
    repeat(first|(refine wkB ?_;intros)|(refine wnM ?_ ?_;(focus(exact⟨by omega,by omega⟩));intros))
    exact Zd ⟨m+1,_,s⟩ ⟨hlt,hnxt⟩ sbB suB (by show us.length-(m+1)<us.length-m;omega)
  ·have hge:m=us.length:=by have:=Wb h;omega
   obtain⟨s',f1,f2⟩:=SlS.turn 37 (hend hge) s
   repeat(refine wkB ?_;intros)
   exact Zh s' trivial (by rw[f1];exact sbB) (by rw[f2];exact suB)
 repeat(first|(refine wkB ?_;intros)|(refine wnM ?_ ?_;(focus(exact⟨by omega,hk⟩));intros))
 rename_i r
 exact Zs rfl rfl (fun w hw=>⟨r,rfl,hw.sub suB⟩)
instance ZxU (w0:World)(L:List Blk)(v:Value)(us:List PU)(x:Int)[h:LstC w0 L v PU rP us]:SpecR prog w0 L 43 [v, .int .i64 x] (SlS rI 20 (nrmS (whL us x us.length))) (fun s=>vSl s) (fun s=>mS 37 s) (us.length<=1024/\∀i∈whL us x us.length,IvOk B28 i):=⟨fun hp w hw=>Zkg v us x w (h.out w hw) hp.1 hp.2⟩
end
section
def slO (n:Nat):Option (Nat×Nat×List Value)->Sl
 |none=>⟨none,0,0⟩
 |some t=>⟨some ⟨t.1,0,none⟩,n,t.2.1⟩
section
variable {α : Type} {enc : α -> Array Value} {k : Nat} {xs : List α}
def slOf (s:SlS enc k xs):Sl:=slO xs.length s.s
theorem ZdS (s:SlS enc k xs):vSl s= .slice (slOf s).a (slOf s).len (slOf s).cap:=by
 obtain⟨s,h1,h2⟩:=s
 cases s <;> rfl
instance (priority :=low) lstOf (w0:World)(L:List Blk)(s:SlS enc k xs)[h:LstC w0 L (vSl s) α enc xs]:LstC w0 L (.slice (slOf s).a (slOf s).len (slOf s).cap) α enc xs:=⟨fun w hw=>by rw[<-ZdS];exact h.out w hw⟩
end
noncomputable def whR (us:List PU)(x:Int):List Za:=swpR kpU (whL us x us.length) []
theorem Zpw (v:Value)(us:List PU)(x:Int)(w:World)(hv:ArgS w v rP us)(hl:us.length<=1048576)(h1:SwOk (pIv us) [])(h2:SwOk (whL us x us.length) []):
  Calls prog 41 [v, .int .i64 x].toArray w (RetM (SlS rI 20 (pDom us)×SlS rI 20 (whR us x)) (fun q=> .agg (ZJ ⟨slOf q.1,slOf q.2⟩)) (fun q=>mS 37 q.2++mS 37 q.1) w):=by
 have:=ArgC.mk hv
 refine Zb Tryz.func41 rfl Tryz.ntmps41 rfl ?_
 repeat(first|(refine wkB ?_;intros)|(refine wnM ?_ ?_;(focus(first|exact h1|exact⟨hl,h2⟩));intros))
 rename_i b4 s1 s2
 simp only[ZdS]
 repeat(refine wkB ?_;intros)
 exact Zbv rfl rfl (fun w hw=>⟨(s1,s2),rfl,hw.sub (by dsimp only;exact suB)⟩)
instance ZBD (w0:World)(L:List Blk)(v:Value)(us:List PU)(x:Int)[h:LstC w0 L v PU rP us]:SpecR prog w0 L 41 [v, .int .i64 x] (SlS rI 20 (pDom us)×SlS rI 20 (whR us x)) (fun q=> .agg (ZJ ⟨slOf q.1,slOf q.2⟩)) (fun q=>mS 37 q.2++mS 37 q.1) (us.length<=1048576/\SwOk (pIv us) []/\SwOk (whL us x us.length) []):=⟨fun hp w hw=>Zpw v us x w (h.out w hw) hp.1 hp.2.1 hp.2.2⟩
end
end Go.Vt
namespace Go.Vt
open Go.RowKit Go.Proofs
open Go.Proofs.Tryz (prog)
abbrev rWS :=ZQ
instance Zmx :EncC rWS 12:=⟨fun _=>CsC.size,fun _=>CsC.one⟩
noncomputable def iv6 (l:List WS):List Za:=mpN ivS l (min l.length 8)
set_option maxHeartbeats 8000000 in
theorem Zih (v:Value)(l:List WS)(w:World)(hv:ArgS w v rWS l)(hl:l.length<=9223372036854775807)(hk:∀x∈l,WSOk x):
  Calls prog 93 [v].toArray w (RetM (SlS rI 20 (iv6 l)) (fun s=>vSl s) (fun s=>mS 37 s) w):=by
 refine Zb Tryz.func93 rfl Tryz.ntmps93 rfl ?_
 obtain⟨p,cp,rfl⟩:=hv.form
 repeat(refine wkB ?_;intros)
 refine Zab (S:=SlS rI 20 (iv6 l)) (fun _=>True) (fun s=>[(3,vSl s)]) (fun s=>mS 37 s) ?_ (fun s _=>?_)
 ·refine Zm (S:=(_:Nat)×(o:List Za)×SlS rI 20 o) (fun q=>q.1<=min l.length 8/\q.2.1=mpN ivS l q.1) (fun q=>[(0, .slice p l.length cp),(3,vSl q.2.2),(4, .int .i64 (q.1:Nat))]) (fun q=>mS 37 q.2.2) (fun q=>8-q.1) ⟨0,[],SlS.no⟩ ⟨Wm _,rfl⟩ sbB suB (fun q hq=>?_)
  obtain⟨i,out,o⟩:=q
  obtain⟨hq,ho⟩:=hq
  dsimp only at hq ho⊢
  have hln:out.length=i:=by rw[ho];exact Z4 ivS l i
  have hend:i=min l.length 8->out=iv6 l:=fun h=>by rw[ho,h];rfl
  have hnxt:out++[ivS (gi l (i:Int))]=mpN ivS l (i+1):=by rw[ho];rfl
  clear ho
  repeat(refine wkB ?_;intros)
  by_cases c1:i<l.length
  ·simp only[Wc (show(i:Int)<(l.length:Nat) by omega)]
   repeat(refine wkB ?_;intros)
   refine Zg rfl (fun h=>?_) (fun h=>?_)
   ·have c2:i<8:=by have:=Wa h;omega
    obtain⟨bw,ow,rfl,hrow'⟩:=hv.opn (k:=11) c1
    have hki:=hk (gi l (i:Int)) (ZA (by omega))
    repeat(first|(refine wkB ?_;intros)|(refine wnM ?_ ?_;(focus(exact hki));intros))
    refine sU (k:=20) (enc:=rI) (s:=o) rfl rfl ?_ ?_ ?_ ?_
    ·rfl
    ·rfl
    ·exact⟨by decide,by omega,by omega⟩
    intro s'
    repeat(first|(refine wkB ?_;intros)|(refine wnM ?_ ?_;(focus(exact⟨by omega,by omega⟩));intros))
    exact Zd ⟨i+1,_,s'⟩ ⟨by show i+1<=min l.length 8;omega,hnxt⟩ sbB suB (by show 8-(i+1)<8-i;omega)
   ·have hge:i=min l.length 8:=by have:=Wb h;omega
    obtain⟨s',f1,f2⟩:=SlS.turn 37 (hend hge) o
    repeat(refine wkB ?_;intros)
    exact Zh s' trivial (by rw[f1];exact sbB) (by rw[f2];exact suB)
  ·have hge:i=min l.length 8:=by omega
   obtain⟨s',f1,f2⟩:=SlS.turn 37 (hend hge) o
   simp only[We (show¬(i:Int)<(l.length:Nat) by omega)]
   repeat(refine wkB ?_;intros)
   exact Zh s' trivial (by rw[f1];exact sbB) (by rw[f2];exact suB)
 repeat(refine wkB ?_;intros)
 exact Zs rfl rfl (fun w hw=>⟨s,rfl,hw.sub suB⟩)
instance Zvy (w0:World)(L:List Blk)(v:Value)(l:List WS)[h:LstC w0 L v WS rWS l]:SpecR prog w0 L 93 [v] (SlS rI 20 (iv6 l)) (fun s=>vSl s) (fun s=>mS 37 s) (l.length<=9223372036854775807/\∀x∈l,WSOk x):=⟨fun hp w hw=>Zih v l w (h.out w hw) hp.1 hp.2⟩
theorem Zeo (l:List WS):(iv6 l).length<=8:=by unfold iv6;rw[Z4];omega
theorem ZqI {l:List WS}:∀i∈iv6 l,∃x∈l,i=ivS x:=fun i hi=>by
 have key:∀m,m<=l.length->∀i∈mpN ivS l m,∃x∈l,i=ivS x:=fun m=>by
  induction m with
  |zero=>intro _ i hi;cases hi
  |succ m ih=>
   intro hm i hi
   rw[mpN,Wv,Wo] at hi
   rcases hi with hi|rfl
   ·exact ih (by omega) i hi
   ·exact⟨_,ZA (by omega),rfl⟩
 exact key _ (by omega) i hi
theorem Zhl {l:List WS}(hk:∀x∈l,WSOk x):∀i∈iv6 l,IvOk 3 i:=fun i hi=>by
 obtain⟨x,hx,rfl⟩:=ZqI i hi
 exact ZuC (hk x hx)
noncomputable def perL (l:List WS):List Za:=nrmS (iv6 l)
theorem ZfG {l:List WS}(hk:∀x∈l,WSOk x):∀i∈perL l,IvOk 3 i:=Zeq (Zhl hk)
theorem ZhX (l:List WS):(perL l).length<=64:=by
 have h1:=ZgJ (iv6 l)
 have h2:=Zeo l
 unfold perL
 omega
theorem Znt {l:List WS}(hk:∀x∈l,WSOk x):Sep (perL l)/\∀z,HoldP (perL l) z↔HoldP (iv6 l) z:=ZdD (by have:=Zeo l;omega) (fun i hi=>(Zhl hk i hi).mono (by decide))
theorem ZgL (v:Value)(l:List WS)(w:World)(hv:ArgS w v rWS l)(hl:l.length<=9223372036854775807)(hk:∀x∈l,WSOk x):
  Calls prog 38 [v].toArray w (RetM (SlS rI 20 (perL l)) (fun s=>vSl s) (fun s=>mS 37 s) w):=by
 have:=ArgC.mk hv
 have h1:=Zeo l
 have p1:(iv6 l).length<=1024/\∀i∈iv6 l,IvOk B28 i:=⟨by omega,fun i hi=>(Zhl hk i hi).mono (by decide)⟩
 refine Zb Tryz.func38 rfl Tryz.ntmps38 rfl ?_
 repeat(first|(refine wkB ?_;intros)|(refine wnM ?_ ?_;(focus(first|exact⟨hl,hk⟩|exact p1));intros))
 rename_i s1 s2
 exact Zs rfl rfl (fun w hw=>⟨s2,rfl,hw.sub suB⟩)
instance Zug (w0:World)(L:List Blk)(v:Value)(l:List WS)[h:LstC w0 L v WS rWS l]:SpecR prog w0 L 38 [v] (SlS rI 20 (perL l)) (fun s=>vSl s) (fun s=>mS 37 s) (l.length<=9223372036854775807/\∀x∈l,WSOk x):=⟨fun hp w hw=>ZgL v l w (h.out w hw) hp.1 hp.2⟩
def cnU (x:Int)(i:Za):PU:=⟨i,x⟩
theorem ZkM (x:Int)(v:Value)(is:List Za)(w:World)(hv:ArgS w v rI is)(hl:is.length<=1048576):
  Calls prog 39 [.int .i64 x,v].toArray w (RetM (SlS rP 21 (mpN (cnU x) is is.length)) (fun s=>vSl s) (fun s=>mS 46 s) w):=by
 obtain⟨p,cp,rfl⟩:=hv.form
 refine Zb Tryz.func39 rfl Tryz.ntmps39 rfl ?_
 repeat(refine wkB ?_;intros)
 refine Zab (S:=SlS rP 21 (mpN (cnU x) is is.length)) (fun _=>True) (fun s=>[(5,vSl s)]) (fun s=>mS 46 s) ?_ (fun s _=>?_)
 ·refine Zm (S:=(_:Nat)×(o:List PU)×SlS rP 21 o) (fun q=>q.1<=is.length/\q.2.1=mpN (cnU x) is q.1) (fun q=>[(0, .int .i64 x),(5,vSl q.2.2),(8, .slice p is.length cp),(9, .int .i64 (is.length:Nat)),(10, .int .i64 (q.1:Nat))]) (fun q=>mS 46 q.2.2) (fun q=>is.length-q.1) ⟨0,[],SlS.no⟩ ⟨Wm _,rfl⟩ sbB suB (fun q hq=>?_)
  obtain⟨m,out,s⟩:=q
  obtain⟨hq,ho⟩:=hq
  dsimp only at hq ho⊢
  have hlen:out.length=m:=by rw[ho];exact Z4 _ is m
  have hend:m=is.length->out=mpN (cnU x) is is.length:=fun h=>by rw[ho,h]
  have hnxt:out++[cnU x (gi is (m:Int))]=mpN (cnU x) is (m+1):=by rw[ho];rfl
  unfold cnU at hnxt
  clear ho
  repeat(refine wkB ?_;intros)
  refine Zg rfl (fun h=>?_) (fun h=>?_)
  ·have hlt:m<is.length:=by have:=Wa h;omega
   obtain⟨bw,ow,rfl,hrow'⟩:=hv.opn (k:=19) hlt
   repeat(refine wkB ?_;intros)
   refine sU (k:=21) (enc:=rP) (s:=s) rfl rfl ?_ ?_ ?_ ?_
   ·rfl
   ·rfl
   ·exact⟨by decide,by omega,by omega⟩
   intro s'
   repeat(first|(refine wkB ?_;intros)|(refine wnM ?_ ?_;(focus(exact⟨by omega,by omega⟩));intros))
   exact Zd ⟨m+1,_,s'⟩ ⟨hlt,hnxt⟩ sbB suB (by show is.length-(m+1)<is.length-m;omega)
  ·have hge:m=is.length:=by have:=Wb h;omega
   obtain⟨s',f1,f2⟩:=SlS.turn 46 (hend hge) s
   repeat(refine wkB ?_;intros)
   exact Zh s' trivial (by rw[f1];exact sbB) (by rw[f2];exact suB)
 repeat(refine wkB ?_;intros)
 exact Zs rfl rfl (fun w hw=>⟨s,rfl,hw.sub suB⟩)
instance Zyc (w0:World)(L:List Blk)(x:Int)(v:Value)(is:List Za)[h:LstC w0 L v Za rI is]:SpecR prog w0 L 39 [.int .i64 x,v] (SlS rP 21 (mpN (cnU x) is is.length)) (fun s=>vSl s) (fun s=>mS 46 s) (is.length<=1048576):=⟨fun hp w hw=>ZkM x v is w (h.out w hw) hp⟩
noncomputable def mkT (d t:List Za):List Za:=cmbR 2 t d
theorem ZiE (v1 v2:Value)(d t:List Za)(w:World)(h1:ArgS w v1 rI d)(h2:ArgS w v2 rI t)(hd:d.length<=1024/\∀i∈d,IvOk B28 i)(ht:t.length<=1024/\∀i∈t,IvOk B28 i):
  Calls prog 92 [v1,v2].toArray w (RetM (SlS rI 20 (nrmS d)×SlS rI 20 (mkT d t)) (fun q=> .agg (ZJ ⟨slOf q.1,slOf q.2⟩)) (fun q=>mS 37 q.2++mS 37 q.1) w):=by
 have:=ArgC.mk h1
 have:=ArgC.mk h2
 have p1:CbIn t d:=⟨ht.1,hd.1,ht.2,hd.2⟩
 refine Zb Tryz.func92 rfl Tryz.ntmps92 rfl ?_
 repeat(first|(refine wkB ?_;intros)|(refine wnM ?_ ?_;(focus(first|exact hd|exact p1));intros))
 rename_i b4 s1 s2
 simp only[ZdS]
 repeat(refine wkB ?_;intros)
 exact Zbv rfl rfl (fun w hw=>⟨(s1,s2),rfl,hw.sub (by dsimp only;exact suB)⟩)
instance Zu9 (w0:World)(L:List Blk)(v1 v2:Value)(d t:List Za)[h1:LstC w0 L v1 Za rI d][h2:LstC w0 L v2 Za rI t]:SpecR prog w0 L 92 [v1,v2] (SlS rI 20 (nrmS d)×SlS rI 20 (mkT d t)) (fun q=> .agg (ZJ ⟨slOf q.1,slOf q.2⟩)) (fun q=>mS 37 q.2++mS 37 q.1) ((d.length<=1024/\∀i∈d,IvOk B28 i)/\(t.length<=1024/\∀i∈t,IvOk B28 i)):=⟨fun hp w hw=>ZiE v1 v2 d t w (h1.out w hw) (h2.out w hw) hp.1 hp.2⟩
end Go.Vt
namespace Go.Proofs.YtcgkgdgpdpihmaaGreatDoor
open Go.ChangeShapes Go.WideShapes Go.ChangeAt Go.RowKit Go.Deep Go.Vt
theorem runder75 :Tryz.prog.underlying 75=some (.slice 42):=by kernel_rfl
section
variable {H : Type} {eH : TypeId × Value -> H} {W : World} {base : Nat} {sp : Nat -> Bool} {held : Bool}
theorem Zfu {fuel:Nat}{v:Value}{x:DataW H×List MemPlace}(hs:∃a l c,v= .slice a l c)(h:DataW.trod eH Tryz.prog W base sp held fuel 75 v.cells.toList=some x):
  ∃xs:List WS,ArgS W v rWS xs/\(∀x∈xs,WSOk x)/\xs.length<=9223372036854775807:=by
 obtain⟨a0,l0,c0,rfl⟩:=hs
 rcases open_slice runder75 h with⟨h0,_⟩|⟨a,len,cap,m,n,D,Pl,hcs,hb,hl,hm,hmm,hx,hcl⟩
 ·simp[Value.cells] at h0
  obtain⟨rfl,rfl,rfl⟩:=h0
  exact⟨[],⟨.inl ⟨rfl,rfl⟩⟩,(fun x hx=>by cases hx),by simp⟩
 ·simp[Value.cells] at hcs
  obtain⟨rfl,rfl,rfl⟩:=hcs
  have hlm:l0<=m:=by rw[hmm];split <;> omega
  have each:∀i,i<l0->∃z:WS,(∃cs',W.cells? base (a.add (i*12)) 12=some cs'/\cs'=(rWS z).toList)/\WSOk z:=fun i hi=>by
   obtain⟨cs',c1,c2⟩:=hcl i (by omega)
   rw[rc42] at c1
   obtain⟨z,z1,z2⟩:=Zmf _ _ _ c2
   exact⟨z,⟨cs',c1,z1⟩,z2⟩
  obtain⟨q,hq⟩:=choose_lt each
  refine⟨(List.range l0).map q,⟨.inr ⟨a,c0,by simp,by simpa using hl,fun i f k' u hi hk hu=>?_⟩⟩,fun z hz=>?_, ?_⟩
  ·simp only[List.length_map,List.length_range] at hi
   obtain rfl:k'=12:=by rw[<-hk default,Zmx.size]
   simp only[List.getElem_map,List.getElem_range] at hu
   obtain⟨cs',c1,c2⟩:=(hq i hi).1
   obtain⟨_,hlen,hcell⟩:=World.cells?_some c1
   have hf:f<12:=by
    have:=(Array.getElem?_eq_some_iff.1 hu).1
    rw[Zmx.size] at this
    exact this
   have h1:=hcell f (by omega)
   rw[add_add] at h1
   rw[h1]
   subst c2
   simpa using hu
  ·obtain⟨i,hi,rfl⟩:=List.mem_map.1 hz
   exact(hq i (List.mem_range.1 hi)).2
  ·simp only[List.length_map,List.length_range]
   have:(maxLen:Nat)=9223372036854775807:=by decide
   omega
end
end Go.Proofs.YtcgkgdgpdpihmaaGreatDoor
/-
 DERIVED: THE SHELF's CONTRACTS AT THIS DUMP, IN PLAIN WORDS (tools/lay-plain.mjs out of 'YtcgkgdgpdpihmaaGreatDoorLayGr.lean', which tools/lay-shelf.mjs wrote): THE SAME DECLARATIONS UNDER THE SAME NAMES: 'import', 'namespace', 'open', 'def', 'theorem' AND NOTHING ELSE: no command of the shelf's: FOR A HAND-IN. Each laying: the table of numbers ('.._ren') and one theorem, a field a fact of the dump's own or the kernel's comparison; each contract: ONE APPLICATION.
-/
namespace Go.Proofs
open Go.Shelf
def Tryz.lGrP_ren :Go.Shelf.Ren:=⟨fun|4=>137|n=>n,fun|22=>22|25=>46|3=>3|4=>4|9=>9|20=>20|0=>0|n=>n,fun|n=>n⟩
theorem Tryz.lGrP :Go.Proofs.Lays8.n4 Tryz.prog Tryz.lGrP_ren:={
 mixed:=by kernel_rfl
 f4:=⟨Tryz.f137.name,by decide,Tryz.func137.trans (congrArg some (by kernel_rfl))⟩
 t0:=Tryz.underlying0
 a0:=Tryz.isAgg0
 z0:=Tryz.sizeOf0
 v0:=Tryz.zeroValue0
 t3:=Tryz.underlying3
 a3:=Tryz.isAgg3
 z3:=Tryz.sizeOf3
 v3:=Tryz.zeroValue3
 t4:=Tryz.underlying4
 a4:=Tryz.isAgg4
 z4:=Tryz.sizeOf4
 v4:=Tryz.zeroValue4
 t9:=Tryz.underlying9
 a9:=Tryz.isAgg9
 z9:=Tryz.sizeOf9
 v9:=Tryz.zeroValue9
 t20:=Tryz.underlying20
 a20:=Tryz.isAgg20
 z20:=Tryz.sizeOf20
 v20:=Tryz.zeroValue20
 t22:=Tryz.underlying22
 a22:=Tryz.isAgg22
 z22:=Tryz.sizeOf22
 v22:=Tryz.zeroValue22}
end Go.Proofs
namespace Go.Vt
open Go.RowKit Go.Proofs
open Go.Proofs.Tryz (prog)
theorem ZoS {α:Type}{enc:α->Array Value}{k:Nat}(w:World)(c:Nat)(cs:Array Value)(T:TypeId)(hsz:cs.size=c*k):∃s:FlS enc k ([]:List α),vF s= .slice (some ⟨w.heap.size,0,none⟩) 0 c/\Own w (mF T s) (w.drew.alloc (.cells cs T)):=
 ⟨⟨some (w.heap.size,c,cs.toList),(fun h=>by cases h),fun t ht=>by injection ht with ht;subst ht;exact⟨Wm _,by simp[hsz]⟩⟩,rfl,by
  have h3:=((Own.start w).to (Ext.drew w)).alloc cs T
  have e:row enc [] cs.toList=cs:=by simp[row,rowL]
  show Own w [⟨w.heap.size,row enc [] cs.toList,T⟩] _
  rw[e]
  exact h3⟩
instance ZBi (x:Sl):LdC prog 22 (eSlc x) 0 (.slice x.a x.len x.cap):=⟨ZC⟩
instance ZAn (a a':Option Addr)(l l' c c':Nat):BsC prog 174 2 [(0, .slice a l c),(1, .slice a' l' c')] (row eSlc [⟨a,l,c⟩,⟨a',l',c'⟩] []) 22:=⟨fun w=>by kernel_rfl⟩
theorem ZkE (w:World):Calls prog 137 #[.slice none 0 0, .int .i64 ((0:Nat):Int)] w (fun e w'=>∃s:FlS rP 21 ([]:List PU),e= .returned (vF s)/\Own w (mF 46 s) w'/\vF s= .slice none 0 0/\mF 46 s=[]):=
 (Any8.slices_Grow_room Tryz.lGrP none 0 0 0 w (Wl _) (by decide) (by decide) (Wl _)).mono fun e w' ⟨h1,h2⟩=>by
  subst h1 h2
  exact⟨⟨none,fun _=>rfl,(fun t ht=>by cases ht)⟩,rfl,Own.start _,rfl,rfl⟩
theorem ZkT (n:Nat)(h0:0<n)(hn:n<=65536)(w:World):Calls prog 137 #[.slice none 0 0, .int .i64 (n:Nat)] w (RetM (FlS rP 21 ([]:List PU)) (fun s=>vF s) (fun s=>mF 46 s) w):=by
 have hz:=(inferInstance:ZeroC prog 46 _ _)
 obtain⟨i,hi,hik⟩:=Za7 (SizeC.out (P:=prog) (T:=46) (k:=21))
 obtain⟨i',hi',hiB⟩:=Za7 (BytesC.out (P:=prog) (T:=46))
 obtain rfl:i'=i:=Option.some.inj (hi'.symm.trans hi)
 have hz':=hz.out
 rw[hi] at hz'
 have hb:=grownCap_ge w (0+n) 0 46
 refine(Any8.slices_Grow_grow Tryz.lGrP i' _ hi (by simpa using hz') (by rw[hik];decide) none 0 0 n [] w (Wl _) (by omega) (by rw[hiB];omega) (by omega) (by simp) (fun _=>rfl) (fun a ha=>by cases ha)).mono fun e w' h=>?_
 obtain⟨h1,h2⟩:=h
 subst h1 h2
 have hzc:=hz.cells
 generalize (.agg (Z5 Zba):Value)=z at hz' hzc⊢
 have hsz:(([]:List Value).toArray++Builtin.zeroCells z.cells (0+n-0)++Builtin.zeroCells z.cells (grownCap w (0+n) 0 46-(0+n))).size=grownCap w (0+n) 0 46*21:=by
  rw[Array.size_append,Array.size_append,size_zeroCells,size_zeroCells,hzc]
  show 0+(0+n-0)*21+(grownCap w (0+n) 0 46-(0+n))*21=_
  omega
 obtain⟨s,e1,e2⟩:=ZoS (α:=PU) (enc:=rP) (k:=21) w (grownCap w (0+n) 0 46) _ 46 hsz
 exact⟨s,congrArg Ending.returned e1.symm,e2⟩
instance Zwf (w0:World)(L:List Blk)(n:Nat):SpecR prog w0 L 137 [.slice none 0 0, .int .i64 (n:Nat)] {s:FlS rP 21 ([]:List PU) // n=0->vF s= .slice none 0 0/\mF 46 s=[]} (fun s=>vF s.1) (fun s=>mF 46 s.1) (n<=65536):=⟨fun hp w _=>by
 rcases Nat.eq_zero_or_pos n with h0|h0
 ·subst h0
  exact(ZkE w).mono fun e w' ⟨s,h1,h2,h3,h4⟩=>⟨⟨s,fun _=>⟨h3,h4⟩⟩,h1,h2⟩
 ·exact(ZkT n h0 hp w).mono fun e w' ⟨s,h1,h2⟩=>⟨⟨s,fun h=>absurd h (by omega)⟩,h1,h2⟩⟩
def ccP (xs ys:List PU):Nat->List PU
 |0=>[]
 |1=>xs
 |_+2=>xs++ys
theorem Zp6 (xs ys:List PU)(m:Nat):(ccP xs ys m).length<=xs.length+ys.length:=by
 match m with
 |0=>exact Wm _
 |1=>exact Nat.le_add_right _ _
 |m+2=>exact Nat.le_of_eq Wp
set_option maxHeartbeats 8000000 in
theorem Zka (v:Value)(p1 p2:Option Addr)(c1 c2:Nat)(xs ys:List PU)(w:World)(hv:ArgS w v eSlc [⟨p1,xs.length,c1⟩,⟨p2,ys.length,c2⟩])(h1:ArgS w (.slice p1 xs.length c1) rP xs)(h2:ArgS w (.slice p2 ys.length c2) rP ys)(hl:xs.length+ys.length<=65536):
  Calls prog 94 [v].toArray w (RetM (SlS rP 21 (xs++ys)) (fun s=>vSl s) (fun s=>mS 46 s) w):=by
 have:=ArgC.mk h1
 have:=ArgC.mk h2
 obtain⟨ss,hss⟩:∃ss:List Sl,ss=[⟨p1,xs.length,c1⟩,⟨p2,ys.length,c2⟩]:=⟨_,rfl⟩
 rw[<-hss] at hv
 have hsl:ss.length=2:=by rw[hss];rfl
 have g0:gi ss ((0:Nat):Int)=⟨p1,xs.length,c1⟩:=by rw[hss];rfl
 have g1:gi ss ((1:Nat):Int)=⟨p2,ys.length,c2⟩:=by rw[hss];rfl
 obtain⟨bw,ow,cp,hvw,hcw,hrow⟩:=hv.blk (k:=0) (by rw[hss];simp) []
 rw[hsl] at hvw
 subst hvw
 have hrow':∀L,RowC w L bw ow Sl eSlc ss:=fun L=>⟨fun w' hw'=>hrow.out w' (hw'.sub (Wk _))⟩
 clear hss
 have hcl:=Zp6 xs ys
 refine Zb Tryz.func94 rfl Tryz.ntmps94 rfl ?_
 repeat(refine wkB ?_;intros)
 refine Zab (S:=Unit) (fun _=>True) (fun _=>[(0, .slice (some ⟨bw,ow,none⟩) 2 cp),(3, .int .i64 ((xs.length+ys.length:Nat):Int))]) (fun _=>[]) ?_ (fun _ _=>?_)
 ·refine Zm (S:=Nat) (fun m=>m<=2) (fun m=>[(0, .slice (some ⟨bw,ow,none⟩) 2 cp),(3, .int .i64 (((ccP xs ys m).length:Nat):Int)),(9, .slice (some ⟨bw,ow,none⟩) 2 cp),(10, .int .i64 2),(11, .int .i64 (m:Nat))]) (fun _=>[]) (fun m=>2-m) 0 (Wm _) sbB suB (fun m hm=>?_)
  repeat(refine wkB ?_;intros)
  refine Zg rfl (fun h=>?_) (fun h=>?_)
  ·have hlt:m<2:=by have:=Wa h;omega
   have hs:((ccP xs ys m).length:Int)+((gi ss (m:Int)).len:Int)=((ccP xs ys (m+1)).length:Int):=by
    rcases(by omega:m=0\/m=1) with rfl|rfl
    ·rw[g0];simp[ccP]
    ·rw[g1];simp[ccP]
   have hm1:=hcl (m+1)
   repeat(refine wkB ?_;intros)
   rw[hs]
   exact Zd (m+1) (show m+1<=2 by omega) sbB suB (by show 2-(m+1)<2-m;omega)
  ·have hge:m=2:=by have:=Wb h;omega
   subst hge
   have hs:((ccP xs ys 2).length:Int)=((xs.length+ys.length:Nat):Int):=by simp[ccP]
   rw[hs]
   repeat(refine wkB ?_;intros)
   exact Zh () trivial sbB suB
 repeat(first|(refine wkB ?_;intros)|(refine wnM ?_ ?_;(focus(exact hl));intros))
 rename_i s
 refine Zab (S:=SlS rP 21 (xs++ys)) (fun _=>True) (fun s=>[(6,vSl s)]) (fun s=>mS 46 s) ?_ (fun s _=>?_)
 ·refine Zm (S:=(m:Nat)×{s:FlS rP 21 (ccP xs ys m) // xs.length+ys.length=0->vF s= .slice none 0 0/\mF 46 s=[]}) (fun q=>q.1<=2) (fun q=>[(6,vF q.2.1),(25, .slice (some ⟨bw,ow,none⟩) 2 cp),(26, .int .i64 2),(27, .int .i64 (q.1:Nat))]) (fun q=>mF 46 q.2.1) (fun q=>2-q.1) ⟨0,s⟩ (Wm _) sbB suB (fun q hm=>?_)
  obtain⟨m,s,hs⟩:=q
  dsimp only at hm hs⊢
  repeat(refine wkB ?_;intros)
  refine Zg rfl (fun h=>?_) (fun h=>?_)
  ·have hlt:m<2:=by have:=Wa h;omega
   by_cases hz0:xs.length+ys.length=0
   ·obtain rfl:xs=[]:=List.length_eq_zero_iff.1 (by omega)
    obtain rfl:ys=[]:=List.length_eq_zero_iff.1 (by omega)
    obtain⟨e1,e2⟩:=hs hz0
    simp only[e1,e2]
    rcases(by omega:m=0\/m=1) with rfl|rfl
    ·repeat(refine wkB ?_;intros)
     simp only[g0]
     refine sVA (k:=20) (enc:=rP) (s:=SlS.no) (hx:=⟨rfl⟩) (hd:=⟨List.Perm.refl _⟩) rfl rfl ?_ ?_ ?_
     ·rfl
     ·exact⟨by decide,by decide⟩
     intro s'
     rcases s'.cases 46 with⟨_,q1,q2⟩|⟨_,_,_,_,_,_,hne⟩
     ·simp only[q1,q2]
      repeat(refine wkB ?_;intros)
      exact Zd ⟨1,⟨(⟨none,fun _=>rfl,(fun t ht=>by cases ht)⟩:FlS rP 21 ([]:List PU)),fun _=>⟨rfl,rfl⟩⟩⟩ (show 1<=2 by decide) sbB suB (show 2-1<2-0 by decide)
     ·exact absurd rfl hne
    ·repeat(refine wkB ?_;intros)
     simp only[g1]
     refine sVA (k:=20) (enc:=rP) (s:=SlS.no) (hx:=⟨rfl⟩) (hd:=⟨List.Perm.refl _⟩) rfl rfl ?_ ?_ ?_
     ·rfl
     ·exact⟨by decide,by decide⟩
     intro s'
     rcases s'.cases 46 with⟨_,q1,q2⟩|⟨_,_,_,_,_,_,hne⟩
     ·simp only[q1,q2]
      repeat(refine wkB ?_;intros)
      exact Zd ⟨2,⟨(⟨none,fun _=>rfl,(fun t ht=>by cases ht)⟩:FlS rP 21 ([]:List PU)),fun _=>⟨rfl,rfl⟩⟩⟩ (show 2<=2 by decide) sbB suB (show 2-2<2-1 by decide)
     ·exact absurd rfl hne
   ·have k0:=hcl 0
    have k1:=hcl 1
    rcases(by omega:m=0\/m=1) with rfl|rfl
    ·repeat(refine wkB ?_;intros)
     simp only[g0]
     refine sVF (k:=20) (enc:=rP) (s:=s) rfl rfl ?_ ?_ ?_
     ·rfl
     ·have:(ccP xs ys 0).length=0:=rfl
      exact⟨by omega,by omega⟩
     intro s'
     obtain⟨s2,f1,f2⟩:=FlS.like s' (show ccP xs ys 1=ccP xs ys 0++xs from rfl)
     repeat(refine wkB ?_;intros)
     exact Zd ⟨1,⟨s2,fun h=>absurd h hz0⟩⟩ (show 1<=2 by decide) (by dsimp only;rw[f1];exact sbB) (by dsimp only;rw[f2];exact suB) (show 2-1<2-0 by decide)
    ·repeat(refine wkB ?_;intros)
     simp only[g1]
     refine sVF (k:=20) (enc:=rP) (s:=s) rfl rfl ?_ ?_ ?_
     ·rfl
     ·have:(ccP xs ys 1).length=xs.length:=rfl
      exact⟨by omega,by omega⟩
     intro s'
     obtain⟨s2,f1,f2⟩:=FlS.like s' (show ccP xs ys 2=ccP xs ys 1++ys from rfl)
     repeat(refine wkB ?_;intros)
     exact Zd ⟨2,⟨s2,fun h=>absurd h hz0⟩⟩ (show 2<=2 by decide) (by dsimp only;rw[f1];exact sbB) (by dsimp only;rw[f2];exact suB) (show 2-2<2-1 by decide)
  ·have hge:m=2:=by have:=Wb h;omega
   subst hge
   by_cases hz0:xs.length+ys.length=0
   ·obtain rfl:xs=[]:=List.length_eq_zero_iff.1 (by omega)
    obtain rfl:ys=[]:=List.length_eq_zero_iff.1 (by omega)
    obtain⟨e1,e2⟩:=hs hz0
    simp only[e1,e2]
    repeat(refine wkB ?_;intros)
    exact Zh (SlS.no:SlS rP 21 ([]:List PU)) trivial sbB suB
   ·obtain⟨s2,f1,f2⟩:=FlS.sl s (show ccP xs ys 2≠[] from fun h=>hz0 (by have:=congrArg List.length h;simpa [ccP] using this))
    simp only[<-f1,<-f2]
    repeat(refine wkB ?_;intros)
    exact Zh (S:=SlS rP 21 (xs++ys)) s2 trivial sbB suB
 repeat(refine wkB ?_;intros)
 exact Zs rfl rfl (fun w hw=>⟨s,rfl,hw.sub suB⟩)
instance Zxa (w0:World)(L:List Blk)(b:Nat)(T:TypeId)(x1 x2:Sl)(xs ys:List PU)[h:AtC w0 L b (row eSlc [x1,x2] []) T][h1:LstC w0 L (.slice x1.a x1.len x1.cap) PU rP xs][h2:LstC w0 L (.slice x2.a x2.len x2.cap) PU rP ys]:SpecR prog w0 L 94 [.slice (some ⟨b,0,none⟩) 2 2] (SlS rP 21 (xs++ys)) (fun s=>vSl s) (fun s=>mS 46 s) (xs.length+ys.length<=65536):=⟨fun hp w hw=>by
 have a1:=h1.out w hw
 have a2:=h2.out w hw
 obtain⟨p1,c1,e1⟩:=a1.form
 obtain⟨p2,c2,e2⟩:=a2.form
 obtain⟨q1,n1,k1⟩:=x1
 obtain⟨q2,n2,k2⟩:=x2
 dsimp only at a1 a2 e1 e2
 injection e1 with i1 i2 i3
 injection e2 with j1 j2 j3
 subst i1 i2 i3 j1 j2 j3
 obtain⟨fz,hb⟩:=h.out w hw
 exact Zka _ _ _ _ _ xs ys w (ZbI (c:=2) hb (Wl _)) a1 a2 hp⟩
end Go.Vt
namespace Go.Vt
abbrev rl (q:Rat):Rl:=⟨q,0,false⟩
theorem Zkx (q:Rat):(rvR (rl q)).ok:=RV.ok_rat q
theorem ps0 {u v:Rat}:ps 0 u v↔0<u:=by
 unfold ps
 constructor
 ·rintro(⟨h, -⟩|⟨-,h⟩)
  ·exact h
  ·have:=ZaE u;grind
 ·intro h
  exact .inl ⟨h,by have:=Rat.mul_pos h h;grind⟩
theorem Ztz {p q:Rat}:ri (rl p)<ri (rl q)↔p<q:=by
 rw[Ri.lt_def,Zcd (Zkx p),Zcd (Zkx q)]
 constructor
 ·rintro⟨c,h1,h2⟩
  have h1:=ps0.1 h1
  have h2:=ps0.1 h2
  have e1:(rvR (rl p)).p=p:=rfl
  have e2:(rvR (rl q)).p=q:=rfl
  rw[e1] at h1
  rw[e2] at h2
  grind
 ·intro h
  refine⟨(p+q) / 2,ps0.2 ?_,ps0.2 ?_⟩
  ·show 0<(p+q) / 2-p;grind
  ·show 0<q-(p+q) / 2;grind
theorem ZmA {k:Nat}{q:Rat}(h:M q<=k)(hk:1<=k):RlB k (rl q):=⟨Zkx q,h,Wi (show M 0<=1 by decide) hk⟩
end Go.Vt
namespace Go.Vt
open Go.RowKit Go.Proofs
open Go.Proofs.Tryz (prog)
section
theorem NfP.ok {l:List PU}(h:NfP l):∀u∈l,okI u.In:=fun u hu=>h.nf.ok (absQ u) (List.mem_map_of_mem hu)
theorem NfP.bf {l:List PU}(h:NfP l){i j:Nat}(hij:i<j)(hj:j<l.length):bfI (gi l (i:Int)).In (gi l (j:Int)).In:=by
 have:=(List.pairwise_map.1 h.nf.pw)
 have:=List.pairwise_iff_getElem.1 this i j (by omega) hj hij
 rw[Zt hj,Zt (by omega)]
 exact this.bf
theorem ZmG (l:List PU){i:Nat}(h:i<l.length):gi (mpN toU l l.length) (i:Int)=toU (gi l (i:Int)):=by
 rw[Zas,Zt (by rw[Ws];exact h),Zt h,List.getElem_map]
theorem ZjM (l:List PU):(mpN toU l l.length).length=l.length:=Z4 toU l l.length
theorem ZAK {l:List PU}(h:NfP l)(t:Rl):∃c,Cut (mpN toU l l.length) t c:=by
 have hm:∀n,n<=l.length->∃c,c<=n/\(∀j:Nat,j<c->ri (gi l (j:Int)).In.To<ri t)/\∀j:Nat,c<=j->j<n->ri t<=ri (gi l (j:Int)).In.To:=fun n=>by
  induction n with
  |zero=>exact fun _=>⟨0,Wl _,fun j hj=>by omega,fun j h1 h2=>by omega⟩
  |succ n ih=>
   intro hn
   obtain⟨c,c1,c2,c3⟩:=ih (by omega)
   by_cases c0:ri (gi l (n:Int)).In.To<ri t
   ·refine⟨n+1,Wl _,fun j hj=>?_,fun j h1 h2=>by omega⟩
    rcases(by omega:j<n\/j=n) with h1|rfl
    ·have hb:=h.bf h1 (by omega)
     have ho:=h.ok (gi l (n:Int)) (ZA (by omega))
     unfold bfI at hb
     unfold okI at ho
     grind
    ·exact c0
   ·refine⟨c,by omega,c2,fun j h1 h2=>?_⟩
    rcases(by omega:j<n\/j=n) with h3|rfl
    ·exact c3 j h1 h3
    ·grind
 obtain⟨c,c1,c2,c3⟩:=hm l.length (Wl _)
 refine⟨c,⟨by rw[ZjM];exact c1,fun j hj=>?_,fun j h1 h2=>?_⟩⟩
 ·rw[ZmG l (by omega)];exact c2 j hj
 ·rw[ZjM] at h2
  rw[ZmG l h2];exact c3 j h1 h2
theorem ZjV (us:List PU)(x:Int){i:Za}:∀m,m<=us.length->(i∈whL us x m↔∃u∈us.take m,u.Label=x/\i=u.In)
 |0,_=>by simp[whL]
 |m+1,hm=>by
  have ih:=ZjV us x (i:=i) m (by omega)
  rw[Wn (by omega),<-Zt (by omega),whL]
  simp only[Wv,Wo]
  split
  ·rename_i hc
   rw[Wv,Wo,ih]
   constructor
   ·rintro(⟨u,h1,h2⟩|h1)
    ·exact⟨u, .inl h1,h2⟩
    ·exact⟨_, .inr rfl,hc,h1⟩
   ·rintro⟨u,h1|h1,h2⟩
    ·exact .inl ⟨u,h1,h2⟩
    ·rw[h1] at h2;exact .inr h2.2
  ·rename_i hc
   rw[ih]
   constructor
   ·rintro⟨u,h1,h2⟩;exact⟨u, .inl h1,h2⟩
   ·rintro⟨u,h1|h1,h2⟩
    ·exact⟨u,h1,h2⟩
    ·rw[h1] at h2;exact(hc h2.1).elim
theorem Zd6 {us:List PU}{x:Int}{i:Za}:i∈whL us x us.length↔∃u∈us,u.Label=x/\i=u.In:=by
 rw[ZjV us x _ (Wl _),List.take_length]
theorem Zhd (l:List PU):pIv l=inL l:=by
 unfold pIv
 rw[Zas,Zas,List.map_map,inL,Zas]
 rfl
theorem Znd {l:List PU}{z:Ri}:HoldP (inL l) z↔∃u∈l,memI u.In z:=by
 unfold HoldP inL
 rw[Zas]
 constructor
 ·rintro⟨i,h1,h2⟩
  obtain⟨u,h3,rfl⟩:=List.mem_map.1 h1
  exact⟨u,h3,h2⟩
 ·rintro⟨u,h1,h2⟩
  exact⟨_,List.mem_map.2 ⟨u,h1,rfl⟩,h2⟩
end
section
def PwU (l:List UL):Prop:=l.Pairwise (fun u w=>bfI u.In w.In)
theorem Zoi {us:List UL}(ho:∀u∈us,okI u.In)(hp:PwU us):NoTie us:=fun x hx y hy h1 h2=>by
 have key:∀u w:UL,okI u.In->okI w.In->bfI u.In w.In->leS u w->leS w u->False:=fun u w hu hw hb h1 h2=>by
  unfold leS opn at h1 h2
  unfold bfI at hb
  unfold okI at hu hw
  rcases hf:u.In.OpenFrom <;> rcases hg:w.In.OpenFrom <;> rw[hf] at h1 h2 hu <;> rw[hg] at h1 h2 hb hw <;> simp only[Bool.false_eq_true,if_false,if_true] at h1 h2 <;> grind
 rcases Zfo hp x hx y hy with e|e|e
 ·exact e
 ·exact(key x y (ho x hx) (ho y hy) e h1 h2).elim
 ·exact(key y x (ho y hy) (ho x hx) e h2 h1).elim
theorem ZmV {us:List UL}(hp:PwU us):(us.map absU).Pairwise Dis:=by
 rw[List.pairwise_map]
 exact hp.imp fun h=>GU.bfr.Dis (show(absU _).bfr (absU _) from h)
end
section
theorem pwQ {l:List PU}(h:NF (l.map absQ)):l.Pairwise (fun u w=>bfI u.In w.In):=(List.pairwise_map.1 h.pw).imp fun e=>e.bf
theorem Znn {l m:List PU}{K K':Nat}(hl:∀u∈l,IvOk K u.In)(hm:∀u∈m,IvOk K' u.In)(h:l.map absQ=m.map absQ):l=m:=by
 have h1:l.map toU=m.map toU:=Zez (K:=K) (K':=K') (fun u hu=>by obtain⟨w,hw,rfl⟩:=List.mem_map.1 hu;exact hl w hw) (fun u hu=>by obtain⟨w,hw,rfl⟩:=List.mem_map.1 hu;exact hm w hw) (by rw[List.map_map,List.map_map];exact h)
 have h2:=congrArg (List.map ofU) h1
 rw[List.map_map,List.map_map] at h2
 have e:ofU ∘ toU=id:=funext fun u=>rfl
 rw[e,List.map_id,List.map_id] at h2
 exact h2
theorem pwT {l:List PU}(h:l.Pairwise (fun u w=>bfI u.In w.In)):PwU (l.map toU):=by
 unfold PwU
 rw[List.pairwise_map]
 exact h
theorem ZiL (X:List UL):(mpN ofU X X.length).map absQ=X.map absU:=by
 rw[Zas,List.map_map]
 rfl
end
section
def CnI (u:PU):Prop:=(rvR u.In.From).ok/\(rvR u.In.To).ok
theorem IvOk.cn {K:Nat}{u:PU}(h:IvOk K u.In):CnI u:=⟨h.a.o,h.b.o⟩
theorem ZoT {us:List UL}(hk:∀u∈us,IvOk KN u.In)(ho:∀u∈us,okI u.In)(hp:PwU us)(hl:us.length<=65536):NrP us/\(∀u∈us,UIn u)/\NF ((nrmR us).map absU)/\∀t v,Has ((nrmR us).map absU) t v↔Has (us.map absU) t v:=by
 have hU:∀u∈us,UIn u:=fun u hu=>⟨hk u hu⟩
 have h:=Ze6 (us:=us) ⟨hU,fun u hu=>ho u hu⟩ (ZmV hp)
 exact⟨.inr ⟨hl,Zoi ho hp⟩,hU,h.1,h.2⟩
theorem Zof {a:List PU}(h:NF (a.map absQ))(hk:∀u∈a,IvOk KN u.In)(hl:a.length<=65536):NrP (mpN toU a a.length)/\(∀u∈mpN toU a a.length,UIn u)/\nrmE (mpN toU a a.length)=0/\mNorm a=a:=by
 have hA:=Zas toU a
 have hka:∀u∈a.map toU,IvOk KN u.In:=fun u hu=>by obtain⟨w,hw,rfl⟩:=List.mem_map.1 hu;exact hk w hw
 have hoa:∀u∈a.map toU,okI u.In:=fun u hu=>by obtain⟨w,hw,rfl⟩:=List.mem_map.1 hu;exact h.ok _ (List.mem_map_of_mem hw)
 have hpw:=pwT (pwQ h)
 obtain⟨r1,r2,r3,r4⟩:=ZoT hka hoa hpw (by rw[Ws];exact hl)
 have hq:(mNorm a).map absQ=(nrmR (a.map toU)).map absU:=by unfold mNorm;rw[hA,ZiL]
 have he:(a.map toU).map absU=a.map absQ:=by rw[List.map_map];rfl
 rw[hA]
 refine⟨r1,r2,(Zh6 ⟨r2,hoa⟩).2 (ZmV hpw),Znn (K:=KN) (K':=KN) (fun u hu=>?_) hk (by rw[hq];exact r3.uniq h fun z x=>by rw[r4,he])⟩
 have:mNorm a=mpN ofU (nrmR (a.map toU)) (nrmR (a.map toU)).length:=by unfold mNorm;rw[hA]
 rw[this,Zas] at hu
 obtain⟨w,hw,rfl⟩:=List.mem_map.1 hu
 exact(Zi4 r2 w hw).i
end
section
section
variable {Pr : Rl -> Prop}
def PrU (Pr:Rl->Prop)(u:UL):Prop:=Pr u.In.From/\Pr u.In.To
theorem Zll {xs:List UL}{u:UL}(h:∀v∈xs,PrU Pr v)(hu:PrU Pr u):∀v∈turn xs u,PrU Pr v:=fun v hv=>by
 rcases List.mem_or_eq_of_mem_set hv with h1|h1
 ·exact h v h1
 ·rw[h1];exact hu
theorem Zrm {l:List UL}{i:Nat}{xs:List UL}{x:UL}(h:∀v∈xs,PrU Pr v)(hx:PrU Pr x):∀v∈nstp l i xs x,PrU Pr v:=by
 unfold nstp
 split
 ·split
  ·rename_i hc
   have h0:0<xs.length:=by
    unfold cA at hc
    simp only[Wq] at hc
    exact Zbz hc.1
   have hl:PrU Pr (lstU xs):=h _ (ZA (by omega))
   exact Zll h ⟨hl.1,hx.2⟩
  ·intro v hv
   rcases List.mem_append.1 hv with h1|h1
   ·exact h v h1
   ·rw[Wo] at h1
    subst h1
    split
    ·exact hx
    ·exact hx
 ·split
  ·rename_i hc
   have h0:0<xs.length:=by
    unfold cC at hc
    simp only[Wq] at hc
    exact Zbz hc.1
   have hl:PrU Pr (lstU xs):=h _ (ZA (by omega))
   exact Zll h hl
  ·split
   ·exact h
   ·intro v hv
    rcases List.mem_append.1 hv with h1|h1
    ·exact h v h1
    ·rw[Wo] at h1
     subst h1
     exact hx
theorem Zpg {l:List UL}(h:∀u∈l,PrU Pr u):∀m,m<=l.length->∀v∈nrm l m,PrU Pr v
 |0,_=>fun v hv=>by cases hv
 |m+1,hm=>Zrm (Zpg h m (by omega)) (h _ (ZA (by omega)))
theorem Zud {u v:UL}(h:PrU Pr u)(hv:v∈atU u):PrU Pr v:=by
 unfold atU at hv
 rcases List.mem_append.1 hv with h1|h1
 ·split at h1
  ·cases h1
  ·rw[Wo] at h1
   subst h1
   exact⟨h.1,h.1⟩
 ·split at h1
  ·cases h1
  ·rcases List.mem_cons.1 h1 with h2|h2
   ·subst h2
    exact h
   ·split at h2
    ·cases h2
    ·rw[Wo] at h2
     subst h2
     exact⟨h.2,h.2⟩
theorem Zps {us:List UL}(h:∀u∈us,PrU Pr u):∀m,m<=us.length->∀v∈atm us m,PrU Pr v
 |0,_,v,hv=>by cases hv
 |m+1,hm,v,hv=>by
  rw[atm] at hv
  rcases List.mem_append.1 hv with h1|h1
  ·exact Zps h m (by omega) v h1
  ·exact Zud (h _ (ZA (by omega))) h1
theorem Zrk {us:List UL}(h:∀u∈us,PrU Pr u):∀v∈nrmR us,PrU Pr v:=by
 unfold nrmR
 split
 ·exact Zpg (Zps (fun u hu=>h u (Zc7 hu)) _ (Wl _)) _ (Wl _)
 ·intro v hv
  cases hv
end
theorem ZeB {l:List Za}(hp:l.Pairwise bfI)(ho:∀i∈l,okI i)(hc:∀i∈l,(rvR i.From).ok/\(rvR i.To).ok){E:List Rl}(hE:∀i∈l,i.From∈E):l.length<=2*E.length:=by
 have hk:(l.map fun i=>(i.From,decide (i.From=i.To))).Nodup:=by
  unfold List.Nodup
  rw[List.pairwise_map]
  refine hp.imp_of_mem fun {i j} hu hw hb e=>?_
  have c1:=hc i hu
  have c2:=hc j hw
  have o1:=ho i hu
  have o2:=ho j hw
  injection e with e1 e2
  have f1:ri i.From=ri j.From:=by rw[e1]
  have f2:(ri i.From=ri i.To)↔(ri j.From=ri j.To):=by
   rw[ZbX c1.1 c1.2,ZbX c2.1 c2.2]
   rw[decide_eq_decide] at e2
   exact e2
  unfold bfI at hb
  unfold okI at o1 o2
  grind
 have hs:(l.map fun i=>(i.From,decide (i.From=i.To))) ⊆ E.map (fun e=>(e,true))++E.map (fun e=>(e,false)):=fun x hx=>by
  obtain⟨i,hi,rfl⟩:=List.mem_map.1 hx
  have:=hE i hi
  rw[Wv,List.mem_map,List.mem_map]
  cases decide (i.From=i.To)
  ·exact .inr ⟨_,this,rfl⟩
  ·exact .inl ⟨_,this,rfl⟩
 have:=hk.length_le_of_subset hs
 simp only[Ws,Wp] at this
 omega
theorem Zni {l:List PU}(h:NF (l.map absQ))(hc:∀u∈l,CnI u){E:List Rl}(hE:∀u∈l,u.In.From∈E):l.length<=2*E.length:=by
 have:=ZeB (l:=l.map (·.In)) (by rw[List.pairwise_map];exact pwQ h) (fun i hi=>by obtain⟨u,hu,rfl⟩:=List.mem_map.1 hi;exact h.ok _ (List.mem_map_of_mem hu)) (fun i hi=>by obtain⟨u,hu,rfl⟩:=List.mem_map.1 hi;exact hc u hu) (E:=E) (fun i hi=>by obtain⟨u,hu,rfl⟩:=List.mem_map.1 hi;exact hE u hu)
 rwa [Ws] at this
theorem Sep.bf {l:List Za}(h:Sep l):l.Pairwise bfI:=h.p.imp fun {i j} hb=>by
 unfold bLt bdL bdF at hb
 unfold bfI
 rcases hb with hb|⟨e,h1,h2⟩
 ·exact .inl hb
 ·exact .inr ⟨e, .inr h2⟩
theorem Zlk {us:List UL}(ho:∀u∈us,okI u.In)(hp:(us.map absU).Pairwise Dis):NoTie us:=fun x hx y hy h1 h2=>by
 rw[List.pairwise_map] at hp
 have key:∀u w:UL,okI u.In->okI w.In->Dis (absU u) (absU w)->leS u w->leS w u->False:=fun u w hu hw hd h1 h2=>by
  have hb:bfI u.In w.In:=by
   refine Ze8 (u:=absU u) (w:=absU w) hu hw ?_ hd
   unfold leS opn at h1 h2
   show ri u.In.From<ri w.In.From\/(ri u.In.From=ri w.In.From/\(u.In.OpenFrom=true->w.In.OpenFrom=true))
   rcases hf:u.In.OpenFrom <;> rcases hg:w.In.OpenFrom <;> rw[hf,hg] at h1 h2 <;> simp only[Bool.false_eq_true,if_false,if_true] at h1 h2 <;> grind
  unfold leS opn at h1 h2
  unfold bfI at hb
  unfold okI at hu hw
  rcases hf:u.In.OpenFrom <;> rcases hg:w.In.OpenFrom <;> rw[hf] at h1 h2 hu <;> rw[hg] at h1 h2 hb hw <;> simp only[Bool.false_eq_true,if_false,if_true] at h1 h2 <;> grind
 rcases Zfo hp x hx y hy with e|e|e
 ·exact e
 ·exact(key x y (ho x hx) (ho y hy) e h1 h2).elim
 ·exact(key y x (ho y hy) (ho x hx) e h2 h1).elim
theorem Zoe {us:List UL}(hk:∀u∈us,IvOk KN u.In)(ho:∀u∈us,okI u.In)(hp:(us.map absU).Pairwise Dis)(hl:us.length<=65536):NrP us/\(∀u∈us,UIn u)/\NF ((nrmR us).map absU)/\∀t v,Has ((nrmR us).map absU) t v↔Has (us.map absU) t v:=by
 have hU:∀u∈us,UIn u:=fun u hu=>⟨hk u hu⟩
 have h:=Ze6 (us:=us) ⟨hU,fun u hu=>ho u hu⟩ hp
 exact⟨.inr ⟨hl,Zlk ho hp⟩,hU,h.1,h.2⟩
theorem Zjg {l:List PU}{i:Za}:i∈pIv l↔∃u∈l,u.In=i:=by
 rw[Zhd]
 unfold inL
 rw[Zas]
 exact List.mem_map
end
end Go.Vt
namespace Go.Vt
def nwS (a x:Nat):Nat:=(x+a / x) / 2
theorem ZtE {d x s:Nat}(h:d+x=2*s):d*x<=s*s:=by
 rcases Nat.le_total d s with h1|h1
 ·obtain⟨k,rfl⟩:=Nat.le.dest h1
  obtain rfl:x=d+2*k:=by omega
  rw[Nat.mul_add,Nat.add_mul,Nat.mul_add,Nat.mul_add]
  have:=Wm (k*k)
  have e:d*(2*k)=d*k+k*d:=by rw[Nat.mul_comm k d,<-Nat.mul_two,Nat.mul_comm 2 k,Nat.mul_assoc]
  omega
 ·obtain⟨k,rfl⟩:∃k,d=s+k:=(Nat.le.dest h1).imp fun _ h=>h.symm
  obtain⟨m,rfl⟩:∃m,s=x+m:=(Nat.le.dest (show x<=s by omega)).imp fun _ h=>h.symm
  obtain rfl:k=m:=by omega
  have e1:(x+k+k)*x=x*x+k*x+k*x:=by rw[Nat.add_mul,Nat.add_mul]
  have e2:(x+k)*(x+k)=x*x+k*x+(x*k+k*k):=by rw[Nat.add_mul,Nat.mul_add,Nat.mul_add,Nat.mul_comm k x];try omega
  have e:x*k=k*x:=Nat.mul_comm _ _
  have:=Wm (k*k)
  omega
theorem ZrR {a x s:Nat}(hx:0<x)(h:s*s<=a):s<=nwS a x:=by
 unfold nwS
 rw[Nat.le_div_iff_mul_le (by decide)]
 have hq:∀d,d*x<=a->d<=a / x:=fun d=>(Nat.le_div_iff_mul_le hx).2
 generalize a / x=q at*
 rcases Nat.le_total (2*s) x with h1|h1
 ·omega
 ·obtain⟨d,hd⟩:=Nat.le.dest h1
  have h2:d*x<=s*s:=ZtE (by omega)
  have h3:=hq d (Wi h2 h)
  omega
theorem ZrO {a x s:Nat}(h:a<(s+1)*(s+1))(hx:s<x):nwS a x<x:=by
 unfold nwS
 have h1:a<x*x:=Nat.lt_of_lt_of_le h (Nat.mul_le_mul hx hx)
 have h2:a / x<x:=(Nat.div_lt_iff_lt_mul (by omega)).2 h1
 generalize a / x=q at*
 omega
theorem ZpX {a x s:Nat}(h1:s*s<=a)(h2:a<(s+1)*(s+1))(h3:s<=x)(hx:0<x)(h:x<=nwS a x):x=s:=by
 rcases Nat.lt_or_ge s x with h4|h4
 ·have:=ZrO h2 h4;omega
 ·omega
theorem Zfy :∀a:Nat,∃s,s*s<=a/\a<(s+1)*(s+1)
 |0=>⟨0,by decide,by decide⟩
 |a+1=>by
  obtain⟨s,h1,h2⟩:=Zfy a
  rcases Nat.lt_or_ge (a+1) ((s+1)*(s+1)) with h|h
  ·exact⟨s,by omega,h⟩
  ·refine⟨s+1,by omega, ?_⟩
   have e:(s+1+1)*(s+1+1)=(s+1)*(s+1)+2*(s+1)+1:=by
    rw[Nat.add_mul (s+1) 1,Nat.mul_add (s+1) (s+1) 1]
    omega
   omega
noncomputable def isq (a:Nat):Nat:=(Zfy a).choose
theorem Zb3 (a:Nat):isq a*isq a<=a/\a<(isq a+1)*(isq a+1):=(Zfy a).choose_spec
theorem Zn9 {a s:Nat}(h1:s*s<=a)(h2:a<(s+1)*(s+1)):s=isq a:=by
 obtain⟨k1,k2⟩:=Zb3 a
 rcases Nat.lt_trichotomy s (isq a) with h|h|h
 ·have:=Nat.mul_le_mul (show s+1<=isq a from h) (show s+1<=isq a from h)
  omega
 ·exact h
 ·have:=Nat.mul_le_mul (show isq a+1<=s from h) (show isq a+1<=s from h)
  omega
end Go.Vt
namespace Go.Vt
theorem Zgr {m:Nat}(hm:m≠0):∀q,le (256 ^ q*m)=List.replicate q 0++le m
 |0=>by simp
 |q+1=>by
  have h0:256 ^ (q+1)*m=256*(256 ^ q*m):=by rw[Nat.pow_succ,Nat.mul_comm (256 ^ q) 256,Nat.mul_assoc]
  have hp:256 ^ q*m≠0:=Nat.mul_ne_zero (by have:=Nat.pow_pos (n:=q) (show 0<256 by decide);omega) hm
  generalize hx:256 ^ q*m=x at*
  have ih:=Zgr hm q
  rw[hx] at ih
  rw[h0,Za2 (by omega),show 256*x / 256=x by omega,show 256*x % 256=0 by omega,ih]
  rfl
theorem ZpS {m:Nat}(h:0<m)(h1:m<256):le m=[UInt8.ofNat m]:=by
 rw[Za2 (by omega),show m / 256=0 by omega,show m % 256=m by omega]
 rfl
theorem ZjT (n:Nat):mag (2 ^ n)=⟨(UInt8.ofNat (2 ^ (n % 8))::List.replicate (n / 8) 0).toArray⟩:=by
 have h8:2 ^ (n % 8)<256:=by
  have:n % 8<8:=Nat.mod_lt _ (by decide)
  exact Nat.lt_of_lt_of_le (Nat.pow_lt_pow_right (by decide) this) (by decide)
 have h0:0<2 ^ (n % 8):=Nat.pow_pos (by decide)
 have e:2 ^ n=256 ^ (n / 8)*2 ^ (n % 8):=by
  rw[show(256:Nat)=2 ^ 8 by rfl,<-Nat.pow_mul,<-Nat.pow_add,Nat.div_add_mod]
 unfold mag
 rw[e,Zgr (by omega),ZpS h0 h8,List.reverse_append,List.reverse_replicate]
 rfl
theorem ZkU {a:Nat}{t:UInt8}(ht:(mag a)[0]? =some t):1<=Lib.bitLen t.toNat/\Lib.bitLen t.toNat<=8/\a<2 ^ (8*((mag a).size-1)+Lib.bitLen t.toNat):=by
 have hd:(le a).reverse[0]? =some t:=by
  rw[<-ht]
  unfold mag
  cases h:(le a).reverse with
  |nil=>rfl
  |cons x l=>rfl
 have hl:(le a).getLast? =some t:=by
  rw[<-List.head?_reverse,List.head?_eq_getElem?]
  exact hd
 have hne:le a≠[]:=fun h=>by rw[h] at hl;cases hl
 obtain⟨l,hle⟩:∃l,le a=l++[t]:=⟨(le a).dropLast,by
  rw[List.getLast?_eq_some_getLast hne,Option.some.injEq] at hl
  rw[<-hl,List.dropLast_concat_getLast]⟩
 have hv:=Zfs a
 rw[hle,Zcx] at hv
 have h1:=Zde l
 have htop:t≠0:=ZmW a t hl
 have ht0:t.toNat≠0:=fun h=>htop (UInt8.toNat_inj.1 h)
 have ht1:=UInt8.toNat_lt t
 obtain⟨b1,b2,b3⟩:=Zcg (x:=t.toNat) (by omega) ht0
 have hs:(mag a).size-1=l.length:=by rw[ZbG,hle,Wp];rfl
 refine⟨b1,Lib.bitLen_le8 ⟨t.toNat,ht1⟩, ?_⟩
 rw[hs,Nat.pow_add,Nat.pow_mul,show(2:Nat) ^ 8=256 by rfl]
 have h2:256 ^ l.length*(t.toNat+1)<=256 ^ l.length*2 ^ Lib.bitLen t.toNat:=Nat.mul_le_mul_left _ b3
 rw[Nat.mul_add,Nat.mul_one] at h2
 have h3:vle [t]=t.toNat:=by simp[vle]
 rw[h3] at hv
 omega
theorem ZrE (a:Nat):isq a=rtN a:=(Zn9 (Zdb a).1 (Zdb a).2).symm
theorem Zre {a n k:Nat}(h:a<2 ^ n)(hn:n<=2*k):isq a<2 ^ k:=by
 have h1:=(Zb3 a).1
 have h2:2 ^ n<=2 ^ k*2 ^ k:=by
  rw[<-Nat.pow_add]
  exact Nat.pow_le_pow_right (by decide) (by omega)
 rcases Nat.lt_or_ge (isq a) (2 ^ k) with h3|h3
 ·exact h3
 ·have:=Nat.mul_le_mul h3 h3
  omega
end Go.Vt
