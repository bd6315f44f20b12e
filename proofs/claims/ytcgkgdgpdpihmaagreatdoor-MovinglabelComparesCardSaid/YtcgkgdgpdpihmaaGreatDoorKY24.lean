/- For any two moving labels and any label, Is, Same and Less are the lifted comparisons. Conditions: none. (part 24 of 29.) Conditions: those that each statement names. -/
import Derived.Shelf.SortM.Plain
import Derived.Shelf.SortM.SortNone
import Derived.Ground.SlgmProg
import Derived.Test.YtcgkgdgpdpihmaaGreatDoorProg
import Derived.Test.YtcgkgdgpdpihmaaGreatDoorKY10
import Derived.Test.YtcgkgdgpdpihmaaGreatDoorKY15
import Derived.Test.YtcgkgdgpdpihmaaGreatDoorKY16
import Derived.Test.YtcgkgdgpdpihmaaGreatDoorKY19
import Derived.Test.YtcgkgdgpdpihmaaGreatDoorKY20
import Derived.Test.YtcgkgdgpdpihmaaGreatDoorKY21
import Derived.Test.YtcgkgdgpdpihmaaGreatDoorKY22
import Derived.Test.YtcgkgdgpdpihmaaGreatDoorKY23
set_option linter.unusedSimpArgs false
set_option linter.unusedVariables false
set_option maxHeartbeats 2000000
set_option maxRecDepth 100000
set_option linter.unusedSectionVars false
namespace Go.Vt
open Go.RowKit Go.Proofs
open Go.Proofs.Tryz (prog)
section
structure Cut (us:List UL)(t:Rl)(k:Nat):Prop where
 le:k<=us.length
 lo:∀j:Nat,j<k->ri (gi us (j:Int)).In.To<ri t
 hi:∀j:Nat,k<=j->j<us.length->ri t<=ri (gi us (j:Int)).In.To
instance ZwF (u:UL)(t:Zj):SpecC prog 146 [vUL u,vR t] (.int .i64 (cl u.In.To t)) (RlB KR u.In.To/\RlB KR t):=⟨fun hp w=>by
 refine Zb Tryz.func146 rfl Tryz.ntmps146 rfl ?_
 repeat(first|(refine wkB ?_;intros)|(refine wnM ?_ ?_;(focus(exact hp));intros))
 exact rtT rfl rfl⟩
theorem Zh0 (v:Value)(us:List UL)(t:Zj)(k:Nat)(hk:Cut us t k)(w:World)(hv:ArgS w v rU us)(hl:us.length<=1048576)(ht:RlB KR t)(hok:∀u∈us,IvOk BQ u.In):
  Calls prog 145 [v,vR t,vFn 146].toArray w (Ret (.tuple #[.int .i64 (k:Nat), .bool (decide (k<us.length)&&decide (cl (gi us (k:Int)).In.To t=0))]) w):=by
 refine Zb Tryz.func145 rfl Tryz.ntmps145 rfl ?_
 obtain⟨p,cp,rfl⟩:=hv.form
 have hpre:∀j:Nat,j<us.length->RlB KR (gi us (j:Int)).In.To/\RlB KR t:=fun j hj=>by
  have h1:=hok _ (Zs (i:=(j:Int)) (by omega))
  exact⟨h1.b,ht⟩
 repeat(refine wkB ?_;intros)
 rename_i b4
 refine Zm (S:=Nat×Nat) (fun s=>s.1<=k/\k<=s.2/\s.2<=us.length) (fun s=>[(0, .slice p us.length cp),(2,vFn 146),(4, .pointer (some ⟨b4,0,none⟩)),(8, .int .i64 us.length),(9, .int .i64 (s.1:Nat)),(10, .int .i64 (s.2:Nat))]) (fun _=>[⟨b4,Zf (Zg t),35⟩]) (fun s=>s.2-s.1) (0,us.length)
  ⟨Wm _,hk.le,Wl _⟩ sbB slB (fun s hs=>?_)
 obtain⟨lo,hi⟩:=s
 obtain⟨h1,h2,h3⟩:=hs
 simp only at h1 h2 h3⊢
 repeat(refine wkB ?_;intros)
 refine Zk rfl (fun h=>?_) (fun h=>?_)
 ·have hlt:lo<hi:=by have:=Wa h;omega
  have hne:us≠[]:=fun h0=>by rw[h0] at h3;simp at h3;omega
  obtain⟨bw,ow,cw,hvw,hcw,hrow⟩:=hv.blk (k:=20) hne []
  injection hvw with e1 e2 e3
  subst e1
  subst e3
  have hrow':∀L,RowC w L bw ow UL rU us:=fun L=>⟨fun w' hw'=>hrow.out w' (hw'.sub (Wk _))⟩
  repeat(refine wkB ?_;intros)
  refine jq (ZaL rfl rfl (by decide)) rfl rfl ?_
  obtain⟨m,hm⟩:∃m,m=(lo+hi) / 2:=⟨_,rfl⟩
  have em:((lo:Int)+(hi:Int)) / 2 ^ (1:Int).toNat=(m:Int):=by
   rw[show(2:Int) ^ (1:Int).toNat=2 from rfl]
   omega
  simp only[em]
  have hml:lo<=m/\m<hi:=by omega
  have hpm:=hpre m (by omega)
  repeat(refine wkB ?_;intros)
  (refine jD 8 8 (h:=?_);(repeat(first|refine wkH ?_|(refine tC rfl rfl ?_ ?_;focus(exact hpm))));refine Zn ?_;(repeat(refine Z6 ?_;intro _));refine Zp ?_)
  repeat(refine wkB ?_;intros)
  by_cases hc:cl (gi us (m:Int)).In.To t<0
  ·simp only[Wc hc]
   have hmk:m<k:=by
    rcases Nat.lt_or_ge m k with h1|h1
    ·exact h1
    ·have:=hk.hi m h1 (by omega)
     have:=Zaa.1 hc
     grind
   repeat(first|(refine wkB ?_;intros)|(refine wnM ?_ ?_;(focus(exact⟨by omega,by omega⟩));intros))
   exact Zc (m+1,hi) ⟨hmk,h2,h3⟩ sbB slB (by show hi-(m+1)<hi-lo;omega)
  ·simp only[We hc]
   have hmk:k<=m:=by
    rcases Nat.lt_or_ge m k with h1|h1
    ·exact absurd (Zaa.2 (hk.lo m h1)) hc
    ·exact h1
   repeat(refine wkB ?_;intros)
   exact Zc (lo,m) ⟨h1,hmk,by show m<=us.length;omega⟩ sbB slB (by show m-lo<hi-lo;omega)
 ·have hge:lo=k/\hi=k:=by have:=Wb h;omega
  obtain⟨rfl,rfl⟩:=hge
  repeat(refine wkB ?_;intros)
  by_cases hlt:hi<us.length
  ·have hne:us≠[]:=fun h0=>by rw[h0] at hlt;simp at hlt
   obtain⟨bw,ow,cw,hvw,hcw,hrow⟩:=hv.blk (k:=20) hne []
   injection hvw with e1 e2 e3
   subst e1
   subst e3
   have hrow':∀L,RowC w L bw ow UL rU us:=fun L=>⟨fun w' hw'=>hrow.out w' (hw'.sub (Wk _))⟩
   have hpm:=hpre hi hlt
   (refine Zax [0,1,2,3,4,5,6,7,8,9,10,11,12,13] [14,15] (_) (h:=?_);refine wkI ?_)
   (repeat(refine wkH ?_))
   simp only[Wc (show(hi:Int)<(us.length:Int) by omega)]
   (repeat(first|refine wkH ?_|(refine tC rfl rfl ?_ ?_;focus(exact hpm))))
   repeat(refine wkT ?_;intros)
   repeat(refine wkB ?_;intros)
   rw[Wc hlt,Bool.true_and]
   exact ZF rfl (Zw rfl) (Zw rfl) (fun w hw=>ZP hw)
  ·(refine Zax [0,1,2,3,4,5,6,7,8,9,10,11,12,13] [14,15] (_) (h:=?_);refine wkI ?_)
   (repeat(refine wkH ?_))
   simp only[We (show¬(hi:Int)<(us.length:Int) by omega)]
   (repeat(refine wkH ?_))
   repeat(refine wkT ?_;intros)
   repeat(refine wkB ?_;intros)
   rw[We hlt,Bool.false_and]
   exact ZF rfl (Zw rfl) (Zw rfl) (fun w hw=>ZP hw)
end
section
class CtC (us:List UL)(t:Rl)(k:outParam Nat):Prop where
 out:Cut us t k
instance Zu3 (w0:World)(L:List Blk)(v:Value)(us:List UL)(t:Zj)(k:Nat)[h:LstC w0 L v UL rU us][hk:CtC us t k]:SpecM prog w0 L 145 [v,vR t,vFn 146] (.tuple #[.int .i64 (k:Nat), .bool (decide (k<us.length)&&decide (cl (gi us (k:Int)).In.To t=0))]) (us.length<=1048576/\RlB KR t/\∀u∈us,IvOk BQ u.In):=⟨fun hp w hw=>Zh0 v us t k hk.out w (h.out w hw) hp.1 hp.2.1 hp.2.2⟩
structure AtR (us:List UL)(t:Ri)(r:Option Int):Prop where
 out:(∃k:Nat,k<us.length/\(absU (gi us (k:Int))).mem t/\(∀j:Nat,j<k->¬(absU (gi us (j:Int))).mem t)/\(∀j:Nat,j<=k->ri (gi us (j:Int)).In.From<=t)/\r=some (gi us (k:Int)).F)\/((∀j:Nat,j<us.length->¬(absU (gi us (j:Int))).mem t)/\r=none)
theorem AtR.hit {us:List UL}{t:Ri}{r:Option Int}(h:AtR us t r){i:Nat}(hi:i<us.length)(hm:(absU (gi us (i:Int))).mem t)(hn:∀j:Nat,j<i->¬(absU (gi us (j:Int))).mem t):r=some (gi us (i:Int)).F:=by
 rcases h.out with⟨k,h1,h2,h3, -,h5⟩|⟨h1, -⟩
 ·rcases Nat.lt_trichotomy i k with h6|h6|h6
  ·exact absurd hm (h3 i h6)
  ·subst h6;exact h5
  ·exact absurd h2 (hn k h6)
 ·exact absurd hm (h1 i hi)
theorem AtR.miss {us:List UL}{t:Ri}{r:Option Int}(h:AtR us t r){i:Nat}(hi:us.length<=i\/t<ri (gi us (i:Int)).In.From)(hn:∀j:Nat,j<i->¬(absU (gi us (j:Int))).mem t):r=none:=by
 rcases h.out with⟨k,h1,h2,h3,h4,h5⟩|⟨-,h2⟩
 ·have hik:i<=k:=by
   rcases Nat.lt_or_ge k i with h6|h6
   ·exact absurd h2 (hn k h6)
   ·exact h6
  rcases hi with h6|h6
  ·omega
  ·have:=h4 i hik
   grind
 ·exact h2
class AtC' (us:List UL)(t:Ri)(r:outParam (Option Int)):Prop where
 out:AtR us t r
noncomputable def tst (u:UL)(t:Zj):Bool:=(decide (cl u.In.From t<0)|| !u.In.OpenFrom)&&(!decide (u.In.To=t)|| !u.In.OpenTo)
theorem ZqU {u:UL}{t:Zj}{K:Nat}(hu:IvOk K u.In)(ht:(rvR t).ok)(h1:ri u.In.From<=ri t)(h2:ri t<=ri u.In.To):tst u t=true↔(absU u).mem (ri t):=by
 have e:=Zcv hu.b.o ht
 unfold tst GU.mem absU
 simp only[Wq,Bool.or_eq_true,decide_eq_true_eq,Bool.not_eq_true',decide_eq_false_iff_not,<-e,Zaa]
 grind
theorem ZoK (v:Value)(us:List UL)(t:Zj)(c:Nat)(r:Option Int)(hk:Cut us t c)(hr:AtR us (ri t) r)(w:World)(hv:ArgS w v rU us)(hl:us.length<=1048576)(ht:RlB KR t)(hok:∀u∈us,IvOk BQ u.In):
  Calls prog 104 [v,vR t].toArray w (Ret (.tuple #[.int .i64 (r.getD 0), .bool r.isSome]) w):=by
 have:=ArgC.mk hv
 have:=CtC.mk hk
 have hcl:=hk.le
 refine Zb Tryz.func104 rfl Tryz.ntmps104 rfl ?_
 obtain⟨p,cp,rfl⟩:=hv.form
 repeat(first|(refine wkB ?_;intros)|(refine wnM ?_ ?_;(focus(exact⟨hl,ht,hok⟩));intros))
 rename_i b3
 refine Zm (S:=Nat) (fun i=>(c<=i/\i<=us.length)/\∀j:Nat,j<i->¬(absU (gi us (j:Int))).mem (ri t)) (fun i=>[(0, .slice p us.length cp),(3, .pointer (some ⟨b3,0,none⟩)),(4, .int .i64 0),(5, .bool false),(6, .int .i64 (i:Nat))]) (fun _=>[⟨b3,Zf (Zg t),35⟩]) (fun i=>us.length-i) c
  ⟨⟨Wl _,hcl⟩,fun j hj hm=>?_⟩ sbB slB (fun i hi=>?_)
 ·have h1:=hk.lo j hj
  unfold GU.mem absU at hm
  grind
 obtain⟨⟨hci,hil⟩,hno⟩:=hi
 repeat(refine wkB ?_;intros)
 refine Zk rfl (fun h=>?_) (fun h=>?_)
 ·have hlt:i<us.length:=by have:=Wa h;omega
  obtain⟨bw,ow,rfl,hrow'⟩:=hv.opn (k:=20) hlt
  have ho:=hok _ (Zs (i:=(i:Int)) (xs:=us) (by omega))
  have hto:=hk.hi i hci hlt
  repeat(refine wkB ?_;intros)
  (refine Zax [0,1,2,3,4,5,6,7] [8] (_) (h:=?_);refine wkI ?_)
  (repeat(first|refine wkH ?_|(refine tC rfl rfl ?_ ?_;focus(exact⟨ho.a,ht⟩))))
  repeat(refine wkT ?_;intros)
  repeat(refine wkB ?_;intros)
  by_cases hgt:ri t<ri (gi us (i:Int)).In.From
  ·have hrn:=hr.miss (.inr hgt) hno
   subst hrn
   simp only[Wc (Zfe.2 hgt)]
   repeat(refine wkB ?_;intros)
   exact ZF rfl (Zw rfl) (Zw rfl) (fun w hw=>ZP hw)
  ·have hle:ri (gi us (i:Int)).In.From<=ri t:=by grind
   have hti:=ZqU ho ht.o hle hto
   simp only[We (fun h=>hgt (Zfe.1 h))]
   repeat(refine wkB ?_;intros)
   refine Z1 (S:=Bool) (fun v=>v=tst (gi us (i:Int)) t) (fun v=>[(61, .bool v),(0, .slice (some ⟨bw,ow,none⟩) us.length cp),(3, .pointer (some ⟨b3,0,none⟩)),(4, .int .i64 0),(5, .bool false),(6, .int .i64 (i:Nat))]) (fun _=>[⟨b3,Zf (Zg t),35⟩]) ?_ (fun v hv3=>?_)
   ·refine jD 30 30 (h:=?_)
    (repeat(refine wkH ?_))
    unfold tst
    rcases hd1:decide (cl (gi us (i:Int)).In.From t<0) with _|_
    ·(repeat(refine wkH ?_))
     rcases hd2:(gi us (i:Int)).In.OpenFrom with _|_
     ·(repeat(refine wkH ?_))
      rcases hd3:decide ((gi us (i:Int)).In.To=t) with _|_
      ·(repeat(refine wkH ?_))
       refine Zn ?_
       refine Zp ?_
       repeat(refine wkB ?_;intros)
       exact Zh true rfl sbB slB
      ·(repeat(refine wkH ?_))
       refine Zn ?_
       refine Zp ?_
       repeat(refine wkB ?_;intros)
       exact Zh (!(gi us (i:Int)).In.OpenTo) (by simp) sbB slB
     ·(repeat(refine wkH ?_))
      refine Zn ?_
      refine Zp ?_
      repeat(refine wkB ?_;intros)
      exact Zh false (by simp) sbB slB
    ·(repeat(refine wkH ?_))
     rcases hd3:decide ((gi us (i:Int)).In.To=t) with _|_
     ·(repeat(refine wkH ?_))
      refine Zn ?_
      refine Zp ?_
      repeat(refine wkB ?_;intros)
      exact Zh true rfl sbB slB
     ·(repeat(refine wkH ?_))
      refine Zn ?_
      refine Zp ?_
      repeat(refine wkB ?_;intros)
      exact Zh (!(gi us (i:Int)).In.OpenTo) (by simp) sbB slB
   subst hv3
   rcases htt:tst (gi us (i:Int)) t with _|_
   ·repeat(first|(refine wkB ?_;intros)|(refine wnM ?_ ?_;(focus(exact⟨by omega,by omega⟩));intros))
    refine Zc (i+1) ⟨⟨by omega,hlt⟩,fun j hj hm=>?_⟩ sbB slB (by omega)
    rcases(by omega:j<i\/j=i) with h1|h1
    ·exact hno j h1 hm
    ·subst h1
     rw[hti.2 hm] at htt
     cases htt
   ·have hrs:=hr.hit hlt (hti.1 htt) hno
    subst hrs
    repeat(refine wkB ?_;intros)
    exact ZF rfl (Zw rfl) (Zw rfl) (fun w hw=>ZP hw)
 ·have hge:us.length<=i:=by have:=Wb h;omega
  have hrn:=hr.miss (.inl hge) hno
  subst hrn
  repeat(refine wkB ?_;intros)
  exact ZF rfl (Zw rfl) (Zw rfl) (fun w hw=>ZP hw)
instance ZBu (w0:World)(L:List Blk)(v:Value)(us:List UL)(t:Zj)(c:Nat)(r:Option Int)[h:LstC w0 L v UL rU us][hk:CtC us t c][hr:AtC' us (ri t) r]:SpecM prog w0 L 104 [v,vR t] (.tuple #[.int .i64 (r.getD 0), .bool r.isSome]) (us.length<=1048576/\RlB KR t/\∀u∈us,IvOk BQ u.In):=⟨fun hp w hw=>ZoK v us t c r hk.out hr.out w (h.out w hw) hp.1 hp.2.1 hp.2.2⟩
end
section
instance Zte (w0:World)(L L1:List Blk)(xs:List Int)(s:SlS (eI .i64) 1 xs)[hd:OwnS 3 s L L1]:SpecX prog w0 L 85 [vSl s] (SlS (eI .i64) 1 (cmI' xs)) (fun s=>vSl s) (fun s=>mS 3 s++L1) (xs.length<=1048576):=⟨fun hp w hw=>ZgW w0 w L L1 xs s hp hw⟩
def lbL (us:List PU):List Int:=mpN (fun u:PU=>u.Label) us us.length
set_option maxHeartbeats 8000000 in
theorem ZiT (v:Value)(us:List PU)(w:World)(hv:ArgS w v rP us)(hl:us.length<=1048576):
  Calls prog 32 [v].toArray w (RetM (SlS (eI .i64) 1 (cmI' (lbL us))) (fun s=>vSl s) (fun s=>mS 3 s) w):=by
 obtain⟨p,cp,rfl⟩:=hv.form
 refine Zb Tryz.func32 rfl Tryz.ntmps32 rfl ?_
 repeat(refine wkB ?_;intros)
 refine Z4 (S:=SlS (eI .i64) 1 (lbL us)) (fun _=>True) (fun s=>[(3,vSl s)]) (fun s=>mS 3 s) ?_ (fun s _=>?_)
 ·refine Zm (S:=(_:Nat)×(o:List Int)×SlS (eI .i64) 1 o) (fun q=>q.1<=us.length/\q.2.1=mpN (fun u:PU=>u.Label) us q.1) (fun q=>[(3,vSl q.2.2),(6, .slice p us.length cp),(7, .int .i64 (us.length:Nat)),(8, .int .i64 (q.1:Nat))]) (fun q=>mS 3 q.2.2) (fun q=>us.length-q.1) ⟨0,[],SlS.no⟩ ⟨Wm _,rfl⟩ sbB suB (fun q hq=>?_)
  obtain⟨m,out,s⟩:=q
  obtain⟨hq,ho⟩:=hq
  dsimp only at hq ho⊢
  have hlen:out.length=m:=by rw[ho];exact ZK _ us m
  have hend:m=us.length->out=lbL us:=fun h=>by rw[ho,h];rfl
  have hnxt:out++[(gi us (m:Int)).Label]=mpN (fun u:PU=>u.Label) us (m+1):=by rw[ho];rfl
  clear ho
  repeat(refine wkB ?_;intros)
  refine Zk rfl (fun h=>?_) (fun h=>?_)
  ·have hlt:m<us.length:=by have:=Wa h;omega
   obtain⟨bw,ow,rfl,hrow'⟩:=hv.opn (k:=20) hlt
   repeat(refine wkB ?_;intros)
   refine sU (k:=1) (enc:=eI .i64) (s:=s) rfl rfl ?_ ?_ ?_ ?_
   ·rfl
   ·rfl
   ·exact⟨by decide,by omega,by omega⟩
   intro s'
   repeat(first|(refine wkB ?_;intros)|(refine wnM ?_ ?_;(focus(exact⟨by omega,by omega⟩));intros))
   exact Zc ⟨m+1,_,s'⟩ ⟨hlt,hnxt⟩ sbB suB (by show us.length-(m+1)<us.length-m;omega)
  ·have hge:m=us.length:=by have:=Wb h;omega
   obtain⟨s',f1,f2⟩:=SlS.turn 3 (hend hge) s
   repeat(refine wkB ?_;intros)
   exact Zh s' trivial (by rw[f1];exact sbB) (by rw[f2];exact suB)
 have hl':(lbL us).length<=1048576:=by unfold lbL;rw[ZK];exact hl
 repeat(first|(refine wkB ?_;intros)|(refine wnM ?_ ?_;(focus(exact hl'));intros))
 refine sZ rfl rfl hl' (fun r=>?_)
 repeat(refine wkB ?_;intros)
 exact Zo rfl rfl (fun w hw=>⟨r,rfl,hw.sub suB⟩)
instance ZvX (w0:World)(L:List Blk)(v:Value)(us:List PU)[h:LstC w0 L v PU rP us]:SpecR prog w0 L 32 [v] (SlS (eI .i64) 1 (cmI' (lbL us))) (fun s=>vSl s) (fun s=>mS 3 s) (us.length<=1048576):=⟨fun hp w hw=>ZiT v us w (h.out w hw) hp⟩
def whL (us:List PU)(x:Int):Nat->List Za
 |0=>[]
 |m+1=>if(gi us (m:Int)).Label=x then whL us x m++[(gi us (m:Int)).In] else whL us x m
theorem ZbE (us:List PU)(x:Int):∀m,(whL us x m).length<=m
 |0=>Wl _
 |m+1=>by
  have:=ZbE us x m
  rw[whL]
  split
  ·simp;exact this
  ·omega
set_option maxHeartbeats 8000000 in
theorem Znv (v:Value)(us:List PU)(x:Int)(w:World)(hv:ArgS w v rP us)(hl:us.length<=1048576)(hsw:SwOk (whL us x us.length) []):
  Calls prog 59 [v, .int .i64 x].toArray w (RetM (SlS rI 20 (swpR kpU (whL us x us.length) [])) (fun s=>vSl s) (fun s=>mS 37 s) w):=by
 obtain⟨p,cp,rfl⟩:=hv.form
 refine Zb Tryz.func59 rfl Tryz.ntmps59 rfl ?_
 repeat(refine wkB ?_;intros)
 refine Z4 (S:=SlS rI 20 (whL us x us.length)) (fun _=>True) (fun s=>[(5,vSl s)]) (fun s=>mS 37 s) ?_ (fun s _=>?_)
 ·refine Zm (S:=(_:Nat)×(o:List Za)×SlS rI 20 o) (fun q=>q.1<=us.length/\q.2.1=whL us x q.1) (fun q=>[(1, .int .i64 x),(5,vSl q.2.2),(8, .slice p us.length cp),(9, .int .i64 (us.length:Nat)),(10, .int .i64 (q.1:Nat))]) (fun q=>mS 37 q.2.2) (fun q=>us.length-q.1) ⟨0,[],SlS.no⟩ ⟨Wm _,rfl⟩ sbB suB (fun q hq=>?_)
  obtain⟨m,out,s⟩:=q
  obtain⟨hq,ho⟩:=hq
  dsimp only at hq ho⊢
  have hlen:out.length<=m:=by rw[ho];exact ZbE us x m
  have hend:m=us.length->out=whL us x us.length:=fun h=>by rw[ho,h]
  have hnxt:(if(gi us (m:Int)).Label=x then out++[(gi us (m:Int)).In] else out)=whL us x (m+1):=by rw[ho];rfl
  clear ho
  repeat(refine wkB ?_;intros)
  refine Zk rfl (fun h=>?_) (fun h=>?_)
  ·have hlt:m<us.length:=by have:=Wa h;omega
   obtain⟨bw,ow,rfl,hrow'⟩:=hv.opn (k:=20) hlt
   repeat(refine wkB ?_;intros)
   by_cases c:(gi us (m:Int)).Label=x
   ·simp only[Wc c]
    rw[if_pos c] at hnxt
    repeat(refine wkB ?_;intros)
    refine sU (k:=20) (enc:=rI) (s:=s) rfl rfl ?_ ?_ ?_ ?_
    ·rfl
    ·rfl
    ·exact⟨by decide,by omega,by omega⟩
    intro s'
    repeat(first|(refine wkB ?_;intros)|(refine wnM ?_ ?_;(focus(exact⟨by omega,by omega⟩));intros))
    exact Zc ⟨m+1,_,s'⟩ ⟨hlt,hnxt⟩ sbB suB (by show us.length-(m+1)<us.length-m;omega)
   ·simp only[We c]
    rw[if_neg c] at hnxt
    repeat(first|(refine wkB ?_;intros)|(refine wnM ?_ ?_;(focus(exact⟨by omega,by omega⟩));intros))
    exact Zc ⟨m+1,_,s⟩ ⟨hlt,hnxt⟩ sbB suB (by show us.length-(m+1)<us.length-m;omega)
  ·have hge:m=us.length:=by have:=Wb h;omega
   obtain⟨s',f1,f2⟩:=SlS.turn 37 (hend hge) s
   repeat(refine wkB ?_;intros)
   exact Zh s' trivial (by rw[f1];exact sbB) (by rw[f2];exact suB)
 repeat(first|(refine wkB ?_;intros)|(refine wnM ?_ ?_;(focus(exact hsw));intros))
 rename_i r
 exact Zo rfl rfl (fun w hw=>⟨r,rfl,hw.sub suB⟩)
instance ZAl (w0:World)(L:List Blk)(v:Value)(us:List PU)(x:Int)[h:LstC w0 L v PU rP us]:SpecR prog w0 L 59 [v, .int .i64 x] (SlS rI 20 (swpR kpU (whL us x us.length) [])) (fun s=>vSl s) (fun s=>mS 37 s) (us.length<=1048576/\SwOk (whL us x us.length) []):=⟨fun hp w hw=>Znv v us x w (h.out w hw) hp.1 hp.2⟩
theorem Zob (v:Value)(us:List PU)(t:Zj)(c:Nat)(r:Option Int)(w:World)(hv:ArgS w v rP us)(hc:Cut (mpN toU us us.length) t c)(hr:AtR (mpN toU us us.length) (ri t) r)(hl:us.length<=1048576)(ht:RlB KR t)(hu:∀u∈mpN toU us us.length,IvOk BQ u.In):
  Calls prog 57 [v,vR t].toArray w (Ret (.tuple #[.int .i64 (r.getD 0), .bool r.isSome]) w):=by
 have:=ArgC.mk hv
 have hml:=ZK toU us us.length
 have i1:CtC (mpN toU us us.length) t c:=⟨hc⟩
 have i2:AtC' (mpN toU us us.length) (ri t) r:=⟨hr⟩
 have p2:(mpN toU us us.length).length<=1048576/\RlB KR t/\∀u∈mpN toU us us.length,IvOk BQ u.In:=⟨by omega,ht,hu⟩
 refine Zb Tryz.func57 rfl Tryz.ntmps57 rfl ?_
 repeat(refine wkB ?_;intros)
 rename_i b3
 (refine ZB (.v [0,2] (.e1 1 (.e1 3 (.v [4,5] (.e1 6 (.e1 7 (.fin))))))) ([⟨b3,Zf (Zg t),35⟩]) (h:=?_);refine wkX ?_)
 (repeat(refine wkH ?_))
 repeat(first|(refine wkT ?_;intros)|(refine tC rfl rfl ?_ ?_;focus(first|exact hl|exact p2))|(refine uC rfl rfl ?_ ?_;focus(first|exact hl|exact p2))|(refine eN rfl rfl ?_ ?_;(focus(first|exact hl|exact p2));intro _;(try simp only[Wf,Wg,Wh])))
 repeat(refine wkB ?_;intros)
 exact ZF rfl (Zw rfl) (Zw rfl) (fun w hw=>ZP hw)
instance ZCC (w0:World)(L:List Blk)(v:Value)(us:List PU)(t:Zj)(c:Nat)(r:Option Int)[h:LstC w0 L v PU rP us][hk:CtC (mpN toU us us.length) t c][hr:AtC' (mpN toU us us.length) (ri t) r]:SpecM prog w0 L 57 [v,vR t] (.tuple #[.int .i64 (r.getD 0), .bool r.isSome]) (us.length<=1048576/\RlB KR t/\∀u∈mpN toU us us.length,IvOk BQ u.In):=⟨fun hp w hw=>Zob v us t c r w (h.out w hw) hk.out hr.out hp.1 hp.2.1 hp.2.2⟩
end
end Go.Vt
namespace Go.Vt
open Fv (va red)
section
variable {T F V : Type} [LE T] [LT T] [Std.LawfulOrderLT T] [Std.IsLinearOrder T] [Dns T] [Fv F T V]
def jnBG (a u:GU T F):Prop:=a.f=u.f/\a.b=u.a/\¬(a.ob=true/\u.oa=true)
def jnPG (a u:GU T F):GU T F:=⟨a.a,u.b,a.oa,u.ob,a.f⟩
structure JnI (done out:List (GU T F)):Prop where
 nf:NF out
 has:∀t v,Has out t v↔Has done t v
 lst:∀ys a,out=ys++[a]->∃ds d,done=ds++[d]/\a.b=d.b/\a.ob=d.ob
theorem JnI.nil :JnI ([]:List (GU T F)) []:=⟨NF.nil,fun _ _=>Iff.rfl,fun ys a h=>by simp at h⟩
theorem ZoO {a u:GU T F}(ha:a.ok)(hu:u.ok)(h:jnBG a u)(t:T):(jnPG a u).mem t↔a.mem t\/u.mem t:=by
 obtain⟨h1,h2,h3⟩:=h
 unfold GU.mem GU.ok jnPG at*
 dsimp only
 grind
variable (hva : ∀ (f g : F) (t : T), va f t = va g t ↔ f = g) (hrd : ∀ (f : F) (t : T), red f t = f)
include hva hrd
theorem Zlt {a u:GU T F}(ha:a.ok)(hb:a.bfr u)(h:¬jnBG a u):Adj a u:=by
 refine⟨hb,fun e o _ f=>h ⟨f,e,by simp[o]⟩,fun e o f=>h ⟨(hva _ _ _).1 f,e,by simp[o]⟩,fun e i f=>h ⟨(hva _ _ _).1 f,e, ?_⟩⟩
 unfold GU.ok at ha
 grind
theorem JnI.bf {done out ys:List (GU T F)}{a u:GU T F}(h:JnI done out)(hb:∀w∈done,w.bfr u)(e:out=ys++[a]):a.bfr u:=by
 obtain⟨ds,d,e1,e2,e3⟩:=h.lst ys a e
 have:=hb d (by rw[e1];simp)
 unfold GU.bfr at*
 rw[e2,e3]
 exact this
theorem JnI.app {done out:List (GU T F)}{u:GU T F}(h:JnI done out)(hu:u.ok)(hb:∀w∈done,w.bfr u)(hn:∀ys a,out=ys++[a]->¬jnBG a u):JnI (done++[u]) (out++[u]):=by
 refine⟨h.nf.app hu (fun _=>(hrd _ _).symm) fun ys a e=>Zlt hva hrd (h.nf.ok a (by rw[e];simp)) (h.bf hva hrd hb e) (hn ys a e),fun t v=>?_,fun ys a e=>?_⟩
 ·rw[ZcJ,ZcJ,h.has]
 ·obtain⟨e1,e2⟩:=Zbf e
  exact⟨done,u,rfl,by rw[e2],by rw[e2]⟩
theorem JnI.mrg {done out ys:List (GU T F)}{a u:GU T F}(h:JnI done out)(hu:u.ok)(hb:∀w∈done,w.bfr u)(e:out=ys++[a])(hj:jnBG a u):JnI (done++[u]) (ys++[jnPG a u]):=by
 have hao:=h.nf.ok a (by rw[e];simp)
 have hbf:=h.bf hva hrd hb e
 have hnf:=h.nf
 rw[e] at hnf
 refine⟨hnf.last (u:=a) rfl rfl rfl ?_,fun t v=>?_,fun ys' a' e'=>?_⟩
 ·obtain⟨h1,h2,h3⟩:=hj
  unfold GU.ok GU.bfr jnPG at*
  dsimp only
  grind
 ·rw[Zbc,ZoO hao hu hj,ZcJ,<-h.has,e,Zbc,ZcE]
  have e1:va (jnPG a u).f t=va a.f t:=rfl
  have e2:va u.f t=va a.f t:=by rw[hj.1]
  rw[e1,e2]
  constructor
  ·rintro(h|⟨h|h,k⟩)
   ·exact .inl (.inl h)
   ·exact .inl (.inr ⟨h,k⟩)
   ·exact .inr ⟨h,k⟩
  ·rintro((h|⟨h,k⟩)|⟨h,k⟩)
   ·exact .inl h
   ·exact .inr ⟨.inl h,k⟩
   ·exact .inr ⟨.inr h,k⟩
 ·obtain⟨e1,e2⟩:=Zbf e'
  exact⟨done,u,rfl,by rw[<-e2];rfl,by rw[<-e2];rfl⟩
end
end Go.Vt
namespace Go.Vt
open Go.RowKit Go.Proofs
open Go.Proofs.Tryz (prog)
noncomputable def absQ (u:PU):GU Ri Int:=⟨ri u.In.From,ri u.In.To,u.In.OpenFrom,u.In.OpenTo,u.Label⟩
theorem hvaL (f g:Int)(t:Ri):Fv.va f t=Fv.va g t↔f=g:=Iff.rfl
theorem hrdL (f:Int)(t:Ri):Fv.red f t=f:=rfl
def bfI (i j:Za):Prop:=ri i.To<ri j.From\/(ri i.To=ri j.From/\(i.OpenTo=true\/j.OpenFrom=true))
theorem Zkh {u w:PU}:(absQ u).bfr (absQ w)↔bfI u.In w.In:=Iff.rfl
theorem ZjG {a u:PU}{K K':Nat}(ha:IvOk K a.In)(hu:IvOk K' u.In):jnB a u=true↔jnBG (absQ a) (absQ u):=by
 have e:=Zcv ha.b.o hu.a.o
 unfold jnB jnBG absQ
 dsimp only
 rw[Wq,Wq,decide_eq_true_eq,decide_eq_true_eq,e,Bool.not_eq_true',<-Bool.not_eq_true,Wq]
theorem Zmh (ys:List PU)(a:PU):lstP (ys++[a])=a:=by
 unfold lstP
 rw[Zbe (by simp only[Wp,List.length_singleton];omega)]
 simp only[Wp,List.length_singleton]
 rw[List.getElem_append_right (by omega)]
 simp
theorem ZlS (ys:List PU)(a x:PU):(ys++[a]).set (((ys++[a]).length:Int)-1).toNat x=ys++[x]:=by
 simp
theorem Zlj {l:List PU}{K:Nat}(hk:∀u∈l,IvOk K u.In)(hv:∀u∈l,okI u.In)(hp:l.Pairwise (fun u w=>bfI u.In w.In)):∀i,i<=l.length->JnI ((l.take i).map absQ) ((jnL l i).map absQ)/\∀u∈jnL l i,IvOk K u.In
 |0,_=>⟨JnI.nil,(fun u hu=>by cases hu)⟩
 |i+1,hi=>by
  obtain⟨ih,ihk⟩:=Zlj hk hv hp i (by omega)
  have hg:=Zr (xs:=l) (i:=i) (by omega)
  have hm:gi l (i:Int)∈l:=Zs (by omega)
  have huk:=hk _ hm
  have huo:(absQ (gi l (i:Int))).ok:=hv _ hm
  have hb:∀w∈(l.take i).map absQ,w.bfr (absQ (gi l (i:Int))):=fun w hw=>by
   obtain⟨x,hx,rfl⟩:=List.mem_map.1 hw
   obtain⟨j,hj,rfl⟩:=List.mem_take_iff_getElem.1 hx
   rw[hg]
   exact List.pairwise_iff_getElem.1 hp j i (by omega) (by omega) (by omega)
  rw[Wn (by omega),List.map_append,jnL,<-hg]
  generalize gi l (i:Int)=u at*
  generalize jnL l i=out at*
  rcases ZaS out with rfl|⟨ys,a,rfl⟩
  ·have e:jn1 [] u=[u]:=by unfold jn1;rw[if_neg (fun h=>by simp at h)];rfl
   rw[e]
   exact⟨ih.app hvaL hrdL huo hb (fun ys a h=>by simp at h),fun x hx=>by rw[Wo] at hx;rw[hx];exact huk⟩
  ·have hka:=ihk a (by simp)
   unfold jn1
   rw[Zmh]
   by_cases c:jnB a u=true
   ·rw[if_pos ⟨by simp,c⟩,ZlS,List.map_append]
    refine⟨ih.mrg hvaL hrdL huo hb (ys:=ys.map absQ) (a:=absQ a) (by simp) ((ZjG hka huk).1 c),fun x hx=>?_⟩
    rcases List.mem_append.1 hx with h1|h1
    ·exact ihk x (List.mem_append_left _ h1)
    ·rw[Wo] at h1
     rw[h1]
     exact⟨hka.a,huk.b⟩
   ·rw[if_neg (fun h=>c h.2),List.map_append]
    refine⟨ih.app hvaL hrdL huo hb (fun zs b h=>?_),fun x hx=>?_⟩
    ·rw[List.map_append] at h
     obtain⟨_,h2⟩:=Zbf h
     rw[<-h2]
     exact fun k=>c ((ZjG hka huk).2 k)
    ·rcases List.mem_append.1 hx with h1|h1
     ·exact ihk x h1
     ·rw[Wo] at h1;rw[h1];exact huk
structure CelB (p:List Za)(c:List Rl)(k:Nat):Prop where
 pw:(celS p c k).Pairwise bfI
 ok:∀i∈celS p c k,okI i
 up:k<c.length->∀i∈celS p c k,ri i.To<ri (gi c (k:Int))\/(ri i.To=ri (gi c (k:Int))/\i.OpenTo=true)
theorem ZfJ {p:List Za}{n:Nat}{c:List Rl}(h:SrR n c):∀k,k<=c.length->CelB p c k
 |0,_=>⟨.nil,(fun i hi=>by cases hi),fun _ i hi=>by cases hi⟩
 |k+1,hk=>by
  have ih:=ZfJ (p:=p) h k (by omega)
  have hup:=ih.up (by omega)
  have hI:(celI p c k (celS p c k)).Pairwise bfI/\(∀i∈celI p c k (celS p c k),okI i)/\∀i∈celI p c k (celS p c k),ri i.To<=ri (gi c (k:Int)):=by
   unfold celI
   split
   ·refine⟨List.pairwise_append.2 ⟨ih.pw,List.pairwise_singleton _ _,fun i hi j hj=>?_⟩,fun i hi=>?_,fun i hi=>?_⟩
    ·rw[List.mem_singleton.1 hj]
     rcases hup i hi with h1|⟨h1,h2⟩
     ·exact .inl h1
     ·exact .inr ⟨h1, .inl h2⟩
    ·rcases List.mem_append.1 hi with h1|h1
     ·exact ih.ok i h1
     ·rw[List.mem_singleton.1 h1];exact .inr ⟨rfl,rfl,rfl⟩
    ·rcases List.mem_append.1 hi with h1|h1
     ·rcases hup i h1 with h2|h2 <;> grind
     ·rw[List.mem_singleton.1 h1];show ri (gi c (k:Int))<=ri (gi c (k:Int));grind
   ·exact⟨ih.pw,ih.ok,fun i hi=>by rcases hup i hi with h2|h2 <;> grind⟩
  obtain⟨h1,h2,h3⟩:=hI
  have e:celS p c (k+1)=celJ p c k (celI p c k (celS p c k)):=rfl
  have hlt:k+1<c.length->ri (gi c (k:Int))<ri (gi c ((k+1:Nat):Int)):=fun h4=>h.at (Nat.lt_succ_self k) h4
  refine⟨?_, ?_,fun h4=>?_⟩ <;> rw[e] <;> unfold celJ
  ·split
   ·rename_i hc
    refine List.pairwise_append.2 ⟨h1,List.pairwise_singleton _ _,fun i hi j hj=>?_⟩
    rw[List.mem_singleton.1 hj]
    have:=h3 i hi
    show ri i.To<ri (gi c (k:Int))\/(ri i.To=ri (gi c (k:Int))/\(i.OpenTo=true\/true=true))
    grind
   ·exact h1
  ·split
   ·rename_i hc
    intro i hi
    rcases List.mem_append.1 hi with h5|h5
    ·exact h2 i h5
    ·rw[List.mem_singleton.1 h5];exact .inl (hlt hc.1)
   ·exact h2
  ·have h6:=hlt h4
   split
   ·intro i hi
    rcases List.mem_append.1 hi with h5|h5
    ·have:=h3 i h5;exact .inl (by grind)
    ·rw[List.mem_singleton.1 h5];exact .inr ⟨rfl,rfl⟩
   ·intro i hi
    have:=h3 i hi
    exact .inl (by grind)
theorem ZkA {l:List St}{ins cs:List Za}:∀i,i<=cs.length->((mvS l ins cs i).map (·.In)).Sublist (cs.take i)
 |0,_=>Wk _
 |i+1,hi=>by
  have ih:=ZkA (l:=l) (ins:=ins) i (by omega:i<=cs.length)
  rw[mvS,Wn (by omega),<-Zr (by omega)]
  unfold mv1
  split
  ·rw[List.map_append]
   exact ih.append (Wj _)
  ·exact ih.trans (List.sublist_append_left _ _)
theorem Zqg {l:List St}(hk:∀x∈l,StOk x):(celV l).Pairwise bfI/\∀i∈celV l,okI i:=by
 have hil:=ZeY l
 have hio:=ZcF hk
 have hno:=Zjp hk
 have p3:CelIn (nrmS (insV l)) (enR (insV l)):=by
  have h1:=ZbO (insV l)
  have h2:=ZbS (insV l)
  exact⟨by omega,by omega,fun i hi=>(hno i hi).mono (by decide),(Zb1 (fun i hi=>(hio i hi).mono (by decide))).b⟩
 have:=ZfJ (p:=nrmS (insV l)) (ZfK p3) _ (Wl _)
 exact⟨this.pw,this.ok⟩
theorem Zf3 {l:List St}:∀u∈movU l,u.In∈celV l:=fun u hu=>ZdX _ (Wl _) u hu
structure NfP (l:List PU):Prop where
 nf:NF (l.map absQ)
 k:∀u∈l,IvOk 3 u.In
 len:l.length<=160
theorem Zql {l:List St}(hk:∀x∈l,StOk x):JnI ((movU l).map absQ) ((movV l).map absQ):=by
 have hc:=Zqg hk
 have hs:=ZkA (l:=l) (ins:=insV l) (cs:=celV l) _ (Wl _)
 rw[List.take_length] at hs
 have hpw:(movU l).Pairwise (fun u w=>bfI u.In w.In):=List.pairwise_map.1 (hc.1.sublist hs)
 have:=(Zlj (l:=movU l) (K:=3) (fun u hu=>ZeE hk _ (Zf3 u hu)) (fun u hu=>hc.2 _ (Zf3 u hu)) hpw _ (Wl _)).1
 rw[List.take_length] at this
 exact this
theorem ZqY {l:List St}(hk:∀x∈l,StOk x):NfP (movV l):=⟨(Zql hk).nf,Zqj hk,Zou l⟩
theorem ZeN {a:List Za}(hl:a.length<=1024)(hk:∀i∈a,IvOk B28 i):Sep (nrmS a)/\∀z,HoldP (nrmS a) z↔HoldP a z:=by
 obtain⟨h1,h2⟩:=Zn9 1 (a:=a) (b:=[]) ⟨hl,Wm _,hk,fun i hi=>by cases hi⟩
 refine⟨h1,fun z=>?_⟩
 rw[nrmS,h2 z]
 unfold dcdP HoldP
 simp
theorem Zpx {K:Nat}{i:Za}(h:IvOk K i):(rvR i.From).ok/\(rvR i.To).ok:=⟨h.a.o,h.b.o⟩
theorem ZsT {K:Nat}{l m:List Za}(h:Sep l)(k:Sep m)(hl:∀i∈l,IvOk K i)(hm:∀i∈m,IvOk K i)(H:∀t,HoldP l t↔HoldP m t):l=m:=h.eq k (fun i hi=>Zpx (hl i hi)) (fun i hi=>Zpx (hm i hi)) H
theorem ZfX {K:Nat}{a:List Za}(h:∀i∈a,IvOk K i):∀i∈nrmS a,IvOk K i:=fun i hi=>by
 have:=ZcV (Pr:=RlB K) (fun i hi=>⟨(h i hi).a,(h i hi).b⟩) i hi
 exact⟨this.1,this.2⟩
theorem ZqI {K:Nat}(kp:Bool->Bool->Bool){a b:List Za}(ha:∀i∈a,IvOk K i)(hb:∀i∈b,IvOk K i):∀i∈swpR kp a b,IvOk K i:=fun i hi=>by
 have:=ZjJ (Pb:=fun x=>RlB K x.at_) kp (fun i hi=>⟨(ha i hi).a,(ha i hi).b⟩) (fun i hi=>⟨(hb i hi).a,(hb i hi).b⟩) i hi
 exact⟨this.1,this.2⟩
theorem Zn2 {a:List Za}(ho:∀i∈a,okI i):Sep (swpR kpU a [])/\∀z,HoldP (swpR kpU a []) z↔HoldP a z:=by
 obtain⟨h1,h2,h3⟩:=Zir (kp:=kpU) rfl (is:=a) (js:=[]) (fun i hi=>Zr8 (ho i hi)) (fun i hi=>by cases hi)
 refine⟨⟨h2,h3⟩,fun z=>?_⟩
 unfold HoldP
 rw[h1 z]
 unfold kpU
 simp
theorem ZdR {K:Nat}{a:List Za}(hK:K<=B28)(hl:a.length<=1024)(hk:∀i∈a,IvOk K i)(ho:∀i∈a,okI i):swpR kpU a []=nrmS a:=by
 have h1:=Zn2 ho
 have h2:=ZeN hl (fun i hi=>(hk i hi).mono hK)
 exact ZsT h1.1 h2.1 (ZqI kpU hk (fun i hi=>by cases hi)) (ZfX hk) fun t=>(h1.2 t).trans (h2.2 t).symm
theorem SwOk.of {K:Nat}{a b:List Za}(hK:K<=KR)(hl:a.length+b.length<=32768)(hk:∀i∈a,IvOk K i)(hk2:∀i∈b,IvOk K i):SwOk a b:=
 ⟨by omega,fun i hi=>⟨⟨(hk i hi).a.mono hK⟩,⟨(hk i hi).b.mono hK⟩⟩,fun i hi=>⟨⟨(hk2 i hi).a.mono hK⟩,⟨(hk2 i hi).b.mono hK⟩⟩⟩
end Go.Vt
/-
 DERIVED: THE SHELF's CONTRACTS AT THIS DUMP, IN PLAIN WORDS (tools/lay-plain.mjs out of 'YtcgkgdgpdpihmaaGreatDoorLaySi.lean', which tools/lay-shelf.mjs wrote): THE SAME DECLARATIONS UNDER THE SAME NAMES: 'import', 'namespace', 'open', 'def', 'theorem' AND NOTHING ELSE: no command of the shelf's: FOR A HAND-IN. Each laying: the table of numbers ('.._ren') and one theorem, a field a fact of the dump's own or the kernel's comparison; each contract: ONE APPLICATION.
-/
namespace Go.Proofs
open Go.Shelf
end Go.Proofs
namespace Go.Vt
open Go.RowKit Go.Proofs
open Go.Proofs.Tryz (prog)
abbrev inL (us:List PU):List Za:=mpN (fun u:PU=>u.In) us us.length
set_option maxHeartbeats 8000000 in
theorem Ze7 (v:Value)(us:List PU)(w:World)(hv:ArgS w v rP us)(hl:us.length<=1048576):
  Calls prog 20 [v].toArray w (RetM (SlS rI 20 (inL us)) (fun s=>vSl s) (fun s=>mS 37 s) w):=by
 obtain⟨p,cp,rfl⟩:=hv.form
 refine Zb Tryz.func20 rfl Tryz.ntmps20 rfl ?_
 repeat(refine wkB ?_;intros)
 refine Z4 (S:=SlS rI 20 (inL us)) (fun _=>True) (fun s=>[(3,vSl s)]) (fun s=>mS 37 s) ?_ (fun s _=>?_)
 ·refine Zm (S:=(_:Nat)×(o:List Za)×SlS rI 20 o) (fun q=>q.1<=us.length/\q.2.1=mpN (fun u:PU=>u.In) us q.1) (fun q=>[(0, .slice p us.length cp),(3,vSl q.2.2),(4, .int .i64 (q.1:Nat))]) (fun q=>mS 37 q.2.2) (fun q=>us.length-q.1) ⟨0,[],SlS.no⟩ ⟨Wm _,rfl⟩ sbB suB (fun q hq=>?_)
  obtain⟨m,out,s⟩:=q
  obtain⟨hq,ho⟩:=hq
  dsimp only at hq ho⊢
  have hlen:out.length=m:=by rw[ho];exact ZK _ us m
  have hend:m=us.length->out=inL us:=fun h=>by rw[ho,h]
  have hnxt:out++[(gi us (m:Int)).In]=mpN (fun u:PU=>u.In) us (m+1):=by rw[ho];rfl
  clear ho
  repeat(refine wkB ?_;intros)
  refine Zk rfl (fun h=>?_) (fun h=>?_)
  ·have hlt:m<us.length:=by have:=Wa h;omega
   obtain⟨bw,ow,rfl,hrow'⟩:=hv.opn (k:=20) hlt
   repeat(refine wkB ?_;intros)
   refine sU (k:=20) (enc:=rI) (s:=s) rfl rfl ?_ ?_ ?_ ?_
   ·rfl
   ·rfl
   ·exact⟨by decide,by omega,by omega⟩
   intro s'
   repeat(first|(refine wkB ?_;intros)|(refine wnM ?_ ?_;(focus(exact⟨by omega,by omega⟩));intros))
   exact Zc ⟨m+1,_,s'⟩ ⟨hlt,hnxt⟩ sbB suB (by show us.length-(m+1)<us.length-m;omega)
  ·have hge:m=us.length:=by have:=Wb h;omega
   obtain⟨s',f1,f2⟩:=SlS.turn 37 (hend hge) s
   repeat(refine wkB ?_;intros)
   exact Zh s' trivial (by rw[f1];exact sbB) (by rw[f2];exact suB)
 repeat(refine wkB ?_;intros)
 exact Zo rfl rfl (fun w hw=>⟨s,rfl,hw.sub suB⟩)
instance Zrr (w0:World)(L:List Blk)(v:Value)(us:List PU)[h:LstC w0 L v PU rP us]:SpecR prog w0 L 20 [v] (SlS rI 20 (inL us)) (fun s=>vSl s) (fun s=>mS 37 s) (us.length<=1048576):=⟨fun hp w hw=>Ze7 v us w (h.out w hw) hp⟩
set_option maxHeartbeats 8000000 in
theorem Zlh (v:Value)(us:List PU)(x:Int)(w:World)(hv:ArgS w v rP us)(hl:us.length<=1024)(hk:∀i∈whL us x us.length,IvOk B28 i):
  Calls prog 43 [v, .int .i64 x].toArray w (RetM (SlS rI 20 (nrmS (whL us x us.length))) (fun s=>vSl s) (fun s=>mS 37 s) w):=by
 obtain⟨p,cp,rfl⟩:=hv.form
 have hwl:=ZbE us x us.length
 refine Zb Tryz.func43 rfl Tryz.ntmps43 rfl ?_
 repeat(refine wkB ?_;intros)
 refine Z4 (S:=SlS rI 20 (whL us x us.length)) (fun _=>True) (fun s=>[(5,vSl s)]) (fun s=>mS 37 s) ?_ (fun s _=>?_)
 ·refine Zm (S:=(_:Nat)×(o:List Za)×SlS rI 20 o) (fun q=>q.1<=us.length/\q.2.1=whL us x q.1) (fun q=>[(0, .slice p us.length cp),(1, .int .i64 x),(5,vSl q.2.2),(6, .int .i64 (q.1:Nat))]) (fun q=>mS 37 q.2.2) (fun q=>us.length-q.1) ⟨0,[],SlS.no⟩ ⟨Wm _,rfl⟩ sbB suB (fun q hq=>?_)
  obtain⟨m,out,s⟩:=q
  obtain⟨hq,ho⟩:=hq
  dsimp only at hq ho⊢
  have hlen:out.length<=m:=by rw[ho];exact ZbE us x m
  have hend:m=us.length->out=whL us x us.length:=fun h=>by rw[ho,h]
  have hnxt:(if(gi us (m:Int)).Label=x then out++[(gi us (m:Int)).In] else out)=whL us x (m+1):=by rw[ho];rfl
  clear ho
  repeat(refine wkB ?_;intros)
  refine Zk rfl (fun h=>?_) (fun h=>?_)
  ·have hlt:m<us.length:=by have:=Wa h;omega
   obtain⟨bw,ow,rfl,hrow'⟩:=hv.opn (k:=20) hlt
   repeat(refine wkB ?_;intros)
   by_cases c:(gi us (m:Int)).Label=x
   ·simp only[Wc c]
    rw[if_pos c] at hnxt
    repeat(refine wkB ?_;intros)
    refine sU (k:=20) (enc:=rI) (s:=s) rfl rfl ?_ ?_ ?_ ?_
    ·rfl
    ·rfl
    ·exact⟨by decide,by omega,by omega⟩
    intro s'
    repeat(first|(refine wkB ?_;intros)|(refine wnM ?_ ?_;(focus(exact⟨by omega,by omega⟩));intros))
    exact Zc ⟨m+1,_,s'⟩ ⟨hlt,hnxt⟩ sbB suB (by show us.length-(m+1)<us.length-m;omega)
   ·simp only[We c]
    rw[if_neg c] at hnxt
    repeat(first|(refine wkB ?_;intros)|(refine wnM ?_ ?_;(focus(exact⟨by omega,by omega⟩));intros))
    exact Zc ⟨m+1,_,s⟩ ⟨hlt,hnxt⟩ sbB suB (by show us.length-(m+1)<us.length-m;omega)
  ·have hge:m=us.length:=by have:=Wb h;omega
   obtain⟨s',f1,f2⟩:=SlS.turn 37 (hend hge) s
   repeat(refine wkB ?_;intros)
   exact Zh s' trivial (by rw[f1];exact sbB) (by rw[f2];exact suB)
 repeat(first|(refine wkB ?_;intros)|(refine wnM ?_ ?_;(focus(exact⟨by omega,hk⟩));intros))
 rename_i r
 exact Zo rfl rfl (fun w hw=>⟨r,rfl,hw.sub suB⟩)
instance Zxp (w0:World)(L:List Blk)(v:Value)(us:List PU)(x:Int)[h:LstC w0 L v PU rP us]:SpecR prog w0 L 43 [v, .int .i64 x] (SlS rI 20 (nrmS (whL us x us.length))) (fun s=>vSl s) (fun s=>mS 37 s) (us.length<=1024/\∀i∈whL us x us.length,IvOk B28 i):=⟨fun hp w hw=>Zlh v us x w (h.out w hw) hp.1 hp.2⟩
noncomputable def atL (us:List PU)(t:Rl):Option Int:=(us.find? (fun u=>inB u.In t)).map (·.Label)
set_option maxHeartbeats 8000000 in
theorem Zoa (v:Value)(us:List PU)(t:Zj)(w:World)(hv:ArgS w v rP us)(hl:us.length<=1048576)(hk:∀u∈us,IvOk B28 u.In)(ht:RtB t):
  Calls prog 24 [v,vR t].toArray w (Ret (.tuple #[.int .i64 ((atL us t).getD 0), .bool (atL us t).isSome]) w):=by
 have hav:=ArgC.mk hv
 obtain⟨p,cp,rfl⟩:=hv.form
 refine Zb Tryz.func24 rfl Tryz.ntmps24 rfl ?_
 repeat(refine wkB ?_;intros)
 rename_i b3
 refine Zm (S:=Nat) (fun i=>i<=us.length/\(us.drop i).find? (fun u=>inB u.In t)=us.find? (fun u=>inB u.In t)) (fun i=>[(0, .slice p us.length cp),(3, .pointer (some ⟨b3,0,none⟩)),(6, .int .i64 (i:Nat))]) (fun _=>[⟨b3,Zf (Zg t),35⟩]) (fun i=>us.length-i) 0 ⟨Wm _,rfl⟩ sbB slB (fun i hi=>?_)
 obtain⟨hi,hd⟩:=hi
 repeat(refine wkB ?_;intros)
 refine Zk rfl (fun h=>?_) (fun h=>?_)
 ·have hlt:i<us.length:=by have:=Wa h;omega
  obtain⟨bw,ow,rfl,hrow'⟩:=hv.opn (k:=20) hlt
  have q1:IvOk B28 (gi us (i:Int)).In/\RtB t:=⟨hk _ (Zs (by omega)),ht⟩
  rw[List.drop_eq_getElem_cons hlt,List.find?_cons,<-Zr hlt] at hd
  repeat(refine wkB ?_;intros)
  (refine jD 7 7 (h:=?_);(repeat(first|refine wkH ?_|(refine tC rfl rfl ?_ ?_;focus(exact q1))));refine Zn ?_;(repeat(refine Z6 ?_;intro _));refine Zp ?_)
  repeat(refine wkB ?_;intros)
  cases c:inB (gi us (i:Int)).In t with
  |true=>
   rw[c] at hd
   have e:atL us t=some (gi us (i:Int)).Label:=by unfold atL;rw[<-hd];rfl
   rw[e]
   repeat(refine wkB ?_;intros)
   exact ZF rfl (Zw rfl) (Zw rfl) (fun w hw=>ZP hw)
  |false=>
   rw[c] at hd
   repeat(first|(refine wkB ?_;intros)|(refine wnM ?_ ?_;(focus(exact⟨by omega,by omega⟩));intros))
   exact Zc (i+1) ⟨hlt,hd⟩ sbB slB (by omega)
 ·have hge:i=us.length:=by have:=Wb h;omega
  rw[hge,List.drop_length] at hd
  have e:atL us t=none:=by unfold atL;rw[<-hd];rfl
  rw[e]
  repeat(refine wkB ?_;intros)
  exact ZF rfl (Zw rfl) (Zw rfl) (fun w hw=>ZP hw)
instance ZCD (w0:World)(L:List Blk)(v:Value)(us:List PU)(t:Zj)[h:LstC w0 L v PU rP us]:SpecM prog w0 L 24 [v,vR t] (.tuple #[.int .i64 ((atL us t).getD 0), .bool (atL us t).isSome]) (us.length<=1048576/\(∀u∈us,IvOk B28 u.In)/\RtB t):=⟨fun hp w hw=>Zoa v us t w (h.out w hw) hp.1 hp.2.1 hp.2.2⟩
end Go.Vt
