/- For any up to 8 stretches, Normal returns the normal form of their units in any order, if no two have an instant in common, and ErrOverlap otherwise. Conditions: none. (part 24 of 28.) Conditions: those that each statement names. -/
import Derived.Shelf.SortM.Plain
import Derived.Shelf.SortM.SortNone
import Derived.Ground.SlgmProg
import Derived.Test.YtcgkgdgpdpihmaaGreatDoorProg
import Derived.Test.YtcgkgdgpdpihmaaGreatDoorKZ10
import Derived.Test.YtcgkgdgpdpihmaaGreatDoorKZ11
import Derived.Test.YtcgkgdgpdpihmaaGreatDoorKZ15
import Derived.Test.YtcgkgdgpdpihmaaGreatDoorKZ16
import Derived.Test.YtcgkgdgpdpihmaaGreatDoorKZ19
import Derived.Test.YtcgkgdgpdpihmaaGreatDoorKZ20
import Derived.Test.YtcgkgdgpdpihmaaGreatDoorKZ21
import Derived.Test.YtcgkgdgpdpihmaaGreatDoorKZ22
import Derived.Test.YtcgkgdgpdpihmaaGreatDoorKZ23
set_option linter.unusedSimpArgs false
set_option linter.unusedVariables false
set_option maxHeartbeats 2000000
set_option maxRecDepth 100000
set_option linter.unusedSectionVars false
namespace Go.Vt
open Go.RowKit Go.Proofs
open Go.Proofs.Tryz (prog)
section
structure Cut (us:List UL)(t:Rl)(k:Nat):Prop where
 le:k<=us.length
 lo:∀j:Nat,j<k->ri (gi us (j:Int)).In.To<ri t
 hi:∀j:Nat,k<=j->j<us.length->ri t<=ri (gi us (j:Int)).In.To
instance Zus (u:UL)(t:Zh):SpecC prog 146 [vUL u,vR t] (.int .i64 (cl u.In.To t)) (RlB KR u.In.To/\RlB KR t):=⟨fun hp w=>by
 refine Zb Tryz.func146 rfl Tryz.ntmps146 rfl ?_
 repeat(first|(refine wkB ?_;intros)|(refine wnM ?_ ?_;(focus(exact hp));intros))
 exact rtT rfl rfl⟩
theorem Zhs (v:Value)(us:List UL)(t:Zh)(k:Nat)(hk:Cut us t k)(w:World)(hv:ArgS w v rU us)(hl:us.length<=1048576)(ht:RlB KR t)(hok:∀u∈us,IvOk BQ u.In):
  Calls prog 145 [v,vR t,vFn 146].toArray w (Ret (.tuple #[.int .i64 (k:Nat), .bool (decide (k<us.length)&&decide (cl (gi us (k:Int)).In.To t=0))]) w):=by
 refine Zb Tryz.func145 rfl Tryz.ntmps145 rfl ?_
 obtain⟨p,cp,rfl⟩:=hv.form
 have hpre:∀j:Nat,j<us.length->RlB KR (gi us (j:Int)).In.To/\RlB KR t:=fun j hj=>by
  have h1:=hok _ (Zt (i:=(j:Int)) (by omega))
  exact⟨h1.b,ht⟩
 repeat(refine wkB ?_;intros)
 rename_i b4
 refine Zp (S:=Nat×Nat) (fun s=>s.1<=k/\k<=s.2/\s.2<=us.length) (fun s=>[(0, .slice p us.length cp),(2,vFn 146),(4, .pointer (some ⟨b4,0,none⟩)),(8, .int .i64 us.length),(9, .int .i64 (s.1:Nat)),(10, .int .i64 (s.2:Nat))]) (fun _=>[⟨b4,Zd (Ze t),35⟩]) (fun s=>s.2-s.1) (0,us.length)
  ⟨Wm _,hk.le,Wl _⟩ sbB slB (fun s hs=>?_)
 obtain⟨lo,hi⟩:=s
 obtain⟨h1,h2,h3⟩:=hs
 simp only at h1 h2 h3⊢
 repeat(refine wkB ?_;intros)
 refine Zi rfl (fun h=>?_) (fun h=>?_)
 ·have hlt:lo<hi:=by have:=Wa h;omega
  have hne:us≠[]:=fun h0=>by rw[h0] at h3;simp at h3;omega
  obtain⟨bw,ow,cw,hvw,hcw,hrow⟩:=hv.blk (k:=20) hne []
  injection hvw with e1 e2 e3
  subst e1
  subst e3
  have hrow':∀L,RowC w L bw ow UL rU us:=fun L=>⟨fun w' hw'=>hrow.out w' (hw'.sub (Wk _))⟩
  repeat(refine wkB ?_;intros)
  refine jq (ZaF rfl rfl (by decide)) rfl rfl ?_
  obtain⟨m,hm⟩:∃m,m=(lo+hi) / 2:=⟨_,rfl⟩
  have em:((lo:Int)+(hi:Int)) / 2 ^ (1:Int).toNat=(m:Int):=by
   rw[show(2:Int) ^ (1:Int).toNat=2 from rfl]
   omega
  simp only[em]
  have hml:lo<=m/\m<hi:=by omega
  have hpm:=hpre m (by omega)
  repeat(refine wkB ?_;intros)
  (refine jD 8 8 (h:=?_);(repeat(first|refine wkH ?_|(refine tC rfl rfl ?_ ?_;focus(exact hpm))));refine Zo ?_;(repeat(refine ZZ ?_;intro _));refine Zq ?_)
  repeat(refine wkB ?_;intros)
  by_cases hc:cl (gi us (m:Int)).In.To t<0
  ·simp only[Wc hc]
   have hmk:m<k:=by
    rcases Nat.lt_or_ge m k with h1|h1
    ·exact h1
    ·have:=hk.hi m h1 (by omega)
     have:=Zac.1 hc
     grind
   repeat(first|(refine wkB ?_;intros)|(refine wnM ?_ ?_;(focus(exact⟨by omega,by omega⟩));intros))
   exact Zf (m+1,hi) ⟨hmk,h2,h3⟩ sbB slB (by show hi-(m+1)<hi-lo;omega)
  ·simp only[We hc]
   have hmk:k<=m:=by
    rcases Nat.lt_or_ge m k with h1|h1
    ·exact absurd (Zac.2 (hk.lo m h1)) hc
    ·exact h1
   repeat(refine wkB ?_;intros)
   exact Zf (lo,m) ⟨h1,hmk,by show m<=us.length;omega⟩ sbB slB (by show m-lo<hi-lo;omega)
 ·have hge:lo=k/\hi=k:=by have:=Wb h;omega
  obtain⟨rfl,rfl⟩:=hge
  repeat(refine wkB ?_;intros)
  by_cases hlt:hi<us.length
  ·have hne:us≠[]:=fun h0=>by rw[h0] at hlt;simp at hlt
   obtain⟨bw,ow,cw,hvw,hcw,hrow⟩:=hv.blk (k:=20) hne []
   injection hvw with e1 e2 e3
   subst e1
   subst e3
   have hrow':∀L,RowC w L bw ow UL rU us:=fun L=>⟨fun w' hw'=>hrow.out w' (hw'.sub (Wk _))⟩
   have hpm:=hpre hi hlt
   (refine Zaq [0,1,2,3,4,5,6,7,8,9,10,11,12,13] [14,15] (_) (h:=?_);refine wkI ?_)
   (repeat(refine wkH ?_))
   simp only[Wc (show(hi:Int)<(us.length:Int) by omega)]
   (repeat(first|refine wkH ?_|(refine tC rfl rfl ?_ ?_;focus(exact hpm))))
   repeat(refine wkT ?_;intros)
   repeat(refine wkB ?_;intros)
   rw[Wc hlt,Bool.true_and]
   exact ZF rfl (Zx rfl) (Zx rfl) (fun w hw=>ZS hw)
  ·(refine Zaq [0,1,2,3,4,5,6,7,8,9,10,11,12,13] [14,15] (_) (h:=?_);refine wkI ?_)
   (repeat(refine wkH ?_))
   simp only[We (show¬(hi:Int)<(us.length:Int) by omega)]
   (repeat(refine wkH ?_))
   repeat(refine wkT ?_;intros)
   repeat(refine wkB ?_;intros)
   rw[We hlt,Bool.false_and]
   exact ZF rfl (Zx rfl) (Zx rfl) (fun w hw=>ZS hw)
end
section
class CtC (us:List UL)(t:Rl)(k:outParam Nat):Prop where
 out:Cut us t k
instance ZtR (w0:World)(L:List Blk)(v:Value)(us:List UL)(t:Zh)(k:Nat)[h:LstC w0 L v UL rU us][hk:CtC us t k]:SpecM prog w0 L 145 [v,vR t,vFn 146] (.tuple #[.int .i64 (k:Nat), .bool (decide (k<us.length)&&decide (cl (gi us (k:Int)).In.To t=0))]) (us.length<=1048576/\RlB KR t/\∀u∈us,IvOk BQ u.In):=⟨fun hp w hw=>Zhs v us t k hk.out w (h.out w hw) hp.1 hp.2.1 hp.2.2⟩
structure AtR (us:List UL)(t:Ri)(r:Option Int):Prop where
 out:(∃k:Nat,k<us.length/\(absU (gi us (k:Int))).mem t/\(∀j:Nat,j<k->¬(absU (gi us (j:Int))).mem t)/\(∀j:Nat,j<=k->ri (gi us (j:Int)).In.From<=t)/\r=some (gi us (k:Int)).F)\/((∀j:Nat,j<us.length->¬(absU (gi us (j:Int))).mem t)/\r=none)
theorem AtR.hit {us:List UL}{t:Ri}{r:Option Int}(h:AtR us t r){i:Nat}(hi:i<us.length)(hm:(absU (gi us (i:Int))).mem t)(hn:∀j:Nat,j<i->¬(absU (gi us (j:Int))).mem t):r=some (gi us (i:Int)).F:=by
 rcases h.out with⟨k,h1,h2,h3, -,h5⟩|⟨h1, -⟩
 ·rcases Nat.lt_trichotomy i k with h6|h6|h6
  ·exact absurd hm (h3 i h6)
  ·subst h6;exact h5
  ·exact absurd h2 (hn k h6)
 ·exact absurd hm (h1 i hi)
theorem AtR.miss {us:List UL}{t:Ri}{r:Option Int}(h:AtR us t r){i:Nat}(hi:us.length<=i\/t<ri (gi us (i:Int)).In.From)(hn:∀j:Nat,j<i->¬(absU (gi us (j:Int))).mem t):r=none:=by
 rcases h.out with⟨k,h1,h2,h3,h4,h5⟩|⟨-,h2⟩
 ·have hik:i<=k:=by
   rcases Nat.lt_or_ge k i with h6|h6
   ·exact absurd h2 (hn k h6)
   ·exact h6
  rcases hi with h6|h6
  ·omega
  ·have:=h4 i hik
   grind
 ·exact h2
class AtC' (us:List UL)(t:Ri)(r:outParam (Option Int)):Prop where
 out:AtR us t r
noncomputable def tst (u:UL)(t:Zh):Bool:=(decide (cl u.In.From t<0)|| !u.In.OpenFrom)&&(!decide (u.In.To=t)|| !u.In.OpenTo)
theorem ZpJ {u:UL}{t:Zh}{K:Nat}(hu:IvOk K u.In)(ht:(rvR t).ok)(h1:ri u.In.From<=ri t)(h2:ri t<=ri u.In.To):tst u t=true↔(absU u).mem (ri t):=by
 have e:=Zcm hu.b.o ht
 unfold tst GU.mem absU
 simp only[Wq,Bool.or_eq_true,decide_eq_true_eq,Bool.not_eq_true',decide_eq_false_iff_not,<-e,Zac]
 grind
theorem Zn1 (v:Value)(us:List UL)(t:Zh)(c:Nat)(r:Option Int)(hk:Cut us t c)(hr:AtR us (ri t) r)(w:World)(hv:ArgS w v rU us)(hl:us.length<=1048576)(ht:RlB KR t)(hok:∀u∈us,IvOk BQ u.In):
  Calls prog 104 [v,vR t].toArray w (Ret (.tuple #[.int .i64 (r.getD 0), .bool r.isSome]) w):=by
 have:=ArgC.mk hv
 have:=CtC.mk hk
 have hcl:=hk.le
 refine Zb Tryz.func104 rfl Tryz.ntmps104 rfl ?_
 obtain⟨p,cp,rfl⟩:=hv.form
 repeat(first|(refine wkB ?_;intros)|(refine wnM ?_ ?_;(focus(exact⟨hl,ht,hok⟩));intros))
 rename_i b3
 refine Zp (S:=Nat) (fun i=>(c<=i/\i<=us.length)/\∀j:Nat,j<i->¬(absU (gi us (j:Int))).mem (ri t)) (fun i=>[(0, .slice p us.length cp),(3, .pointer (some ⟨b3,0,none⟩)),(4, .int .i64 0),(5, .bool false),(6, .int .i64 (i:Nat))]) (fun _=>[⟨b3,Zd (Ze t),35⟩]) (fun i=>us.length-i) c
  ⟨⟨Wl _,hcl⟩,fun j hj hm=>?_⟩ sbB slB (fun i hi=>?_)
 ·have h1:=hk.lo j hj
  unfold GU.mem absU at hm
  grind
 obtain⟨⟨hci,hil⟩,hno⟩:=hi
 repeat(refine wkB ?_;intros)
 refine Zi rfl (fun h=>?_) (fun h=>?_)
 ·have hlt:i<us.length:=by have:=Wa h;omega
  obtain⟨bw,ow,rfl,hrow'⟩:=hv.opn (k:=20) hlt
  have ho:=hok _ (Zt (i:=(i:Int)) (xs:=us) (by omega))
  have hto:=hk.hi i hci hlt
  repeat(refine wkB ?_;intros)
  (refine Zaq [0,1,2,3,4,5,6,7] [8] (_) (h:=?_);refine wkI ?_)
  (repeat(first|refine wkH ?_|(refine tC rfl rfl ?_ ?_;focus(exact⟨ho.a,ht⟩))))
  repeat(refine wkT ?_;intros)
  repeat(refine wkB ?_;intros)
  by_cases hgt:ri t<ri (gi us (i:Int)).In.From
  ·have hrn:=hr.miss (.inr hgt) hno
   subst hrn
   simp only[Wc (ZgL.2 hgt)]
   repeat(refine wkB ?_;intros)
   exact ZF rfl (Zx rfl) (Zx rfl) (fun w hw=>ZS hw)
  ·have hle:ri (gi us (i:Int)).In.From<=ri t:=by grind
   have hti:=ZpJ ho ht.o hle hto
   simp only[We (fun h=>hgt (ZgL.1 h))]
   repeat(refine wkB ?_;intros)
   refine ZV (S:=Bool) (fun v=>v=tst (gi us (i:Int)) t) (fun v=>[(61, .bool v),(0, .slice (some ⟨bw,ow,none⟩) us.length cp),(3, .pointer (some ⟨b3,0,none⟩)),(4, .int .i64 0),(5, .bool false),(6, .int .i64 (i:Nat))]) (fun _=>[⟨b3,Zd (Ze t),35⟩]) ?_ (fun v hv3=>?_)
   ·refine jD 30 30 (h:=?_)
    (repeat(refine wkH ?_))
    unfold tst
    rcases hd1:decide (cl (gi us (i:Int)).In.From t<0) with _|_
    ·(repeat(refine wkH ?_))
     rcases hd2:(gi us (i:Int)).In.OpenFrom with _|_
     ·(repeat(refine wkH ?_))
      rcases hd3:decide ((gi us (i:Int)).In.To=t) with _|_
      ·(repeat(refine wkH ?_))
       refine Zo ?_
       refine Zq ?_
       repeat(refine wkB ?_;intros)
       exact Zg true rfl sbB slB
      ·(repeat(refine wkH ?_))
       refine Zo ?_
       refine Zq ?_
       repeat(refine wkB ?_;intros)
       exact Zg (!(gi us (i:Int)).In.OpenTo) (by simp) sbB slB
     ·(repeat(refine wkH ?_))
      refine Zo ?_
      refine Zq ?_
      repeat(refine wkB ?_;intros)
      exact Zg false (by simp) sbB slB
    ·(repeat(refine wkH ?_))
     rcases hd3:decide ((gi us (i:Int)).In.To=t) with _|_
     ·(repeat(refine wkH ?_))
      refine Zo ?_
      refine Zq ?_
      repeat(refine wkB ?_;intros)
      exact Zg true rfl sbB slB
     ·(repeat(refine wkH ?_))
      refine Zo ?_
      refine Zq ?_
      repeat(refine wkB ?_;intros)
      exact Zg (!(gi us (i:Int)).In.OpenTo) (by simp) sbB slB
   subst hv3
   rcases htt:tst (gi us (i:Int)) t with _|_
   ·repeat(first|(refine wkB ?_;intros)|(refine wnM ?_ ?_;(focus(exact⟨by omega,by omega⟩));intros))
    refine Zf (i+1) ⟨⟨by omega,hlt⟩,fun j hj hm=>?_⟩ sbB slB (by omega)
    rcases(by omega:j<i\/j=i) with h1|h1
    ·exact hno j h1 hm
    ·subst h1
     rw[hti.2 hm] at htt
     cases htt
   ·have hrs:=hr.hit hlt (hti.1 htt) hno
    subst hrs
    repeat(refine wkB ?_;intros)
    exact ZF rfl (Zx rfl) (Zx rfl) (fun w hw=>ZS hw)
 ·have hge:us.length<=i:=by have:=Wb h;omega
  have hrn:=hr.miss (.inl hge) hno
  subst hrn
  repeat(refine wkB ?_;intros)
  exact ZF rfl (Zx rfl) (Zx rfl) (fun w hw=>ZS hw)
instance ZzW (w0:World)(L:List Blk)(v:Value)(us:List UL)(t:Zh)(c:Nat)(r:Option Int)[h:LstC w0 L v UL rU us][hk:CtC us t c][hr:AtC' us (ri t) r]:SpecM prog w0 L 104 [v,vR t] (.tuple #[.int .i64 (r.getD 0), .bool r.isSome]) (us.length<=1048576/\RlB KR t/\∀u∈us,IvOk BQ u.In):=⟨fun hp w hw=>Zn1 v us t c r hk.out hr.out w (h.out w hw) hp.1 hp.2.1 hp.2.2⟩
end
section
instance Zsn (w0:World)(L L1:List Blk)(xs:List Int)(s:SlS (eI .i64) 1 xs)[hd:OwnS 3 s L L1]:SpecX prog w0 L 85 [vSl s] (SlS (eI .i64) 1 (cmI' xs)) (fun s=>vSl s) (fun s=>mS 3 s++L1) (xs.length<=1048576):=⟨fun hp w hw=>ZgB w0 w L L1 xs s hp hw⟩
def lbL (us:List PU):List Int:=mpN (fun u:PU=>u.Label) us us.length
set_option maxHeartbeats 8000000 in
theorem ZiK (v:Value)(us:List PU)(w:World)(hv:ArgS w v rP us)(hl:us.length<=1048576):
  Calls prog 32 [v].toArray w (RetM (SlS (eI .i64) 1 (cmI' (lbL us))) (fun s=>vSl s) (fun s=>mS 3 s) w):=by
 obtain⟨p,cp,rfl⟩:=hv.form
 refine Zb Tryz.func32 rfl Tryz.ntmps32 rfl ?_
 repeat(refine wkB ?_;intros)
 refine Z2 (S:=SlS (eI .i64) 1 (lbL us)) (fun _=>True) (fun s=>[(3,vSl s)]) (fun s=>mS 3 s) ?_ (fun s _=>?_)
 ·refine Zp (S:=(_:Nat)×(o:List Int)×SlS (eI .i64) 1 o) (fun q=>q.1<=us.length/\q.2.1=mpN (fun u:PU=>u.Label) us q.1) (fun q=>[(3,vSl q.2.2),(6, .slice p us.length cp),(7, .int .i64 (us.length:Nat)),(8, .int .i64 (q.1:Nat))]) (fun q=>mS 3 q.2.2) (fun q=>us.length-q.1) ⟨0,[],SlS.no⟩ ⟨Wm _,rfl⟩ sbB suB (fun q hq=>?_)
  obtain⟨m,out,s⟩:=q
  obtain⟨hq,ho⟩:=hq
  dsimp only at hq ho⊢
  have hlen:out.length=m:=by rw[ho];exact Zag _ us m
  have hend:m=us.length->out=lbL us:=fun h=>by rw[ho,h];rfl
  have hnxt:out++[(gi us (m:Int)).Label]=mpN (fun u:PU=>u.Label) us (m+1):=by rw[ho];rfl
  clear ho
  repeat(refine wkB ?_;intros)
  refine Zi rfl (fun h=>?_) (fun h=>?_)
  ·have hlt:m<us.length:=by have:=Wa h;omega
   obtain⟨bw,ow,rfl,hrow'⟩:=hv.opn (k:=20) hlt
   repeat(refine wkB ?_;intros)
   refine sU (k:=1) (enc:=eI .i64) (s:=s) rfl rfl ?_ ?_ ?_ ?_
   ·rfl
   ·rfl
   ·exact⟨by decide,by omega,by omega⟩
   intro s'
   repeat(first|(refine wkB ?_;intros)|(refine wnM ?_ ?_;(focus(exact⟨by omega,by omega⟩));intros))
   exact Zf ⟨m+1,_,s'⟩ ⟨hlt,hnxt⟩ sbB suB (by show us.length-(m+1)<us.length-m;omega)
  ·have hge:m=us.length:=by have:=Wb h;omega
   obtain⟨s',f1,f2⟩:=SlS.turn 3 (hend hge) s
   repeat(refine wkB ?_;intros)
   exact Zg s' trivial (by rw[f1];exact sbB) (by rw[f2];exact suB)
 have hl':(lbL us).length<=1048576:=by unfold lbL;rw[Zag];exact hl
 repeat(first|(refine wkB ?_;intros)|(refine wnM ?_ ?_;(focus(exact hl'));intros))
 refine sZ rfl rfl hl' (fun r=>?_)
 repeat(refine wkB ?_;intros)
 exact ZA rfl rfl (fun w hw=>⟨r,rfl,hw.sub suB⟩)
instance ZuS (w0:World)(L:List Blk)(v:Value)(us:List PU)[h:LstC w0 L v PU rP us]:SpecR prog w0 L 32 [v] (SlS (eI .i64) 1 (cmI' (lbL us))) (fun s=>vSl s) (fun s=>mS 3 s) (us.length<=1048576):=⟨fun hp w hw=>ZiK v us w (h.out w hw) hp⟩
def whL (us:List PU)(x:Int):Nat->List Za
 |0=>[]
 |m+1=>if(gi us (m:Int)).Label=x then whL us x m++[(gi us (m:Int)).In] else whL us x m
theorem Zjw (us:List PU)(x:Int):∀m,(whL us x m).length<=m
 |0=>Wl _
 |m+1=>by
  have:=Zjw us x m
  rw[whL]
  split
  ·simp;exact this
  ·omega
set_option maxHeartbeats 8000000 in
theorem Zlk (v:Value)(us:List PU)(x:Int)(w:World)(hv:ArgS w v rP us)(hl:us.length<=1048576)(hsw:SwOk (whL us x us.length) []):
  Calls prog 59 [v, .int .i64 x].toArray w (RetM (SlS rI 20 (swpR kpU (whL us x us.length) [])) (fun s=>vSl s) (fun s=>mS 37 s) w):=by
 obtain⟨p,cp,rfl⟩:=hv.form
 refine Zb Tryz.func59 rfl Tryz.ntmps59 rfl ?_
 repeat(refine wkB ?_;intros)
 refine Z2 (S:=SlS rI 20 (whL us x us.length)) (fun _=>True) (fun s=>[(5,vSl s)]) (fun s=>mS 37 s) ?_ (fun s _=>?_)
 ·refine Zp (S:=(_:Nat)×(o:List Za)×SlS rI 20 o) (fun q=>q.1<=us.length/\q.2.1=whL us x q.1) (fun q=>[(1, .int .i64 x),(5,vSl q.2.2),(8, .slice p us.length cp),(9, .int .i64 (us.length:Nat)),(10, .int .i64 (q.1:Nat))]) (fun q=>mS 37 q.2.2) (fun q=>us.length-q.1) ⟨0,[],SlS.no⟩ ⟨Wm _,rfl⟩ sbB suB (fun q hq=>?_)
  obtain⟨m,out,s⟩:=q
  obtain⟨hq,ho⟩:=hq
  dsimp only at hq ho⊢
  have hlen:out.length<=m:=by rw[ho];exact Zjw us x m
  have hend:m=us.length->out=whL us x us.length:=fun h=>by rw[ho,h]
  have hnxt:(if(gi us (m:Int)).Label=x then out++[(gi us (m:Int)).In] else out)=whL us x (m+1):=by rw[ho];rfl
  clear ho
  repeat(refine wkB ?_;intros)
  refine Zi rfl (fun h=>?_) (fun h=>?_)
  ·have hlt:m<us.length:=by have:=Wa h;omega
   obtain⟨bw,ow,rfl,hrow'⟩:=hv.opn (k:=20) hlt
   repeat(refine wkB ?_;intros)
   by_cases c:(gi us (m:Int)).Label=x
   ·simp only[Wc c]
    rw[if_pos c] at hnxt
    repeat(refine wkB ?_;intros)
    refine sU (k:=20) (enc:=rI) (s:=s) rfl rfl ?_ ?_ ?_ ?_
    ·rfl
    ·rfl
    ·exact⟨by decide,by omega,by omega⟩
    intro s'
    repeat(first|(refine wkB ?_;intros)|(refine wnM ?_ ?_;(focus(exact⟨by omega,by omega⟩));intros))
    exact Zf ⟨m+1,_,s'⟩ ⟨hlt,hnxt⟩ sbB suB (by show us.length-(m+1)<us.length-m;omega)
   ·simp only[We c]
    rw[if_neg c] at hnxt
    repeat(first|(refine wkB ?_;intros)|(refine wnM ?_ ?_;(focus(exact⟨by omega,by omega⟩));intros))
    exact Zf ⟨m+1,_,s⟩ ⟨hlt,hnxt⟩ sbB suB (by show us.length-(m+1)<us.length-m;omega)
  ·have hge:m=us.length:=by have:=Wb h;omega
   obtain⟨s',f1,f2⟩:=SlS.turn 37 (hend hge) s
   repeat(refine wkB ?_;intros)
   exact Zg s' trivial (by rw[f1];exact sbB) (by rw[f2];exact suB)
 repeat(first|(refine wkB ?_;intros)|(refine wnM ?_ ?_;(focus(exact hsw));intros))
 rename_i r
 exact ZA rfl rfl (fun w hw=>⟨r,rfl,hw.sub suB⟩)
instance Zy8 (w0:World)(L:List Blk)(v:Value)(us:List PU)(x:Int)[h:LstC w0 L v PU rP us]:SpecR prog w0 L 59 [v, .int .i64 x] (SlS rI 20 (swpR kpU (whL us x us.length) [])) (fun s=>vSl s) (fun s=>mS 37 s) (us.length<=1048576/\SwOk (whL us x us.length) []):=⟨fun hp w hw=>Zlk v us x w (h.out w hw) hp.1 hp.2⟩
theorem Znd (v:Value)(us:List PU)(t:Zh)(c:Nat)(r:Option Int)(w:World)(hv:ArgS w v rP us)(hc:Cut (mpN toU us us.length) t c)(hr:AtR (mpN toU us us.length) (ri t) r)(hl:us.length<=1048576)(ht:RlB KR t)(hu:∀u∈mpN toU us us.length,IvOk BQ u.In):
  Calls prog 57 [v,vR t].toArray w (Ret (.tuple #[.int .i64 (r.getD 0), .bool r.isSome]) w):=by
 have:=ArgC.mk hv
 have hml:=Zag toU us us.length
 have i1:CtC (mpN toU us us.length) t c:=⟨hc⟩
 have i2:AtC' (mpN toU us us.length) (ri t) r:=⟨hr⟩
 have p2:(mpN toU us us.length).length<=1048576/\RlB KR t/\∀u∈mpN toU us us.length,IvOk BQ u.In:=⟨by omega,ht,hu⟩
 refine Zb Tryz.func57 rfl Tryz.ntmps57 rfl ?_
 repeat(refine wkB ?_;intros)
 rename_i b3
 (refine ZE (.v [0,2] (.e1 1 (.e1 3 (.v [4,5] (.e1 6 (.e1 7 (.fin))))))) ([⟨b3,Zd (Ze t),35⟩]) (h:=?_);refine wkX ?_)
 (repeat(refine wkH ?_))
 repeat(first|(refine wkT ?_;intros)|(refine tC rfl rfl ?_ ?_;focus(first|exact hl|exact p2))|(refine uC rfl rfl ?_ ?_;focus(first|exact hl|exact p2))|(refine eN rfl rfl ?_ ?_;(focus(first|exact hl|exact p2));intro _;(try simp only[Wf,Wg,Wh])))
 repeat(refine wkB ?_;intros)
 exact ZF rfl (Zx rfl) (Zx rfl) (fun w hw=>ZS hw)
instance ZAD (w0:World)(L:List Blk)(v:Value)(us:List PU)(t:Zh)(c:Nat)(r:Option Int)[h:LstC w0 L v PU rP us][hk:CtC (mpN toU us us.length) t c][hr:AtC' (mpN toU us us.length) (ri t) r]:SpecM prog w0 L 57 [v,vR t] (.tuple #[.int .i64 (r.getD 0), .bool r.isSome]) (us.length<=1048576/\RlB KR t/\∀u∈mpN toU us us.length,IvOk BQ u.In):=⟨fun hp w hw=>Znd v us t c r w (h.out w hw) hk.out hr.out hp.1 hp.2.1 hp.2.2⟩
end
end Go.Vt
namespace Go.Vt
open Fv (va red)
section
variable {T F V : Type} [LE T] [LT T] [Std.LawfulOrderLT T] [Std.IsLinearOrder T] [Dns T] [Fv F T V]
def jnBG (a u:GU T F):Prop:=a.f=u.f/\a.b=u.a/\¬(a.ob=true/\u.oa=true)
def jnPG (a u:GU T F):GU T F:=⟨a.a,u.b,a.oa,u.ob,a.f⟩
structure JnI (done out:List (GU T F)):Prop where
 nf:NF out
 has:∀t v,Has out t v↔Has done t v
 lst:∀ys a,out=ys++[a]->∃ds d,done=ds++[d]/\a.b=d.b/\a.ob=d.ob
theorem JnI.nil :JnI ([]:List (GU T F)) []:=⟨NF.nil,fun _ _=>Iff.rfl,fun ys a h=>by simp at h⟩
theorem Zn8 {a u:GU T F}(ha:a.ok)(hu:u.ok)(h:jnBG a u)(t:T):(jnPG a u).mem t↔a.mem t\/u.mem t:=by
 obtain⟨h1,h2,h3⟩:=h
 unfold GU.mem GU.ok jnPG at*
 dsimp only
 grind
variable (hva : ∀ (f g : F) (t : T), va f t = va g t ↔ f = g) (hrd : ∀ (f : F) (t : T), red f t = f)
include hva hrd
theorem Zky {a u:GU T F}(ha:a.ok)(hb:a.bfr u)(h:¬jnBG a u):Adj a u:=by
 refine⟨hb,fun e o _ f=>h ⟨f,e,by simp[o]⟩,fun e o f=>h ⟨(hva _ _ _).1 f,e,by simp[o]⟩,fun e i f=>h ⟨(hva _ _ _).1 f,e, ?_⟩⟩
 unfold GU.ok at ha
 grind
theorem JnI.bf {done out ys:List (GU T F)}{a u:GU T F}(h:JnI done out)(hb:∀w∈done,w.bfr u)(e:out=ys++[a]):a.bfr u:=by
 obtain⟨ds,d,e1,e2,e3⟩:=h.lst ys a e
 have:=hb d (by rw[e1];simp)
 unfold GU.bfr at*
 rw[e2,e3]
 exact this
theorem JnI.app {done out:List (GU T F)}{u:GU T F}(h:JnI done out)(hu:u.ok)(hb:∀w∈done,w.bfr u)(hn:∀ys a,out=ys++[a]->¬jnBG a u):JnI (done++[u]) (out++[u]):=by
 refine⟨h.nf.app hu (fun _=>(hrd _ _).symm) fun ys a e=>Zky hva hrd (h.nf.ok a (by rw[e];simp)) (h.bf hva hrd hb e) (hn ys a e),fun t v=>?_,fun ys a e=>?_⟩
 ·rw[Zcx,Zcx,h.has]
 ·obtain⟨e1,e2⟩:=Zbc e
  exact⟨done,u,rfl,by rw[e2],by rw[e2]⟩
theorem JnI.mrg {done out ys:List (GU T F)}{a u:GU T F}(h:JnI done out)(hu:u.ok)(hb:∀w∈done,w.bfr u)(e:out=ys++[a])(hj:jnBG a u):JnI (done++[u]) (ys++[jnPG a u]):=by
 have hao:=h.nf.ok a (by rw[e];simp)
 have hbf:=h.bf hva hrd hb e
 have hnf:=h.nf
 rw[e] at hnf
 refine⟨hnf.last (u:=a) rfl rfl rfl ?_,fun t v=>?_,fun ys' a' e'=>?_⟩
 ·obtain⟨h1,h2,h3⟩:=hj
  unfold GU.ok GU.bfr jnPG at*
  dsimp only
  grind
 ·rw[Zba,Zn8 hao hu hj,Zcx,<-h.has,e,Zba,Zcu]
  have e1:va (jnPG a u).f t=va a.f t:=rfl
  have e2:va u.f t=va a.f t:=by rw[hj.1]
  rw[e1,e2]
  constructor
  ·rintro(h|⟨h|h,k⟩)
   ·exact .inl (.inl h)
   ·exact .inl (.inr ⟨h,k⟩)
   ·exact .inr ⟨h,k⟩
  ·rintro((h|⟨h,k⟩)|⟨h,k⟩)
   ·exact .inl h
   ·exact .inr ⟨.inl h,k⟩
   ·exact .inr ⟨.inr h,k⟩
 ·obtain⟨e1,e2⟩:=Zbc e'
  exact⟨done,u,rfl,by rw[<-e2];rfl,by rw[<-e2];rfl⟩
end
end Go.Vt
namespace Go.Vt
open Go.RowKit Go.Proofs
open Go.Proofs.Tryz (prog)
noncomputable def absQ (u:PU):GU Ri Int:=⟨ri u.In.From,ri u.In.To,u.In.OpenFrom,u.In.OpenTo,u.Label⟩
theorem hvaL (f g:Int)(t:Ri):Fv.va f t=Fv.va g t↔f=g:=Iff.rfl
theorem hrdL (f:Int)(t:Ri):Fv.red f t=f:=rfl
def bfI (i j:Za):Prop:=ri i.To<ri j.From\/(ri i.To=ri j.From/\(i.OpenTo=true\/j.OpenFrom=true))
theorem Zjd {u w:PU}:(absQ u).bfr (absQ w)↔bfI u.In w.In:=Iff.rfl
theorem ZjH {a u:PU}{K K':Nat}(ha:IvOk K a.In)(hu:IvOk K' u.In):jnB a u=true↔jnBG (absQ a) (absQ u):=by
 have e:=Zcm ha.b.o hu.a.o
 unfold jnB jnBG absQ
 dsimp only
 rw[Wq,Wq,decide_eq_true_eq,decide_eq_true_eq,e,Bool.not_eq_true',<-Bool.not_eq_true,Wq]
theorem Zl6 (ys:List PU)(a:PU):lstP (ys++[a])=a:=by
 unfold lstP
 rw[Zbb (by simp only[Wp,List.length_singleton];omega)]
 simp only[Wp,List.length_singleton]
 rw[List.getElem_append_right (by omega)]
 simp
theorem Zl2 (ys:List PU)(a x:PU):(ys++[a]).set (((ys++[a]).length:Int)-1).toNat x=ys++[x]:=by
 simp
theorem Zpe {l:List PU}{K:Nat}(hk:∀u∈l,IvOk K u.In)(hv:∀u∈l,okI u.In)(hp:l.Pairwise (fun u w=>bfI u.In w.In)):∀i,i<=l.length->JnI ((l.take i).map absQ) ((jnL l i).map absQ)/\∀u∈jnL l i,IvOk K u.In
 |0,_=>⟨JnI.nil,(fun u hu=>by cases hu)⟩
 |i+1,hi=>by
  obtain⟨ih,ihk⟩:=Zpe hk hv hp i (by omega)
  have hg:=Zr (xs:=l) (i:=i) (by omega)
  have hm:gi l (i:Int)∈l:=Zt (by omega)
  have huk:=hk _ hm
  have huo:(absQ (gi l (i:Int))).ok:=hv _ hm
  have hb:∀w∈(l.take i).map absQ,w.bfr (absQ (gi l (i:Int))):=fun w hw=>by
   obtain⟨x,hx,rfl⟩:=List.mem_map.1 hw
   obtain⟨j,hj,rfl⟩:=List.mem_take_iff_getElem.1 hx
   rw[hg]
   exact List.pairwise_iff_getElem.1 hp j i (by omega) (by omega) (by omega)
  rw[Wn (by omega),List.map_append,jnL,<-hg]
  generalize gi l (i:Int)=u at*
  generalize jnL l i=out at*
  rcases ZaM out with rfl|⟨ys,a,rfl⟩
  ·have e:jn1 [] u=[u]:=by unfold jn1;rw[if_neg (fun h=>by simp at h)];rfl
   rw[e]
   exact⟨ih.app hvaL hrdL huo hb (fun ys a h=>by simp at h),fun x hx=>by rw[Wo] at hx;rw[hx];exact huk⟩
  ·have hka:=ihk a (by simp)
   unfold jn1
   rw[Zl6]
   by_cases c:jnB a u=true
   ·rw[if_pos ⟨by simp,c⟩,Zl2,List.map_append]
    refine⟨ih.mrg hvaL hrdL huo hb (ys:=ys.map absQ) (a:=absQ a) (by simp) ((ZjH hka huk).1 c),fun x hx=>?_⟩
    rcases List.mem_append.1 hx with h1|h1
    ·exact ihk x (List.mem_append_left _ h1)
    ·rw[Wo] at h1
     rw[h1]
     exact⟨hka.a,huk.b⟩
   ·rw[if_neg (fun h=>c h.2),List.map_append]
    refine⟨ih.app hvaL hrdL huo hb (fun zs b h=>?_),fun x hx=>?_⟩
    ·rw[List.map_append] at h
     obtain⟨_,h2⟩:=Zbc h
     rw[<-h2]
     exact fun k=>c ((ZjH hka huk).2 k)
    ·rcases List.mem_append.1 hx with h1|h1
     ·exact ihk x h1
     ·rw[Wo] at h1;rw[h1];exact huk
structure CelB (p:List Za)(c:List Rl)(k:Nat):Prop where
 pw:(celS p c k).Pairwise bfI
 ok:∀i∈celS p c k,okI i
 up:k<c.length->∀i∈celS p c k,ri i.To<ri (gi c (k:Int))\/(ri i.To=ri (gi c (k:Int))/\i.OpenTo=true)
theorem ZfG {p:List Za}{n:Nat}{c:List Rl}(h:SrR n c):∀k,k<=c.length->CelB p c k
 |0,_=>⟨.nil,(fun i hi=>by cases hi),fun _ i hi=>by cases hi⟩
 |k+1,hk=>by
  have ih:=ZfG (p:=p) h k (by omega)
  have hup:=ih.up (by omega)
  have hI:(celI p c k (celS p c k)).Pairwise bfI/\(∀i∈celI p c k (celS p c k),okI i)/\∀i∈celI p c k (celS p c k),ri i.To<=ri (gi c (k:Int)):=by
   unfold celI
   split
   ·refine⟨List.pairwise_append.2 ⟨ih.pw,List.pairwise_singleton _ _,fun i hi j hj=>?_⟩,fun i hi=>?_,fun i hi=>?_⟩
    ·rw[List.mem_singleton.1 hj]
     rcases hup i hi with h1|⟨h1,h2⟩
     ·exact .inl h1
     ·exact .inr ⟨h1, .inl h2⟩
    ·rcases List.mem_append.1 hi with h1|h1
     ·exact ih.ok i h1
     ·rw[List.mem_singleton.1 h1];exact .inr ⟨rfl,rfl,rfl⟩
    ·rcases List.mem_append.1 hi with h1|h1
     ·rcases hup i h1 with h2|h2 <;> grind
     ·rw[List.mem_singleton.1 h1];show ri (gi c (k:Int))<=ri (gi c (k:Int));grind
   ·exact⟨ih.pw,ih.ok,fun i hi=>by rcases hup i hi with h2|h2 <;> grind⟩
  obtain⟨h1,h2,h3⟩:=hI
  have e:celS p c (k+1)=celJ p c k (celI p c k (celS p c k)):=rfl
  have hlt:k+1<c.length->ri (gi c (k:Int))<ri (gi c ((k+1:Nat):Int)):=fun h4=>h.at (Nat.lt_succ_self k) h4
  refine⟨?_, ?_,fun h4=>?_⟩ <;> rw[e] <;> unfold celJ
  ·split
   ·rename_i hc
    refine List.pairwise_append.2 ⟨h1,List.pairwise_singleton _ _,fun i hi j hj=>?_⟩
    rw[List.mem_singleton.1 hj]
    have:=h3 i hi
    show ri i.To<ri (gi c (k:Int))\/(ri i.To=ri (gi c (k:Int))/\(i.OpenTo=true\/true=true))
    grind
   ·exact h1
  ·split
   ·rename_i hc
    intro i hi
    rcases List.mem_append.1 hi with h5|h5
    ·exact h2 i h5
    ·rw[List.mem_singleton.1 h5];exact .inl (hlt hc.1)
   ·exact h2
  ·have h6:=hlt h4
   split
   ·intro i hi
    rcases List.mem_append.1 hi with h5|h5
    ·have:=h3 i h5;exact .inl (by grind)
    ·rw[List.mem_singleton.1 h5];exact .inr ⟨rfl,rfl⟩
   ·intro i hi
    have:=h3 i hi
    exact .inl (by grind)
theorem Zi4 {l:List St}{ins cs:List Za}:∀i,i<=cs.length->((mvS l ins cs i).map (·.In)).Sublist (cs.take i)
 |0,_=>Wk _
 |i+1,hi=>by
  have ih:=Zi4 (l:=l) (ins:=ins) i (by omega:i<=cs.length)
  rw[mvS,Wn (by omega),<-Zr (by omega)]
  unfold mv1
  split
  ·rw[List.map_append]
   exact ih.append (Wj _)
  ·exact ih.trans (List.sublist_append_left _ _)
theorem ZpV {l:List St}(hk:∀x∈l,StOk x):(celV l).Pairwise bfI/\∀i∈celV l,okI i:=by
 have hil:=ZcT l
 have hio:=Zb3 hk
 have hno:=ZeD hk
 have p3:CelIn (nrmS (insV l)) (enR (insV l)):=by
  have h1:=Zdv (insV l)
  have h2:=Zbt (insV l)
  exact⟨by omega,by omega,fun i hi=>(hno i hi).mono (by decide),(Zbd (fun i hi=>(hio i hi).mono (by decide))).b⟩
 have:=ZfG (p:=nrmS (insV l)) (ZeB p3) _ (Wl _)
 exact⟨this.pw,this.ok⟩
theorem Zf4 {l:List St}:∀u∈movU l,u.In∈celV l:=fun u hu=>ZdN _ (Wl _) u hu
structure NfP (l:List PU):Prop where
 nf:NF (l.map absQ)
 k:∀u∈l,IvOk 3 u.In
 len:l.length<=160
theorem Zke {l:List St}(hk:∀x∈l,StOk x):JnI ((movU l).map absQ) ((movV l).map absQ):=by
 have hc:=ZpV hk
 have hs:=Zi4 (l:=l) (ins:=insV l) (cs:=celV l) _ (Wl _)
 rw[List.take_length] at hs
 have hpw:(movU l).Pairwise (fun u w=>bfI u.In w.In):=List.pairwise_map.1 (hc.1.sublist hs)
 have:=(Zpe (l:=movU l) (K:=3) (fun u hu=>Zei hk _ (Zf4 u hu)) (fun u hu=>hc.2 _ (Zf4 u hu)) hpw _ (Wl _)).1
 rw[List.take_length] at this
 exact this
theorem ZiU {l:List St}(hk:∀x∈l,StOk x):NfP (movV l):=⟨(Zke hk).nf,Zpj hk,Znq l⟩
theorem ZdB {a:List Za}(hl:a.length<=1024)(hk:∀i∈a,IvOk B28 i):Sep (nrmS a)/\∀z,HoldP (nrmS a) z↔HoldP a z:=by
 obtain⟨h1,h2⟩:=Zhf 1 (a:=a) (b:=[]) ⟨hl,Wm _,hk,fun i hi=>by cases hi⟩
 refine⟨h1,fun z=>?_⟩
 rw[nrmS,h2 z]
 unfold dcdP HoldP
 simp
theorem ZiZ {K:Nat}{a:List Za}(h:∀i∈a,IvOk K i):∀i∈nrmS a,IvOk K i:=fun i hi=>by
 have:=ZcH (Pr:=RlB K) (fun i hi=>⟨(h i hi).a,(h i hi).b⟩) i hi
 exact⟨this.1,this.2⟩
end Go.Vt
/-
 DERIVED: THE SHELF's CONTRACTS AT THIS DUMP, IN PLAIN WORDS (tools/lay-plain.mjs out of 'YtcgkgdgpdpihmaaGreatDoorLaySi.lean', which tools/lay-shelf.mjs wrote): THE SAME DECLARATIONS UNDER THE SAME NAMES: 'import', 'namespace', 'open', 'def', 'theorem' AND NOTHING ELSE: no command of the shelf's: FOR A HAND-IN. Each laying: the table of numbers ('.._ren') and one theorem, a field a fact of the dump's own or the kernel's comparison; each contract: ONE APPLICATION.
-/
namespace Go.Proofs
open Go.Shelf
end Go.Proofs
namespace Go.Vt
open Go.RowKit Go.Proofs
open Go.Proofs.Tryz (prog)
section
abbrev inL (us:List PU):List Za:=mpN (fun u:PU=>u.In) us us.length
set_option maxHeartbeats 8000000 in
theorem Ze3 (v:Value)(us:List PU)(w:World)(hv:ArgS w v rP us)(hl:us.length<=1048576):
  Calls prog 20 [v].toArray w (RetM (SlS rI 20 (inL us)) (fun s=>vSl s) (fun s=>mS 37 s) w):=by
 obtain⟨p,cp,rfl⟩:=hv.form
 refine Zb Tryz.func20 rfl Tryz.ntmps20 rfl ?_
 repeat(refine wkB ?_;intros)
 refine Z2 (S:=SlS rI 20 (inL us)) (fun _=>True) (fun s=>[(3,vSl s)]) (fun s=>mS 37 s) ?_ (fun s _=>?_)
 ·refine Zp (S:=(_:Nat)×(o:List Za)×SlS rI 20 o) (fun q=>q.1<=us.length/\q.2.1=mpN (fun u:PU=>u.In) us q.1) (fun q=>[(0, .slice p us.length cp),(3,vSl q.2.2),(4, .int .i64 (q.1:Nat))]) (fun q=>mS 37 q.2.2) (fun q=>us.length-q.1) ⟨0,[],SlS.no⟩ ⟨Wm _,rfl⟩ sbB suB (fun q hq=>?_)
  obtain⟨m,out,s⟩:=q
  obtain⟨hq,ho⟩:=hq
  dsimp only at hq ho⊢
  have hlen:out.length=m:=by rw[ho];exact Zag _ us m
  have hend:m=us.length->out=inL us:=fun h=>by rw[ho,h]
  have hnxt:out++[(gi us (m:Int)).In]=mpN (fun u:PU=>u.In) us (m+1):=by rw[ho];rfl
  clear ho
  repeat(refine wkB ?_;intros)
  refine Zi rfl (fun h=>?_) (fun h=>?_)
  ·have hlt:m<us.length:=by have:=Wa h;omega
   obtain⟨bw,ow,rfl,hrow'⟩:=hv.opn (k:=20) hlt
   repeat(refine wkB ?_;intros)
   refine sU (k:=20) (enc:=rI) (s:=s) rfl rfl ?_ ?_ ?_ ?_
   ·rfl
   ·rfl
   ·exact⟨by decide,by omega,by omega⟩
   intro s'
   repeat(first|(refine wkB ?_;intros)|(refine wnM ?_ ?_;(focus(exact⟨by omega,by omega⟩));intros))
   exact Zf ⟨m+1,_,s'⟩ ⟨hlt,hnxt⟩ sbB suB (by show us.length-(m+1)<us.length-m;omega)
  ·have hge:m=us.length:=by have:=Wb h;omega
   obtain⟨s',f1,f2⟩:=SlS.turn 37 (hend hge) s
   repeat(refine wkB ?_;intros)
   exact Zg s' trivial (by rw[f1];exact sbB) (by rw[f2];exact suB)
 repeat(refine wkB ?_;intros)
 exact ZA rfl rfl (fun w hw=>⟨s,rfl,hw.sub suB⟩)
instance ZqE (w0:World)(L:List Blk)(v:Value)(us:List PU)[h:LstC w0 L v PU rP us]:SpecR prog w0 L 20 [v] (SlS rI 20 (inL us)) (fun s=>vSl s) (fun s=>mS 37 s) (us.length<=1048576):=⟨fun hp w hw=>Ze3 v us w (h.out w hw) hp⟩
noncomputable def atL (us:List PU)(t:Rl):Option Int:=(us.find? (fun u=>inB u.In t)).map (·.Label)
set_option maxHeartbeats 8000000 in
theorem Zow (v:Value)(us:List PU)(t:Zh)(w:World)(hv:ArgS w v rP us)(hl:us.length<=1048576)(hk:∀u∈us,IvOk B28 u.In)(ht:RtB t):
  Calls prog 24 [v,vR t].toArray w (Ret (.tuple #[.int .i64 ((atL us t).getD 0), .bool (atL us t).isSome]) w):=by
 have hav:=ArgC.mk hv
 obtain⟨p,cp,rfl⟩:=hv.form
 refine Zb Tryz.func24 rfl Tryz.ntmps24 rfl ?_
 repeat(refine wkB ?_;intros)
 rename_i b3
 refine Zp (S:=Nat) (fun i=>i<=us.length/\(us.drop i).find? (fun u=>inB u.In t)=us.find? (fun u=>inB u.In t)) (fun i=>[(0, .slice p us.length cp),(3, .pointer (some ⟨b3,0,none⟩)),(6, .int .i64 (i:Nat))]) (fun _=>[⟨b3,Zd (Ze t),35⟩]) (fun i=>us.length-i) 0 ⟨Wm _,rfl⟩ sbB slB (fun i hi=>?_)
 obtain⟨hi,hd⟩:=hi
 repeat(refine wkB ?_;intros)
 refine Zi rfl (fun h=>?_) (fun h=>?_)
 ·have hlt:i<us.length:=by have:=Wa h;omega
  obtain⟨bw,ow,rfl,hrow'⟩:=hv.opn (k:=20) hlt
  have q1:IvOk B28 (gi us (i:Int)).In/\RtB t:=⟨hk _ (Zt (by omega)),ht⟩
  rw[List.drop_eq_getElem_cons hlt,List.find?_cons,<-Zr hlt] at hd
  repeat(refine wkB ?_;intros)
  (refine jD 7 7 (h:=?_);(repeat(first|refine wkH ?_|(refine tC rfl rfl ?_ ?_;focus(exact q1))));refine Zo ?_;(repeat(refine ZZ ?_;intro _));refine Zq ?_)
  repeat(refine wkB ?_;intros)
  cases c:inB (gi us (i:Int)).In t with
  |true=>
   rw[c] at hd
   have e:atL us t=some (gi us (i:Int)).Label:=by unfold atL;rw[<-hd];rfl
   rw[e]
   repeat(refine wkB ?_;intros)
   exact ZF rfl (Zx rfl) (Zx rfl) (fun w hw=>ZS hw)
  |false=>
   rw[c] at hd
   repeat(first|(refine wkB ?_;intros)|(refine wnM ?_ ?_;(focus(exact⟨by omega,by omega⟩));intros))
   exact Zf (i+1) ⟨hlt,hd⟩ sbB slB (by omega)
 ·have hge:i=us.length:=by have:=Wb h;omega
  rw[hge,List.drop_length] at hd
  have e:atL us t=none:=by unfold atL;rw[<-hd];rfl
  rw[e]
  repeat(refine wkB ?_;intros)
  exact ZF rfl (Zx rfl) (Zx rfl) (fun w hw=>ZS hw)
instance ZzJ (w0:World)(L:List Blk)(v:Value)(us:List PU)(t:Zh)[h:LstC w0 L v PU rP us]:SpecM prog w0 L 24 [v,vR t] (.tuple #[.int .i64 ((atL us t).getD 0), .bool (atL us t).isSome]) (us.length<=1048576/\(∀u∈us,IvOk B28 u.In)/\RtB t):=⟨fun hp w hw=>Zow v us t w (h.out w hw) hp.1 hp.2.1 hp.2.2⟩
end
section
structure ShP (l:List PU):Prop where
 n:l.length<=160
 k:∀u∈l,IvOk 3 u.In
abbrev allL (a b:List PU):List Za:=inL a++inL b
noncomputable def celL (a b:List PU):List Za:=celR (nrmS (allL a b)) (enR (allL a b))
theorem ZeY {l:List PU}(h:ShP l):(∀i∈inL l,IvOk 3 i)/\(inL l).length=l.length:=by
 unfold inL
 refine⟨fun i hi=>?_,Zag _ _ _⟩
 rw[Zaz] at hi
 obtain⟨u,h1,rfl⟩:=List.mem_map.1 hi
 exact h.k u h1
theorem ZbK {a b:List PU}(ha:ShP a)(hb:ShP b):(∀i∈allL a b,IvOk 3 i)/\(allL a b).length<=320:=by
 have h1:=ZeY ha
 have h2:=ZeY hb
 have:=ha.n
 have:=hb.n
 refine⟨fun i hi=>(List.mem_append.1 hi).elim (h1.1 i) (h2.1 i), ?_⟩
 rw[Wp]
 omega
theorem ZfU {a b:List PU}(ha:ShP a)(hb:ShP b)(hn:(nrmS (allL a b)).length<=1024):CelIn (nrmS (allL a b)) (enR (allL a b)):=by
 obtain⟨h1,h2⟩:=ZbK ha hb
 have h3:=Zbt (allL a b)
 exact⟨hn,by omega,fun i hi=>(ZiZ h1 i hi).mono (by decide),(Zbd (fun i hi=>(h1 i hi).mono (by decide))).b⟩
theorem Zjq {a b:List PU}(ha:ShP a)(hb:ShP b):∀i∈celL a b,IvOk 3 i:=fun i hi=>by
 obtain⟨h1,h2⟩:=ZbK ha hb
 have h3:∀i∈allL a b,RlB 3 i.From/\RlB 3 i.To:=fun i hi=>⟨(h1 i hi).a,(h1 i hi).b⟩
 have:=Zhb (Pr:=RlB 3) (ZcH h3) (Zfb h3) i hi
 exact⟨this.1,this.2⟩
theorem ZhM {a b:List PU}(ha:ShP a)(hb:ShP b)(hn:(nrmS (allL a b)).length<=1024):(celL a b).length<=8192:=by
 have h2:=(ZbK ha hb).2
 have h3:=Zbt (allL a b)
 have h4:=Zic (nrmS (allL a b)) (enR (allL a b))
 unfold celL
 omega
set_option maxHeartbeats 8000000 in
theorem Zip (v1 v2:Value)(a b:List PU)(w:World)(hv1:ArgS w v1 rP a)(hv2:ArgS w v2 rP b)(ha:ShP a)(hb:ShP b)(hn:(nrmS (allL a b)).length<=1024):
  Calls prog 23 [v1,v2].toArray w (RetM (SlS rI 20 (celL a b)) (fun q=>vSl q) (fun q=>mS 37 q) w):=by
 have:=ArgC.mk hv1
 have:=ArgC.mk hv2
 have hna:=ha.n
 have hnb:=hb.n
 have hla:=(ZeY ha).2
 have hlb:=(ZeY hb).2
 have hall:=ZbK ha hb
 have p1:a.length<=1048576:=by omega
 have p2:b.length<=1048576:=by omega
 have p3:(allL a b).length<=1024/\∀i∈allL a b,IvOk B28 i:=⟨by omega,fun i hi=>(hall.1 i hi).mono (by decide)⟩
 have p4:(allL a b).length<=65536/\∀i∈allL a b,IvOk B28 i:=⟨by omega,p3.2⟩
 have p5:=ZfU ha hb hn
 refine Zb Tryz.func23 rfl Tryz.ntmps23 rfl ?_
 repeat(first|(refine wkB ?_;intros)|(refine wnM ?_ ?_;(focus(first|exact p1|exact p2));intros))
 refine sV rfl rfl ?_ ?_ ?_
 ·rfl
 ·exact⟨by omega,by omega⟩
 intro s3
 repeat(first|(refine wkB ?_;intros)|(refine wnM ?_ ?_;(focus(first|exact p3|exact p4|exact p5));intros))
 rename_i s4
 exact ZA rfl rfl (fun w hw=>⟨s4,rfl,hw.sub suB⟩)
instance ZvE (w0:World)(L:List Blk)(v1 v2:Value)(a b:List PU)[h1:LstC w0 L v1 PU rP a][h2:LstC w0 L v2 PU rP b]:SpecR prog w0 L 23 [v1,v2] (SlS rI 20 (celL a b)) (fun q=>vSl q) (fun q=>mS 37 q) ((ShP a/\ShP b)/\(nrmS (allL a b)).length<=1024):=⟨fun hp w hw=>Zip v1 v2 a b w (h1.out w hw) (h2.out w hw) hp.1.1 hp.1.2 hp.2⟩
end
section
theorem ZrK {i:Za}(h:okI i):∃t,memI i t:=GU.ok.pt (u:=absI i) h
theorem Zg7 {l:List PU}{z:Ri}:HoldP (inL l) z↔∃u∈l,memI u.In z:=by
 unfold HoldP inL
 rw[Zaz]
 constructor
 ·rintro⟨i,h1,h2⟩
  obtain⟨u,h3,rfl⟩:=List.mem_map.1 h1
  exact⟨u,h3,h2⟩
 ·rintro⟨u,h1,h2⟩
  exact⟨_,List.mem_map.2 ⟨u,h1,rfl⟩,h2⟩
end
section
noncomputable def memB (i:Za)(z:Ri):Bool:= @decide (memI i z) (Classical.propDecidable _)
theorem ZcB {i:Za}{z:Ri}:memB i z=true↔memI i z:=by unfold memB;exact @decide_eq_true_iff _ (Classical.propDecidable _)
noncomputable def vlA (l:List PU)(z:Ri):Option Int:=(l.find? (fun u=>memB u.In z)).map (·.Label)
theorem ZjO (l:List PU)(t:Rl):atL l t=vlA l (ri t):=by
 unfold atL vlA
 congr 2
 funext u
 rw[Bool.eq_iff_iff,ZcB]
 exact Zeh
theorem ZdV {z z':Ri}:∀{l:List PU},(∀u∈l,memI u.In z↔memI u.In z')->vlA l z=vlA l z'
 |[],_=>rfl
 |u::l,h=>by
  have ih:=ZdV (l:=l) (fun u hu=>h u (.tail _ hu))
  unfold vlA at ih⊢
  rw[List.find?_cons,List.find?_cons,show memB u.In z=memB u.In z' by rw[Bool.eq_iff_iff,ZcB,ZcB];exact h u (.head _)]
  split
  ·rfl
  ·exact ih
theorem ZeU {l:List PU}{z:Ri}{x:Int}(h:vlA l z=some x):∃u∈l,memI u.In z/\u.Label=x:=by
 unfold vlA at h
 rw[Option.map_eq_some_iff] at h
 obtain⟨u,h1,h2⟩:=h
 exact⟨u,List.mem_of_find?_eq_some h1,ZcB.1 (by have:=List.find?_some h1;exact this),h2⟩
theorem ZmQ {l:List PU}{z:Ri}(h:∃u∈l,memI u.In z):∃x,vlA l z=some x:=by
 obtain⟨u,h1,h2⟩:=h
 cases e:vlA l z with
 |some x=>exact⟨x,rfl⟩
 |none=>
  unfold vlA at e
  rw[Option.map_eq_none_iff,List.find?_eq_none] at e
  exact absurd (ZcB.2 h2) (e u h1)
theorem ZrL {l:List PU}(h:l.Pairwise (fun u w=>bfI u.In w.In)){u w:PU}(hu:u∈l)(hw:w∈l){t:Ri}(h1:memI u.In t)(h2:memI w.In t):u=w:=by
 rcases Zfs h u hu w hw with e|e|e
 ·exact e
 ·exact((Zjd.2 e).dis (t:=t) h1 h2).elim
 ·exact((Zjd.2 e).dis (t:=t) h2 h1).elim
theorem Zqy {l:List PU}(h:l.Pairwise (fun u w=>bfI u.In w.In)){z:Ri}{x:Int}:vlA l z=some x↔Has (l.map absQ) z x:=by
 constructor
 ·intro e
  obtain⟨u,h1,h2,h3⟩:=ZeU e
  exact⟨absQ u,List.mem_map_of_mem h1,h2,h3⟩
 ·rintro⟨u,hu,h1,h2⟩
  obtain⟨w,hw,rfl⟩:=List.mem_map.1 hu
  obtain⟨y,hy⟩:=ZmQ ⟨w,hw,h1⟩
  obtain⟨w',hw',h3,h4⟩:=ZeU hy
  have e:=ZrL h hw hw' h1 h3
  rw[hy,<-h4,<-e]
  exact congrArg some h2
theorem ZbH {p:List Za}{c:List Rl}{i:Za}:∀n,n<=c.length->(i∈celS p c n↔∃k,k<n/\((hlB p (gi c (k:Int))=true/\i=⟨gi c (k:Int),gi c (k:Int),false,false⟩)\/(k+1<c.length/\spB p (gi c (k:Int)) (gi c ((k+1:Nat):Int))=true/\i=⟨gi c (k:Int),gi c ((k+1:Nat):Int),true,true⟩)))
 |0,_=>⟨(fun h=>by cases h),fun⟨k,h,_⟩=>by omega⟩
 |n+1,hn=>by
  have ih:=ZbH (p:=p) (c:=c) (i:=i) n (by omega)
  have hI:i∈celI p c n (celS p c n)↔i∈celS p c n\/(hlB p (gi c (n:Int))=true/\i=⟨gi c (n:Int),gi c (n:Int),false,false⟩):=by
   unfold celI
   split
   ·rename_i h
    rw[Wv,Wo]
    exact⟨fun h1=>h1.imp id fun h2=>⟨h,h2⟩,fun h1=>h1.imp id (·.2)⟩
   ·rename_i h
    exact⟨.inl,fun h1=>h1.elim id fun h2=>(h h2.1).elim⟩
  have hJ:i∈celS p c (n+1)↔i∈celI p c n (celS p c n)\/(n+1<c.length/\spB p (gi c (n:Int)) (gi c ((n+1:Nat):Int))=true/\i=⟨gi c (n:Int),gi c ((n+1:Nat):Int),true,true⟩):=by
   show i∈celJ p c n (celI p c n (celS p c n))↔_
   unfold celJ
   split
   ·rename_i h
    rw[Wv,Wo]
    exact⟨fun h1=>h1.imp id fun h2=>⟨h.1,h.2,h2⟩,fun h1=>h1.imp id (·.2.2)⟩
   ·rename_i h
    exact⟨.inl,fun h1=>h1.elim id fun h2=>(h ⟨h2.1,h2.2.1⟩).elim⟩
  rw[hJ,hI,ih]
  constructor
  ·rintro((⟨k,h1,h2⟩|h)|h)
   ·exact⟨k,by omega,h2⟩
   ·exact⟨n,by omega, .inl h⟩
   ·exact⟨n,by omega, .inr h⟩
  ·rintro⟨k,h1,h2⟩
   rcases(by omega:k<n\/k=n) with h3|rfl
   ·exact .inl (.inl ⟨k,h3,h2⟩)
   ·rcases h2 with h2|h2
    ·exact .inl (.inr h2)
    ·exact .inr h2
theorem Zg6 {c:List Rl}{z:Ri}(h0:ri (gi c ((0:Nat):Int))<=z):∀n,0<n->n<=c.length->∃k,k<n/\ri (gi c (k:Int))<=z/\(k+1<n->z<ri (gi c ((k+1:Nat):Int)))
 |0,h,_=>by omega
 |n+1,_,hn=>by
  by_cases hz:n=0
  ·subst hz;exact⟨0,by omega,h0,fun h=>by omega⟩
  obtain⟨k,h1,h2,h3⟩:=Zg6 h0 n (by omega) (by omega)
  rcases(by omega:k+1<n\/k+1=n) with h4|h4
  ·exact⟨k,by omega,h2,fun _=>h3 h4⟩
  ·by_cases h5:ri (gi c (n:Int))<=z
   ·exact⟨n,by omega,h5,fun h=>by omega⟩
   ·exact⟨k,by omega,h2,fun _=>by rw[h4];grind⟩
theorem Zgn {p:List Za}{c:List Rl}{n:Nat}(h:SrR n c)(hm:∀i∈p,i.From∈c/\i.To∈c){z:Ri}(hz:HoldP p z):∃i∈celS p c c.length,memI i z:=by
 have hz0:=hz
 obtain⟨j,hj,hz⟩:=hz
 obtain⟨m1,m2⟩:=hm j hj
 have f1:=h.fst m1
 have hlen:0<c.length:=List.length_pos_of_mem m1
 have hz1:ri j.From<=z/\z<=ri j.To:=by unfold memI at hz;grind
 obtain⟨k,h1,h2,h3⟩:=Zg6 (c:=c) (z:=z) (by grind) c.length hlen (Wl _)
 by_cases e:ri (gi c (k:Int))=z
 ·refine⟨⟨gi c (k:Int),gi c (k:Int),false,false⟩,(ZbH _ (Wl _)).2 ⟨k,h1, .inl ⟨Zez.2 (by rw[e];exact hz0),rfl⟩⟩, .inr ⟨e,rfl⟩, .inr ⟨e.symm,rfl⟩⟩
 ·have hlt:ri (gi c (k:Int))<z:=by grind
  have hk:k+1<c.length:=by
   rcases(by omega:k+1<c.length\/k+1=c.length) with h4|h4
   ·exact h4
   ·have:=h.lst h4 m2
    grind
  have h5:=h3 hk
  exact⟨⟨gi c (k:Int),gi c ((k+1:Nat):Int),true,true⟩,(ZbH _ (Wl _)).2 ⟨k,h1, .inr ⟨hk,(Zdl h hm hk hlt h5).2 hz0,rfl⟩⟩, .inl hlt, .inl h5⟩
theorem ZjE {p:List Za}{c:List Rl}{n:Nat}(h:SrR n c){i j:Za}(hi:i∈celS p c c.length)(hj:j.From∈c/\j.To∈c){z z':Ri}(hz:memI i z)(hz':memI i z'):memI j z↔memI j z':=by
 obtain⟨k,hk,⟨_,rfl⟩|⟨hk1,_,rfl⟩⟩:=(ZbH _ (Wl _)).1 hi
 ·unfold memI at hz hz'
  dsimp only at hz hz'
  have:z=z':=by grind
  rw[this]
 ·have e1:=h.mid hk1 hj.1
  have e2:=h.mid hk1 hj.2
  unfold memI at hz hz'⊢
  dsimp only at hz hz'
  grind
theorem Zrc {p:List Za}{c:List Rl}{n:Nat}(h:SrR n c)(hD:∀x∈c,Dsc x){i:Za}(hi:i∈celS p c c.length):memI i (ri (midR i)):=by
 obtain⟨k,hk,⟨_,rfl⟩|⟨hk1,_,rfl⟩⟩:=(ZbH _ (Wl _)).1 hi
 ·have:=(ZjY (c:=⟨gi c (k:Int),gi c (k:Int),false,false⟩) (hD _ (Zt (by omega))) (hD _ (Zt (by omega)))).1 rfl
  rw[this]
  exact⟨.inr ⟨rfl,rfl⟩, .inr ⟨rfl,rfl⟩⟩
 ·have:=(ZjY (c:=⟨gi c (k:Int),gi c ((k+1:Nat):Int),true,true⟩) (hD _ (Zt (by omega))) (hD _ (Zt (by omega)))).2 (h.at (Nat.lt_succ_self k) hk1)
  exact⟨.inl this.1, .inl this.2⟩
end
section
theorem Zkd {R:Rl->Rl->Prop}(hR:∀x,¬R x x):∀{ys xs:List Rl},ys.Pairwise R->(∀y∈ys,y∈xs)->ys.length<=xs.length
 |[],_,_,_=>Wm _
 |y::ys,xs,h,k=>by
  obtain⟨h1,h2⟩:=List.pairwise_cons.1 h
  have ih:=Zkd hR (ys:=ys) (xs:=xs.erase y) h2 (fun z hz=>(List.mem_erase_of_ne (fun e=>hR y (by have:=h1 z hz;rwa [e] at this))).2 (k z (.tail _ hz)))
  have hm:=k y (.head _)
  have hl:=List.length_erase_of_mem hm
  have hp:=List.length_pos_of_mem hm
  rw[Wu]
  omega
theorem ZlU {l:List Za}(hl:l.length<=1024)(hk:∀i∈l,IvOk B28 i):(nrmS l).length<=2*l.length:=by
 have h1:=(ZdB hl hk).1
 have h2:∀i∈nrmS l,i.From∈enR l/\i.To∈enR l:=ZcH (Pr:=fun x=>x∈enR l) fun i hi=>⟨(ZbM hk).2 ⟨i,hi, .inl rfl⟩,(ZbM hk).2 ⟨i,hi, .inr rfl⟩⟩
 have h3:((nrmS l).map (·.From)).Pairwise (fun x y=>ri x<ri y):=by
  rw[List.pairwise_map]
  refine h1.p.imp_of_mem fun {i j} hi hj hb=>?_
  have hv:=h1.v i hi
  unfold bLt bdL bdF at hb hv
  dsimp only at hb hv
  rcases hb with hb|⟨hb,b1,b2⟩ <;> rcases hv with hv|⟨hv,b3,b4⟩
  ·grind
  ·grind
  ·grind
  ·rw[b4] at b1;cases b1
 have h4:=Zkd (fun x (h:ri x<ri x)=>by grind) h3 (xs:=enR l) (fun y hy=>by
  obtain⟨i,hi,rfl⟩:=List.mem_map.1 hy
  exact(h2 i hi).1)
 have h5:=Zbt l
 rw[Ws] at h4
 omega
theorem Ze4 {a b:List PU}(ha:ShP a)(hb:ShP b):(nrmS (allL a b)).length<=1024:=by
 obtain⟨h1,h2⟩:=ZbK ha hb
 have:=ZlU (l:=allL a b) (by omega) (fun i hi=>(h1 i hi).mono (by decide))
 omega
def DscL (l:List PU):Prop:=∀u∈l,Dsc u.In.From/\Dsc u.In.To
noncomputable def ctL (a b:List PU):List Rl:=cutR (nrmS (allL a b)) (enR (allL a b))
theorem ZhV (a b:List PU):celL a b=celS (nrmS (allL a b)) (ctL a b) (ctL a b).length:=rfl
theorem ZeN {a b:List PU}{u:PU}(h:u∈a\/u∈b):u.In∈allL a b:=by
 unfold allL inL
 rw[Wv,Zaz,Zaz]
 exact h.imp (fun h=>List.mem_map_of_mem h) (fun h=>List.mem_map_of_mem h)
structure LfP (a b:List PU):Prop where
 sa:ShP a
 sb:ShP b
 da:DscL a
 db:DscL b
theorem LfP.bk {a b:List PU}(h:LfP a b):∀i∈allL a b,IvOk B28 i:=fun i hi=>((ZbK h.sa h.sb).1 i hi).mono (by decide)
theorem LfP.dk {a b:List PU}(h:LfP a b):∀i∈allL a b,Dsc i.From/\Dsc i.To:=fun i hi=>by
 unfold allL inL at hi
 rw[Wv,Zaz,Zaz,List.mem_map,List.mem_map] at hi
 rcases hi with⟨u,h1,rfl⟩|⟨u,h1,rfl⟩
 ·exact h.da u h1
 ·exact h.db u h1
theorem LfP.sr {a b:List PU}(h:LfP a b):SrR (enR (allL a b)++enR (nrmS (allL a b))).length (ctL a b):=ZeB (ZfU h.sa h.sb (Ze4 h.sa h.sb))
theorem LfP.mem {a b:List PU}(h:LfP a b){x:Rl}:x∈ctL a b↔(∃i∈allL a b,x=i.From\/x=i.To)\/∃i∈nrmS (allL a b),x=i.From\/x=i.To:=by
 have hc:=ZfU h.sa h.sb (Ze4 h.sa h.sb)
 have hn:∀i∈nrmS (allL a b),IvOk B28 i:=ZiZ h.bk
 have h2:=(Zbd h.bk).b
 have h3:=(Zbd hn).b
 unfold ctL cutR
 rw[ZdH (fun x hx=>(List.mem_append.1 hx).elim (h2 x) (h3 x)) _ (Wl _),List.take_length,Wv,ZbM h.bk,ZbM hn]
theorem LfP.pc {a b:List PU}(h:LfP a b):∀i∈nrmS (allL a b),i.From∈ctL a b/\i.To∈ctL a b:=fun i hi=>⟨h.mem.2 (.inr ⟨i,hi, .inl rfl⟩),h.mem.2 (.inr ⟨i,hi, .inr rfl⟩)⟩
theorem LfP.uc {a b:List PU}(h:LfP a b){u:PU}(hu:u∈a\/u∈b):u.In.From∈ctL a b/\u.In.To∈ctL a b:=⟨h.mem.2 (.inl ⟨_,ZeN hu, .inl rfl⟩),h.mem.2 (.inl ⟨_,ZeN hu, .inr rfl⟩)⟩
theorem LfP.dc {a b:List PU}(h:LfP a b):∀x∈ctL a b,Dsc x:=fun x hx=>by
 have hn:∀i∈nrmS (allL a b),Dsc i.From/\Dsc i.To:=ZcH h.dk
 rcases h.mem.1 hx with⟨i,h1,rfl|rfl⟩|⟨i,h1,rfl|rfl⟩
 ·exact(h.dk i h1).1
 ·exact(h.dk i h1).2
 ·exact(hn i h1).1
 ·exact(hn i h1).2
theorem LfP.at {a b:List PU}(h:LfP a b){i:Za}(hi:i∈celL a b){z:Ri}(hz:memI i z):atL a (midR i)=vlA a z/\atL b (midR i)=vlA b z:=by
 rw[ZhV] at hi
 have hm:=Zrc h.sr h.dc hi
 rw[ZjO,ZjO]
 exact⟨ZdV fun u hu=>ZjE h.sr hi (h.uc (.inl hu)) hm hz,ZdV fun u hu=>ZjE h.sr hi (h.uc (.inr hu)) hm hz⟩
theorem LfP.cov {a b:List PU}(h:LfP a b){z:Ri}(hz:∃u,(u∈a\/u∈b)/\memI u.In z):∃i∈celL a b,memI i z:=by
 obtain⟨u,h1,h2⟩:=hz
 rw[ZhV]
 exact Zgn h.sr h.pc (((ZdB (by have:=(ZbK h.sa h.sb).2;omega) h.bk).2 z).2 ⟨_,ZeN h1,h2⟩)
end
section
abbrev Lb (x:Int):Prop:= -1000<=x/\x<=1000
end
section
def PwU (l:List UL):Prop:=l.Pairwise (fun u w=>bfI u.In w.In)
theorem ZnX {us:List UL}(ho:∀u∈us,okI u.In)(hp:PwU us):NoTie us:=fun x hx y hy h1 h2=>by
 have key:∀u w:UL,okI u.In->okI w.In->bfI u.In w.In->leS u w->leS w u->False:=fun u w hu hw hb h1 h2=>by
  unfold leS opn at h1 h2
  unfold bfI at hb
  unfold okI at hu hw
  rcases hf:u.In.OpenFrom <;> rcases hg:w.In.OpenFrom <;> rw[hf] at h1 h2 hu <;> rw[hg] at h1 h2 hb hw <;> simp only[Bool.false_eq_true,if_false,if_true] at h1 h2 <;> grind
 rcases Zfs hp x hx y hy with e|e|e
 ·exact e
 ·exact(key x y (ho x hx) (ho y hy) e h1 h2).elim
 ·exact(key y x (ho y hy) (ho x hx) e h2 h1).elim
end
section
theorem pwQ {l:List PU}(h:NF (l.map absQ)):l.Pairwise (fun u w=>bfI u.In w.In):=(List.pairwise_map.1 h.pw).imp fun e=>e.bf
theorem Zhu {l m:List PU}{K K':Nat}(hl:∀u∈l,IvOk K u.In)(hm:∀u∈m,IvOk K' u.In)(h:l.map absQ=m.map absQ):l=m:=by
 have h1:l.map toU=m.map toU:=ZeM (K:=K) (K':=K') (fun u hu=>by obtain⟨w,hw,rfl⟩:=List.mem_map.1 hu;exact hl w hw) (fun u hu=>by obtain⟨w,hw,rfl⟩:=List.mem_map.1 hu;exact hm w hw) (by rw[List.map_map,List.map_map];exact h)
 have h2:=congrArg (List.map ofU) h1
 rw[List.map_map,List.map_map] at h2
 have e:ofU ∘ toU=id:=funext fun u=>rfl
 rw[e,List.map_id,List.map_id] at h2
 exact h2
theorem ZjZ (X:List UL):(mpN ofU X X.length).map absQ=X.map absU:=by
 rw[Zaz,List.map_map]
 rfl
structure MvP (l:List PU):Prop where
 nf:NfP l
 d:DscL l
 f:∀u∈l,Lb u.Label
theorem MvP.sh {l:List PU}(h:MvP l):ShP l:=⟨h.nf.len,h.nf.k⟩
theorem MvP.pw {l:List PU}(h:MvP l):l.Pairwise (fun u w=>bfI u.In w.In):=pwQ h.nf.nf
theorem MvP.lf {a b:List PU}(ha:MvP a)(hb:MvP b):LfP a b:=⟨ha.sh,hb.sh,ha.d,hb.d⟩
theorem MvP.nil :MvP []:=⟨⟨NF.nil,(fun _ h=>by cases h),Wm _⟩,(fun _ h=>by cases h),(fun _ h=>by cases h)⟩
end
end Go.Vt
