/- For any up to 12 units whose ends have up to 20 bytes, and for any decoded moving label (up to 8 stretches), Check returns OK or the first error. Conditions: none. (part 24 of 28.) Conditions: those that each statement names. -/
import Derived.Shelf.SortM.Plain
import Derived.Shelf.SortM.SortNone
import Derived.Ground.SlgmProg
import Derived.Test.YtcgkgdgpdpihmaaGreatDoorProg
import Derived.Test.YtcgkgdgpdpihmaaGreatDoorKC10
import Derived.Test.YtcgkgdgpdpihmaaGreatDoorKC11
import Derived.Test.YtcgkgdgpdpihmaaGreatDoorKC15
import Derived.Test.YtcgkgdgpdpihmaaGreatDoorKC16
import Derived.Test.YtcgkgdgpdpihmaaGreatDoorKC19
import Derived.Test.YtcgkgdgpdpihmaaGreatDoorKC20
import Derived.Test.YtcgkgdgpdpihmaaGreatDoorKC21
import Derived.Test.YtcgkgdgpdpihmaaGreatDoorKC23
set_option linter.unusedSimpArgs false
set_option linter.unusedVariables false
set_option maxHeartbeats 2000000
set_option maxRecDepth 100000
set_option linter.unusedSectionVars false
namespace Go.Vt
open Go.RowKit Go.Proofs
open Go.Proofs.Tryz (prog)
section
def cmL (xs:List Int):Nat->List Int
 |0=>[]
 |j+1=>if 0<j/\gi xs (j:Int)=gi xs ((j-1:Nat):Int) then cmL xs j else cmL xs j++[gi xs (j:Int)]
def cmI' (xs:List Int):List Int:=cmL xs xs.length
theorem Zkq (xs:List Int):∀j,0<j->cmL xs j≠[]
 |0,h=>absurd h (Nat.lt_irrefl _)
 |j+1,_=>by
  rw[cmL]
  split
  ·rename_i h;exact Zkq xs j h.1
  ·simp
theorem ZqL {xs:List Int}{z:Int}:∀j,j<=xs.length->(z∈cmL xs j↔z∈xs.take j)
 |0,_=>by simp[cmL]
 |j+1,h=>by
  have ih:=ZqL (xs:=xs) (z:=z) j (by omega)
  have ht:xs.take (j+1)=xs.take j++[gi xs (j:Int)]:=by rw[Wn h,Zw h]
  rw[cmL,ht]
  split
  ·rename_i hc
   rw[ih,Wv]
   constructor
   ·exact .inl
   ·rintro(h1|h1)
    ·exact h1
    ·rw[Wo] at h1
     rw[h1,hc.2,Zw (by omega)]
     exact List.mem_take_iff_getElem.2 ⟨j-1,by omega,rfl⟩
  ·rw[Wv,Wv,ih]
structure CmQ (xs:List Int)(k i:Nat)(ys:List Int):Prop where
 ki:k<i
 k0:0<k
 im:i<=xs.length
 len:ys.length=xs.length
 tk:ys.take k=cmL xs i
 eq:∀j:Nat,i-1<=j->j<xs.length->gi ys (j:Int)=gi xs (j:Int)
theorem CmQ.skip {xs ys:List Int}{k i:Nat}(h:CmQ xs k i ys)(hi:i<xs.length)(he:gi xs (i:Int)=gi xs ((i-1:Nat):Int)):CmQ xs k (i+1) ys:=
 ⟨by have:=h.ki;omega,h.k0,hi,h.len,by rw[cmL,if_pos ⟨by have:=h.ki;omega,he⟩];exact h.tk,fun j h1 h2=>h.eq j (by omega) h2⟩
theorem CmQ.keep {xs ys:List Int}{k i:Nat}(h:CmQ xs k i ys)(hi:i<xs.length)(he:gi xs (i:Int)≠gi xs ((i-1:Nat):Int)):CmQ xs (k+1) (i+1) (ys.set k (gi xs (i:Int))):=by
 have hk:=h.ki
 have hl:=h.len
 refine⟨by omega,by omega,hi,by rw[List.length_set];exact hl, ?_,fun j h1 h2=>?_⟩
 ·rw[cmL,if_neg (fun hc=>he hc.2),<-h.tk,Wn (by rw[List.length_set];omega),List.take_set_of_le (Wl k)]
  simp
 ·rw[Zw (by rw[List.length_set];omega),List.getElem_set_ne (by omega),<-Zw (by omega)]
  exact h.eq j (by omega) h2
theorem Zer {xs:List Int}:∀{m:Nat},m<=xs.length->(∀j:Nat,0<j->j<m->gi xs (j:Int)≠gi xs ((j-1:Nat):Int))->cmL xs m=xs.take m
 |0,_,_=>rfl
 |m+1,hm,h=>by
  rw[cmL,if_neg (fun hc=>h m hc.1 (Nat.lt_succ_self m) hc.2),Zer (by omega) (fun j h1 h2=>h j h1 (by omega)),Wn hm,Zw hm]
theorem CmQ.start {xs:List Int}{k:Nat}(hk:0<k)(hm:k<xs.length)(he:gi xs (k:Int)=gi xs ((k-1:Nat):Int))(h:∀j:Nat,0<j->j<k->gi xs (j:Int)≠gi xs ((j-1:Nat):Int)):CmQ xs k (k+1) xs:=
 ⟨Nat.lt_succ_self _,hk,hm,rfl,by rw[cmL,if_pos ⟨hk,he⟩,Zer (Nat.le_of_lt hm) h],fun _ _ _=>rfl⟩
set_option maxHeartbeats 8000000 in
theorem ZgO (w0 w:World)(L L1:List Blk)(xs:List Int)(s:SlS (eI .i64) 1 xs)[hd:OwnS 3 s L L1](hl:xs.length<=1048576)(hw:Own w0 L w):
  Calls prog 85 [vSl s].toArray w (RetX w0 (SlS (eI .i64) 1 (cmI' xs)) (fun s=>vSl s) (fun s=>mS 3 s++L1)):=by
 have hw1:=hw.perm hd.out
 refine Zaj Tryz.func85 rfl Tryz.ntmps85 rfl hw1 ?_
 repeat(refine wkB ?_;intros)
 by_cases h2:xs.length<2
 ·simp only[Wc (show(xs.length:Int)<2 by omega)]
  have e:cmI' xs=xs:=by
   unfold cmI'
   rw[Zer (Wl _) (fun j h1 h3=>by omega),List.take_length]
  obtain⟨s',e1,e2⟩:=SlS.turn 3 e.symm s
  repeat(refine wkB ?_;intros)
  exact ZB rfl rfl (fun w hw=>⟨s',by show Ending.returned (vSl s)=Ending.returned (vSl s');rw[e1],by show Own w0 (mS _ s'++L1) w;rw[e2];exact hw⟩)
 simp only[We (show¬(xs.length:Int)<2 by omega)]
 rcases s.cases 3 with⟨x0, -, -⟩|⟨bs,c,sp,h1,hv,hmS,hne⟩
 ·rw[x0] at h2
  simp at h2
 simp only[hv,hmS,Wf,Wg]
 repeat(refine wkB ?_;intros)
 refine Zq (S:=Nat) (fun m=>m+1<=xs.length/\∀j:Nat,0<j->j<m+1->gi xs (j:Int)≠gi xs ((j-1:Nat):Int)) (fun m=>[(0, .slice (some ⟨bs,0,none⟩) xs.length c),(3, .int .i64 ((m+1:Nat)))]) (fun _=>⟨bs,row (eI .i64) xs sp,3⟩::L1) (fun m=>xs.length-m) 0 ⟨by omega,fun j h1 h2=>by omega⟩ sbB slB (fun m hm=>?_)
 obtain⟨hm,hall⟩:=hm
 repeat(refine wkB ?_;intros)
 refine Zk rfl (fun h=>?_) (fun h=>?_)
 ·have hlt:m+1<xs.length:=by have:=Wa h;omega
  have e1:((m+1:Nat):Int)-1=(m:Int):=by omega
  repeat(refine wkB ?_;intros)
  refine jD 10 10 (h:=?_)
  (repeat(refine wkH ?_))
  simp only[e1]
  (repeat(refine wkH ?_))
  refine Zo ?_
  refine Zs ?_
  by_cases hq:gi xs ((m+1:Nat):Int)=gi xs (m:Int)
  ·simp only[Wc hq]
   have hst:=CmQ.start (k:=m+1) (Nat.succ_pos m) hlt hq hall
   repeat(first|(refine wkB ?_;intros)|(refine wnM ?_ ?_;(focus(exact⟨by omega,by omega⟩));intros))
   refine Zq (S:=Nat×Nat×List Int) (fun q=>CmQ xs q.1 q.2.1 q.2.2/\m+1<q.2.1) (fun q=>[(0, .slice (some ⟨bs,0,none⟩) xs.length c),(3, .int .i64 (q.1:Nat)),(4, .slice (some ⟨bs,(m+1)*1,none⟩) (xs.length-(m+1)) (c-(m+1))),(5, .int .i64 ((q.2.1-(m+1):Nat)))]) (fun q=>⟨bs,row (eI .i64) q.2.2 sp,3⟩::L1) (fun q=>xs.length-q.2.1) (m+1,m+2,xs) ⟨hst,Nat.lt_succ_self _⟩ (by rw[show m+2-(m+1)=1 by omega];exact sbB) slB (fun q hq2=>?_)
   obtain⟨k,i,ys⟩:=q
   obtain⟨hq2,hmi⟩:=hq2
   have hki:=hq2.ki
   have him:=hq2.im
   have hyl:=hq2.len
   have hk0:=hq2.k0
   simp only at hq2 hki him hyl hk0 hmi⊢
   obtain⟨d,rfl⟩:∃d,i=m+1+(d+1):=⟨i-(m+1)-1,by omega⟩
   rw[show m+1+(d+1)-(m+1)=d+1 by omega]
   repeat(refine wkB ?_;intros)
   refine Zk rfl (fun h3=>?_) (fun h3=>?_)
   ·have hlt3:m+1+(d+1)<xs.length:=by have:=Wa h3;omega
    have e4:((d+1:Nat):Int)-1=(d:Int):=by omega
    have g1:=hq2.eq (m+1+(d+1)) (by omega) hlt3
    have g2:=hq2.eq (m+1+d) (by omega) (by omega)
    have e5:(m+1)*1+((d+1:Nat):Int).toNat*1=0+((m+1+(d+1):Nat):Int).toNat*1:=by omega
    have e6:(m+1)*1+((d:Nat):Int).toNat*1=0+((m+1+d:Nat):Int).toNat*1:=by omega
    repeat(refine wkB ?_;intros)
    refine jD 10 10 (h:=?_)
    (repeat(refine wkH ?_))
    simp only[e5]
    (repeat(refine wkH ?_))
    simp only[e4]
    (repeat(refine wkH ?_))
    simp only[e6]
    (repeat(refine wkH ?_))
    refine Zo ?_
    refine Zs ?_
    rw[g1,g2]
    have e7:((m+1+(d+1)-1:Nat):Int)=((m+1+d:Nat):Int):=by omega
    by_cases hq3:gi xs ((m+1+(d+1):Nat):Int)=gi xs ((m+1+d:Nat):Int)
    ·simp only[Wc hq3,Bool.not_true]
     repeat(first|(refine wkB ?_;intros)|(refine wnM ?_ ?_;(focus(exact⟨by omega,by omega⟩));intros))
     exact Zg (k,m+1+(d+1)+1,ys) ⟨hq2.skip hlt3 (by rw[e7];exact hq3),by simp only;omega⟩ (by simp only;rw[show m+1+(d+1)+1-(m+1)=d+1+1 by omega];exact sbB) slB (by show xs.length-(m+1+(d+1)+1)<xs.length-(m+1+(d+1));omega)
    ·simp only[We hq3,Bool.not_false]
     repeat(refine wkB ?_;intros)
     simp only[e5]
     repeat(first|(refine wkB ?_;intros)|(refine wnM ?_ ?_;(focus(exact⟨by omega,by omega⟩));intros))
     rw[g1]
     have hkk:=hq2.keep hlt3 (by rw[e7];exact hq3)
     exact Zg (k+1,m+1+(d+1)+1,ys.set k (gi xs ((m+1+(d+1):Nat):Int))) ⟨hkk,by simp only;omega⟩ (by simp only;rw[show m+1+(d+1)+1-(m+1)=d+1+1 by omega];exact sbB) slB (by show xs.length-(m+1+(d+1)+1)<xs.length-(m+1+(d+1));omega)
   ·have hge:m+1+(d+1)=xs.length:=by have:=Wb h3;omega
    have htk:ys.take k=cmI' xs:=by rw[hq2.tk,hge];rfl
    have hfl:(cmI' xs).length=k:=by rw[<-htk,Wt];omega
    repeat(first|(refine wkB ?_;intros)|(refine wnM ?_ ?_;(focus(exact⟨by omega,by omega,by omega⟩));intros))
    refine sClr (enc:=eI .i64) (k:=1) (i:=k) (ys:=ys) (z:= .int .i64 0) (zc:=#[.int .i64 0]) (hz:=⟨by kernel_rfl,rfl⟩) rfl (by omega) (by omega) rfl (EncC.one (enc:=eI .i64) (0:Int)) (fun zs hzs=>?_)
    repeat(first|(refine wkB ?_;intros)|(refine wnM ?_ ?_;(focus(exact⟨by omega,by omega,by omega⟩));intros))
    refine ZB rfl rfl (fun w hw=>⟨SlS.at_ bs c (zs++sp) ?_ ?_, ?_, ?_⟩)
    ·rw[hfl]
     refine⟨by omega, ?_⟩
     rw[Wp,hzs,h1.2]
     omega
    ·exact Zkq xs xs.length (by omega)
    ·show Ending.returned _=Ending.returned (.slice (some ⟨bs,0,none⟩) (cmI' xs).length c)
     rw[hfl]
    ·show Own w0 (⟨bs,row (eI .i64) (cmI' xs) (zs++sp),_⟩::L1) w
     rw[<-htk]
     exact hw
  ·simp only[We hq]
   repeat(first|(refine wkB ?_;intros)|(refine wnM ?_ ?_;(focus(exact⟨by omega,by omega⟩));intros))
   exact Zg (m+1) ⟨by omega,fun j h1 h2=>by
    by_cases e:j=m+1
    ·subst e;exact hq
    ·exact hall j h1 (by omega)⟩ sbB slB (by omega)
 ·have hge:m+1=xs.length:=by have:=Wb h;omega
  have e:cmI' xs=xs:=by
   unfold cmI'
   rw[Zer (Wl _) (fun j h1 h3=>hall j h1 (by omega)),List.take_length]
  obtain⟨s',e1,e2⟩:=SlS.turn 3 e.symm s
  repeat(refine wkB ?_;intros)
  exact ZB rfl rfl (fun w hw=>⟨s',by show Ending.returned _=Ending.returned (vSl s');rw[e1,hv],by show Own w0 (mS _ s'++L1) w;rw[e2,hmS];exact hw⟩)
end
section
structure Cut (us:List UL)(t:Rl)(k:Nat):Prop where
 le:k<=us.length
 lo:∀j:Nat,j<k->ri (gi us (j:Int)).In.To<ri t
 hi:∀j:Nat,k<=j->j<us.length->ri t<=ri (gi us (j:Int)).In.To
instance ZvL (u:UL)(t:Zi):SpecC prog 146 [vUL u,vR t] (.int .i64 (cl u.In.To t)) (RlB KR u.In.To/\RlB KR t):=⟨fun hp w=>by
 refine Zb Tryz.func146 rfl Tryz.ntmps146 rfl ?_
 repeat(first|(refine wkB ?_;intros)|(refine wnM ?_ ?_;(focus(exact hp));intros))
 exact rtT rfl rfl⟩
theorem Zha (v:Value)(us:List UL)(t:Zi)(k:Nat)(hk:Cut us t k)(w:World)(hv:ArgS w v rU us)(hl:us.length<=1048576)(ht:RlB KR t)(hok:∀u∈us,IvOk BQ u.In):
  Calls prog 145 [v,vR t,vFn 146].toArray w (Ret (.tuple #[.int .i64 (k:Nat), .bool (decide (k<us.length)&&decide (cl (gi us (k:Int)).In.To t=0))]) w):=by
 refine Zb Tryz.func145 rfl Tryz.ntmps145 rfl ?_
 obtain⟨p,cp,rfl⟩:=hv.form
 have hpre:∀j:Nat,j<us.length->RlB KR (gi us (j:Int)).In.To/\RlB KR t:=fun j hj=>by
  have h1:=hok _ (ZA (i:=(j:Int)) (by omega))
  exact⟨h1.b,ht⟩
 repeat(refine wkB ?_;intros)
 rename_i b4
 refine Zq (S:=Nat×Nat) (fun s=>s.1<=k/\k<=s.2/\s.2<=us.length) (fun s=>[(0, .slice p us.length cp),(2,vFn 146),(4, .pointer (some ⟨b4,0,none⟩)),(8, .int .i64 us.length),(9, .int .i64 (s.1:Nat)),(10, .int .i64 (s.2:Nat))]) (fun _=>[⟨b4,Zc (Ze t),35⟩]) (fun s=>s.2-s.1) (0,us.length)
  ⟨Wm _,hk.le,Wl _⟩ sbB slB (fun s hs=>?_)
 obtain⟨lo,hi⟩:=s
 obtain⟨h1,h2,h3⟩:=hs
 simp only at h1 h2 h3⊢
 repeat(refine wkB ?_;intros)
 refine Zk rfl (fun h=>?_) (fun h=>?_)
 ·have hlt:lo<hi:=by have:=Wa h;omega
  have hne:us≠[]:=fun h0=>by rw[h0] at h3;simp at h3;omega
  obtain⟨bw,ow,cw,hvw,hcw,hrow⟩:=hv.blk (k:=20) hne []
  injection hvw with e1 e2 e3
  subst e1
  subst e3
  have hrow':∀L,RowC w L bw ow UL rU us:=fun L=>⟨fun w' hw'=>hrow.out w' (hw'.sub (Wk _))⟩
  repeat(refine wkB ?_;intros)
  refine jq (ZaI rfl rfl (by decide)) rfl rfl ?_
  obtain⟨m,hm⟩:∃m,m=(lo+hi) / 2:=⟨_,rfl⟩
  have em:((lo:Int)+(hi:Int)) / 2 ^ (1:Int).toNat=(m:Int):=by
   rw[show(2:Int) ^ (1:Int).toNat=2 from rfl]
   omega
  simp only[em]
  have hml:lo<=m/\m<hi:=by omega
  have hpm:=hpre m (by omega)
  repeat(refine wkB ?_;intros)
  (refine jD 8 8 (h:=?_);(repeat(first|refine wkH ?_|(refine tC rfl rfl ?_ ?_;focus(exact hpm))));refine Zo ?_;(repeat(refine Z0 ?_;intro _));refine Zs ?_)
  repeat(refine wkB ?_;intros)
  by_cases hc:cl (gi us (m:Int)).In.To t<0
  ·simp only[Wc hc]
   have hmk:m<k:=by
    rcases Nat.lt_or_ge m k with h1|h1
    ·exact h1
    ·have:=hk.hi m h1 (by omega)
     have:=Zal.1 hc
     grind
   repeat(first|(refine wkB ?_;intros)|(refine wnM ?_ ?_;(focus(exact⟨by omega,by omega⟩));intros))
   exact Zg (m+1,hi) ⟨hmk,h2,h3⟩ sbB slB (by show hi-(m+1)<hi-lo;omega)
  ·simp only[We hc]
   have hmk:k<=m:=by
    rcases Nat.lt_or_ge m k with h1|h1
    ·exact absurd (Zal.2 (hk.lo m h1)) hc
    ·exact h1
   repeat(refine wkB ?_;intros)
   exact Zg (lo,m) ⟨h1,hmk,by show m<=us.length;omega⟩ sbB slB (by show m-lo<hi-lo;omega)
 ·have hge:lo=k/\hi=k:=by have:=Wb h;omega
  obtain⟨rfl,rfl⟩:=hge
  repeat(refine wkB ?_;intros)
  by_cases hlt:hi<us.length
  ·have hne:us≠[]:=fun h0=>by rw[h0] at hlt;simp at hlt
   obtain⟨bw,ow,cw,hvw,hcw,hrow⟩:=hv.blk (k:=20) hne []
   injection hvw with e1 e2 e3
   subst e1
   subst e3
   have hrow':∀L,RowC w L bw ow UL rU us:=fun L=>⟨fun w' hw'=>hrow.out w' (hw'.sub (Wk _))⟩
   have hpm:=hpre hi hlt
   (refine Zaq [0,1,2,3,4,5,6,7,8,9,10,11,12,13] [14,15] (_) (h:=?_);refine wkI ?_)
   (repeat(refine wkH ?_))
   simp only[Wc (show(hi:Int)<(us.length:Int) by omega)]
   (repeat(first|refine wkH ?_|(refine tC rfl rfl ?_ ?_;focus(exact hpm))))
   repeat(refine wkT ?_;intros)
   repeat(refine wkB ?_;intros)
   rw[Wc hlt,Bool.true_and]
   exact ZF rfl (Zy rfl) (Zy rfl) (fun w hw=>ZP hw)
  ·(refine Zaq [0,1,2,3,4,5,6,7,8,9,10,11,12,13] [14,15] (_) (h:=?_);refine wkI ?_)
   (repeat(refine wkH ?_))
   simp only[We (show¬(hi:Int)<(us.length:Int) by omega)]
   (repeat(refine wkH ?_))
   repeat(refine wkT ?_;intros)
   repeat(refine wkB ?_;intros)
   rw[We hlt,Bool.false_and]
   exact ZF rfl (Zy rfl) (Zy rfl) (fun w hw=>ZP hw)
end
section
class CtC (us:List UL)(t:Rl)(k:outParam Nat):Prop where
 out:Cut us t k
instance ZtI (w0:World)(L:List Blk)(v:Value)(us:List UL)(t:Zi)(k:Nat)[h:LstC w0 L v UL rU us][hk:CtC us t k]:SpecM prog w0 L 145 [v,vR t,vFn 146] (.tuple #[.int .i64 (k:Nat), .bool (decide (k<us.length)&&decide (cl (gi us (k:Int)).In.To t=0))]) (us.length<=1048576/\RlB KR t/\∀u∈us,IvOk BQ u.In):=⟨fun hp w hw=>Zha v us t k hk.out w (h.out w hw) hp.1 hp.2.1 hp.2.2⟩
structure AtR (us:List UL)(t:Ri)(r:Option Int):Prop where
 out:(∃k:Nat,k<us.length/\(absU (gi us (k:Int))).mem t/\(∀j:Nat,j<k->¬(absU (gi us (j:Int))).mem t)/\(∀j:Nat,j<=k->ri (gi us (j:Int)).In.From<=t)/\r=some (gi us (k:Int)).F)\/((∀j:Nat,j<us.length->¬(absU (gi us (j:Int))).mem t)/\r=none)
theorem AtR.hit {us:List UL}{t:Ri}{r:Option Int}(h:AtR us t r){i:Nat}(hi:i<us.length)(hm:(absU (gi us (i:Int))).mem t)(hn:∀j:Nat,j<i->¬(absU (gi us (j:Int))).mem t):r=some (gi us (i:Int)).F:=by
 rcases h.out with⟨k,h1,h2,h3, -,h5⟩|⟨h1, -⟩
 ·rcases Nat.lt_trichotomy i k with h6|h6|h6
  ·exact absurd hm (h3 i h6)
  ·subst h6;exact h5
  ·exact absurd h2 (hn k h6)
 ·exact absurd hm (h1 i hi)
theorem AtR.miss {us:List UL}{t:Ri}{r:Option Int}(h:AtR us t r){i:Nat}(hi:us.length<=i\/t<ri (gi us (i:Int)).In.From)(hn:∀j:Nat,j<i->¬(absU (gi us (j:Int))).mem t):r=none:=by
 rcases h.out with⟨k,h1,h2,h3,h4,h5⟩|⟨-,h2⟩
 ·have hik:i<=k:=by
   rcases Nat.lt_or_ge k i with h6|h6
   ·exact absurd h2 (hn k h6)
   ·exact h6
  rcases hi with h6|h6
  ·omega
  ·have:=h4 i hik
   grind
 ·exact h2
class AtC' (us:List UL)(t:Ri)(r:outParam (Option Int)):Prop where
 out:AtR us t r
noncomputable def tst (u:UL)(t:Zi):Bool:=(decide (cl u.In.From t<0)|| !u.In.OpenFrom)&&(!decide (u.In.To=t)|| !u.In.OpenTo)
theorem Zqi {u:UL}{t:Zi}{K:Nat}(hu:IvOk K u.In)(ht:(rvR t).ok)(h1:ri u.In.From<=ri t)(h2:ri t<=ri u.In.To):tst u t=true↔(absU u).mem (ri t):=by
 have e:=ZcN hu.b.o ht
 unfold tst GU.mem absU
 simp only[Wq,Bool.or_eq_true,decide_eq_true_eq,Bool.not_eq_true',decide_eq_false_iff_not,<-e,Zal]
 grind
theorem Zn9 (v:Value)(us:List UL)(t:Zi)(c:Nat)(r:Option Int)(hk:Cut us t c)(hr:AtR us (ri t) r)(w:World)(hv:ArgS w v rU us)(hl:us.length<=1048576)(ht:RlB KR t)(hok:∀u∈us,IvOk BQ u.In):
  Calls prog 104 [v,vR t].toArray w (Ret (.tuple #[.int .i64 (r.getD 0), .bool r.isSome]) w):=by
 have:=ArgC.mk hv
 have:=CtC.mk hk
 have hcl:=hk.le
 refine Zb Tryz.func104 rfl Tryz.ntmps104 rfl ?_
 obtain⟨p,cp,rfl⟩:=hv.form
 repeat(first|(refine wkB ?_;intros)|(refine wnM ?_ ?_;(focus(exact⟨hl,ht,hok⟩));intros))
 rename_i b3
 refine Zq (S:=Nat) (fun i=>(c<=i/\i<=us.length)/\∀j:Nat,j<i->¬(absU (gi us (j:Int))).mem (ri t)) (fun i=>[(0, .slice p us.length cp),(3, .pointer (some ⟨b3,0,none⟩)),(4, .int .i64 0),(5, .bool false),(6, .int .i64 (i:Nat))]) (fun _=>[⟨b3,Zc (Ze t),35⟩]) (fun i=>us.length-i) c
  ⟨⟨Wl _,hcl⟩,fun j hj hm=>?_⟩ sbB slB (fun i hi=>?_)
 ·have h1:=hk.lo j hj
  unfold GU.mem absU at hm
  grind
 obtain⟨⟨hci,hil⟩,hno⟩:=hi
 repeat(refine wkB ?_;intros)
 refine Zk rfl (fun h=>?_) (fun h=>?_)
 ·have hlt:i<us.length:=by have:=Wa h;omega
  obtain⟨bw,ow,rfl,hrow'⟩:=hv.opn (k:=20) hlt
  have ho:=hok _ (ZA (i:=(i:Int)) (xs:=us) (by omega))
  have hto:=hk.hi i hci hlt
  repeat(refine wkB ?_;intros)
  (refine Zaq [0,1,2,3,4,5,6,7] [8] (_) (h:=?_);refine wkI ?_)
  (repeat(first|refine wkH ?_|(refine tC rfl rfl ?_ ?_;focus(exact⟨ho.a,ht⟩))))
  repeat(refine wkT ?_;intros)
  repeat(refine wkB ?_;intros)
  by_cases hgt:ri t<ri (gi us (i:Int)).In.From
  ·have hrn:=hr.miss (.inr hgt) hno
   subst hrn
   simp only[Wc (Zkx.2 hgt)]
   repeat(refine wkB ?_;intros)
   exact ZF rfl (Zy rfl) (Zy rfl) (fun w hw=>ZP hw)
  ·have hle:ri (gi us (i:Int)).In.From<=ri t:=by grind
   have hti:=Zqi ho ht.o hle hto
   simp only[We (fun h=>hgt (Zkx.1 h))]
   repeat(refine wkB ?_;intros)
   refine ZY (S:=Bool) (fun v=>v=tst (gi us (i:Int)) t) (fun v=>[(61, .bool v),(0, .slice (some ⟨bw,ow,none⟩) us.length cp),(3, .pointer (some ⟨b3,0,none⟩)),(4, .int .i64 0),(5, .bool false),(6, .int .i64 (i:Nat))]) (fun _=>[⟨b3,Zc (Ze t),35⟩]) ?_ (fun v hv3=>?_)
   ·refine jD 30 30 (h:=?_)
    (repeat(refine wkH ?_))
    unfold tst
    rcases hd1:decide (cl (gi us (i:Int)).In.From t<0) with _|_
    ·(repeat(refine wkH ?_))
     rcases hd2:(gi us (i:Int)).In.OpenFrom with _|_
     ·(repeat(refine wkH ?_))
      rcases hd3:decide ((gi us (i:Int)).In.To=t) with _|_
      ·(repeat(refine wkH ?_))
       refine Zo ?_
       refine Zs ?_
       repeat(refine wkB ?_;intros)
       exact Zj true rfl sbB slB
      ·(repeat(refine wkH ?_))
       refine Zo ?_
       refine Zs ?_
       repeat(refine wkB ?_;intros)
       exact Zj (!(gi us (i:Int)).In.OpenTo) (by simp) sbB slB
     ·(repeat(refine wkH ?_))
      refine Zo ?_
      refine Zs ?_
      repeat(refine wkB ?_;intros)
      exact Zj false (by simp) sbB slB
    ·(repeat(refine wkH ?_))
     rcases hd3:decide ((gi us (i:Int)).In.To=t) with _|_
     ·(repeat(refine wkH ?_))
      refine Zo ?_
      refine Zs ?_
      repeat(refine wkB ?_;intros)
      exact Zj true rfl sbB slB
     ·(repeat(refine wkH ?_))
      refine Zo ?_
      refine Zs ?_
      repeat(refine wkB ?_;intros)
      exact Zj (!(gi us (i:Int)).In.OpenTo) (by simp) sbB slB
   subst hv3
   rcases htt:tst (gi us (i:Int)) t with _|_
   ·repeat(first|(refine wkB ?_;intros)|(refine wnM ?_ ?_;(focus(exact⟨by omega,by omega⟩));intros))
    refine Zg (i+1) ⟨⟨by omega,hlt⟩,fun j hj hm=>?_⟩ sbB slB (by omega)
    rcases(by omega:j<i\/j=i) with h1|h1
    ·exact hno j h1 hm
    ·subst h1
     rw[hti.2 hm] at htt
     cases htt
   ·have hrs:=hr.hit hlt (hti.1 htt) hno
    subst hrs
    repeat(refine wkB ?_;intros)
    exact ZF rfl (Zy rfl) (Zy rfl) (fun w hw=>ZP hw)
 ·have hge:us.length<=i:=by have:=Wb h;omega
  have hrn:=hr.miss (.inl hge) hno
  subst hrn
  repeat(refine wkB ?_;intros)
  exact ZF rfl (Zy rfl) (Zy rfl) (fun w hw=>ZP hw)
instance ZA7 (w0:World)(L:List Blk)(v:Value)(us:List UL)(t:Zi)(c:Nat)(r:Option Int)[h:LstC w0 L v UL rU us][hk:CtC us t c][hr:AtC' us (ri t) r]:SpecM prog w0 L 104 [v,vR t] (.tuple #[.int .i64 (r.getD 0), .bool r.isSome]) (us.length<=1048576/\RlB KR t/\∀u∈us,IvOk BQ u.In):=⟨fun hp w hw=>Zn9 v us t c r hk.out hr.out w (h.out w hw) hp.1 hp.2.1 hp.2.2⟩
end
section
instance Zs7 (w0:World)(L L1:List Blk)(xs:List Int)(s:SlS (eI .i64) 1 xs)[hd:OwnS 3 s L L1]:SpecX prog w0 L 85 [vSl s] (SlS (eI .i64) 1 (cmI' xs)) (fun s=>vSl s) (fun s=>mS 3 s++L1) (xs.length<=1048576):=⟨fun hp w hw=>ZgO w0 w L L1 xs s hp hw⟩
def lbL (us:List PU):List Int:=mpN (fun u:PU=>u.Label) us us.length
set_option maxHeartbeats 8000000 in
theorem ZiW (v:Value)(us:List PU)(w:World)(hv:ArgS w v rP us)(hl:us.length<=1048576):
  Calls prog 32 [v].toArray w (RetM (SlS (eI .i64) 1 (cmI' (lbL us))) (fun s=>vSl s) (fun s=>mS 3 s) w):=by
 obtain⟨p,cp,rfl⟩:=hv.form
 refine Zb Tryz.func32 rfl Tryz.ntmps32 rfl ?_
 repeat(refine wkB ?_;intros)
 refine Zad (S:=SlS (eI .i64) 1 (lbL us)) (fun _=>True) (fun s=>[(3,vSl s)]) (fun s=>mS 3 s) ?_ (fun s _=>?_)
 ·refine Zq (S:=(_:Nat)×(o:List Int)×SlS (eI .i64) 1 o) (fun q=>q.1<=us.length/\q.2.1=mpN (fun u:PU=>u.Label) us q.1) (fun q=>[(3,vSl q.2.2),(6, .slice p us.length cp),(7, .int .i64 (us.length:Nat)),(8, .int .i64 (q.1:Nat))]) (fun q=>mS 3 q.2.2) (fun q=>us.length-q.1) ⟨0,[],SlS.no⟩ ⟨Wm _,rfl⟩ sbB suB (fun q hq=>?_)
  obtain⟨m,out,s⟩:=q
  obtain⟨hq,ho⟩:=hq
  dsimp only at hq ho⊢
  have hlen:out.length=m:=by rw[ho];exact ZaV _ us m
  have hend:m=us.length->out=lbL us:=fun h=>by rw[ho,h];rfl
  have hnxt:out++[(gi us (m:Int)).Label]=mpN (fun u:PU=>u.Label) us (m+1):=by rw[ho];rfl
  clear ho
  repeat(refine wkB ?_;intros)
  refine Zk rfl (fun h=>?_) (fun h=>?_)
  ·have hlt:m<us.length:=by have:=Wa h;omega
   obtain⟨bw,ow,rfl,hrow'⟩:=hv.opn (k:=20) hlt
   repeat(refine wkB ?_;intros)
   refine sU (k:=1) (enc:=eI .i64) (s:=s) rfl rfl ?_ ?_ ?_ ?_
   ·rfl
   ·rfl
   ·exact⟨by decide,by omega,by omega⟩
   intro s'
   repeat(first|(refine wkB ?_;intros)|(refine wnM ?_ ?_;(focus(exact⟨by omega,by omega⟩));intros))
   exact Zg ⟨m+1,_,s'⟩ ⟨hlt,hnxt⟩ sbB suB (by show us.length-(m+1)<us.length-m;omega)
  ·have hge:m=us.length:=by have:=Wb h;omega
   obtain⟨s',f1,f2⟩:=SlS.turn 3 (hend hge) s
   repeat(refine wkB ?_;intros)
   exact Zj s' trivial (by rw[f1];exact sbB) (by rw[f2];exact suB)
 have hl':(lbL us).length<=1048576:=by unfold lbL;rw[ZaV];exact hl
 repeat(first|(refine wkB ?_;intros)|(refine wnM ?_ ?_;(focus(exact hl'));intros))
 refine sZ rfl rfl hl' (fun r=>?_)
 repeat(refine wkB ?_;intros)
 exact ZB rfl rfl (fun w hw=>⟨r,rfl,hw.sub suB⟩)
instance Zv4 (w0:World)(L:List Blk)(v:Value)(us:List PU)[h:LstC w0 L v PU rP us]:SpecR prog w0 L 32 [v] (SlS (eI .i64) 1 (cmI' (lbL us))) (fun s=>vSl s) (fun s=>mS 3 s) (us.length<=1048576):=⟨fun hp w hw=>ZiW v us w (h.out w hw) hp⟩
def whL (us:List PU)(x:Int):Nat->List Za
 |0=>[]
 |m+1=>if(gi us (m:Int)).Label=x then whL us x m++[(gi us (m:Int)).In] else whL us x m
theorem Zjk (us:List PU)(x:Int):∀m,(whL us x m).length<=m
 |0=>Wl _
 |m+1=>by
  have:=Zjk us x m
  rw[whL]
  split
  ·simp;exact this
  ·omega
set_option maxHeartbeats 8000000 in
theorem ZmW (v:Value)(us:List PU)(x:Int)(w:World)(hv:ArgS w v rP us)(hl:us.length<=1048576)(hsw:SwOk (whL us x us.length) []):
  Calls prog 59 [v, .int .i64 x].toArray w (RetM (SlS rI 20 (swpR kpU (whL us x us.length) [])) (fun s=>vSl s) (fun s=>mS 37 s) w):=by
 obtain⟨p,cp,rfl⟩:=hv.form
 refine Zb Tryz.func59 rfl Tryz.ntmps59 rfl ?_
 repeat(refine wkB ?_;intros)
 refine Zad (S:=SlS rI 20 (whL us x us.length)) (fun _=>True) (fun s=>[(5,vSl s)]) (fun s=>mS 37 s) ?_ (fun s _=>?_)
 ·refine Zq (S:=(_:Nat)×(o:List Za)×SlS rI 20 o) (fun q=>q.1<=us.length/\q.2.1=whL us x q.1) (fun q=>[(1, .int .i64 x),(5,vSl q.2.2),(8, .slice p us.length cp),(9, .int .i64 (us.length:Nat)),(10, .int .i64 (q.1:Nat))]) (fun q=>mS 37 q.2.2) (fun q=>us.length-q.1) ⟨0,[],SlS.no⟩ ⟨Wm _,rfl⟩ sbB suB (fun q hq=>?_)
  obtain⟨m,out,s⟩:=q
  obtain⟨hq,ho⟩:=hq
  dsimp only at hq ho⊢
  have hlen:out.length<=m:=by rw[ho];exact Zjk us x m
  have hend:m=us.length->out=whL us x us.length:=fun h=>by rw[ho,h]
  have hnxt:(if(gi us (m:Int)).Label=x then out++[(gi us (m:Int)).In] else out)=whL us x (m+1):=by rw[ho];rfl
  clear ho
  repeat(refine wkB ?_;intros)
  refine Zk rfl (fun h=>?_) (fun h=>?_)
  ·have hlt:m<us.length:=by have:=Wa h;omega
   obtain⟨bw,ow,rfl,hrow'⟩:=hv.opn (k:=20) hlt
   repeat(refine wkB ?_;intros)
   by_cases c:(gi us (m:Int)).Label=x
   ·simp only[Wc c]
    rw[if_pos c] at hnxt
    repeat(refine wkB ?_;intros)
    refine sU (k:=20) (enc:=rI) (s:=s) rfl rfl ?_ ?_ ?_ ?_
    ·rfl
    ·rfl
    ·exact⟨by decide,by omega,by omega⟩
    intro s'
    repeat(first|(refine wkB ?_;intros)|(refine wnM ?_ ?_;(focus(exact⟨by omega,by omega⟩));intros))
    exact Zg ⟨m+1,_,s'⟩ ⟨hlt,hnxt⟩ sbB suB (by show us.length-(m+1)<us.length-m;omega)
   ·simp only[We c]
    rw[if_neg c] at hnxt
    repeat(first|(refine wkB ?_;intros)|(refine wnM ?_ ?_;(focus(exact⟨by omega,by omega⟩));intros))
    exact Zg ⟨m+1,_,s⟩ ⟨hlt,hnxt⟩ sbB suB (by show us.length-(m+1)<us.length-m;omega)
  ·have hge:m=us.length:=by have:=Wb h;omega
   obtain⟨s',f1,f2⟩:=SlS.turn 37 (hend hge) s
   repeat(refine wkB ?_;intros)
   exact Zj s' trivial (by rw[f1];exact sbB) (by rw[f2];exact suB)
 repeat(first|(refine wkB ?_;intros)|(refine wnM ?_ ?_;(focus(exact hsw));intros))
 rename_i r
 exact ZB rfl rfl (fun w hw=>⟨r,rfl,hw.sub suB⟩)
instance ZAh (w0:World)(L:List Blk)(v:Value)(us:List PU)(x:Int)[h:LstC w0 L v PU rP us]:SpecR prog w0 L 59 [v, .int .i64 x] (SlS rI 20 (swpR kpU (whL us x us.length) [])) (fun s=>vSl s) (fun s=>mS 37 s) (us.length<=1048576/\SwOk (whL us x us.length) []):=⟨fun hp w hw=>ZmW v us x w (h.out w hw) hp.1 hp.2⟩
theorem Znr (v:Value)(us:List PU)(t:Zi)(c:Nat)(r:Option Int)(w:World)(hv:ArgS w v rP us)(hc:Cut (mpN toU us us.length) t c)(hr:AtR (mpN toU us us.length) (ri t) r)(hl:us.length<=1048576)(ht:RlB KR t)(hu:∀u∈mpN toU us us.length,IvOk BQ u.In):
  Calls prog 57 [v,vR t].toArray w (Ret (.tuple #[.int .i64 (r.getD 0), .bool r.isSome]) w):=by
 have:=ArgC.mk hv
 have hml:=ZaV toU us us.length
 have i1:CtC (mpN toU us us.length) t c:=⟨hc⟩
 have i2:AtC' (mpN toU us us.length) (ri t) r:=⟨hr⟩
 have p2:(mpN toU us us.length).length<=1048576/\RlB KR t/\∀u∈mpN toU us us.length,IvOk BQ u.In:=⟨by omega,ht,hu⟩
 refine Zb Tryz.func57 rfl Tryz.ntmps57 rfl ?_
 repeat(refine wkB ?_;intros)
 rename_i b3
 (refine ZH (.v [0,2] (.e1 1 (.e1 3 (.v [4,5] (.e1 6 (.e1 7 (.fin))))))) ([⟨b3,Zc (Ze t),35⟩]) (h:=?_);refine wkX ?_)
 (repeat(refine wkH ?_))
 repeat(first|(refine wkT ?_;intros)|(refine tC rfl rfl ?_ ?_;focus(first|exact hl|exact p2))|(refine uC rfl rfl ?_ ?_;focus(first|exact hl|exact p2))|(refine eN rfl rfl ?_ ?_;(focus(first|exact hl|exact p2));intro _;(try simp only[Wf,Wg,Wh])))
 repeat(refine wkB ?_;intros)
 exact ZF rfl (Zy rfl) (Zy rfl) (fun w hw=>ZP hw)
instance ZBn (w0:World)(L:List Blk)(v:Value)(us:List PU)(t:Zi)(c:Nat)(r:Option Int)[h:LstC w0 L v PU rP us][hk:CtC (mpN toU us us.length) t c][hr:AtC' (mpN toU us us.length) (ri t) r]:SpecM prog w0 L 57 [v,vR t] (.tuple #[.int .i64 (r.getD 0), .bool r.isSome]) (us.length<=1048576/\RlB KR t/\∀u∈mpN toU us us.length,IvOk BQ u.In):=⟨fun hp w hw=>Znr v us t c r w (h.out w hw) hk.out hr.out hp.1 hp.2.1 hp.2.2⟩
end
end Go.Vt
namespace Go.Vt
open Fv (va red)
section
variable {T F V : Type} [LE T] [LT T] [Std.LawfulOrderLT T] [Std.IsLinearOrder T] [Dns T] [Fv F T V]
def jnBG (a u:GU T F):Prop:=a.f=u.f/\a.b=u.a/\¬(a.ob=true/\u.oa=true)
def jnPG (a u:GU T F):GU T F:=⟨a.a,u.b,a.oa,u.ob,a.f⟩
structure JnI (done out:List (GU T F)):Prop where
 nf:NF out
 has:∀t v,Has out t v↔Has done t v
 lst:∀ys a,out=ys++[a]->∃ds d,done=ds++[d]/\a.b=d.b/\a.ob=d.ob
theorem JnI.nil :JnI ([]:List (GU T F)) []:=⟨NF.nil,fun _ _=>Iff.rfl,fun ys a h=>by simp at h⟩
theorem Zn6 {a u:GU T F}(ha:a.ok)(hu:u.ok)(h:jnBG a u)(t:T):(jnPG a u).mem t↔a.mem t\/u.mem t:=by
 obtain⟨h1,h2,h3⟩:=h
 unfold GU.mem GU.ok jnPG at*
 dsimp only
 grind
variable (hva : ∀ (f g : F) (t : T), va f t = va g t ↔ f = g) (hrd : ∀ (f : F) (t : T), red f t = f)
include hva hrd
theorem ZkL {a u:GU T F}(ha:a.ok)(hb:a.bfr u)(h:¬jnBG a u):Adj a u:=by
 refine⟨hb,fun e o _ f=>h ⟨f,e,by simp[o]⟩,fun e o f=>h ⟨(hva _ _ _).1 f,e,by simp[o]⟩,fun e i f=>h ⟨(hva _ _ _).1 f,e, ?_⟩⟩
 unfold GU.ok at ha
 grind
theorem JnI.bf {done out ys:List (GU T F)}{a u:GU T F}(h:JnI done out)(hb:∀w∈done,w.bfr u)(e:out=ys++[a]):a.bfr u:=by
 obtain⟨ds,d,e1,e2,e3⟩:=h.lst ys a e
 have:=hb d (by rw[e1];simp)
 unfold GU.bfr at*
 rw[e2,e3]
 exact this
theorem JnI.app {done out:List (GU T F)}{u:GU T F}(h:JnI done out)(hu:u.ok)(hb:∀w∈done,w.bfr u)(hn:∀ys a,out=ys++[a]->¬jnBG a u):JnI (done++[u]) (out++[u]):=by
 refine⟨h.nf.app hu (fun _=>(hrd _ _).symm) fun ys a e=>ZkL hva hrd (h.nf.ok a (by rw[e];simp)) (h.bf hva hrd hb e) (hn ys a e),fun t v=>?_,fun ys a e=>?_⟩
 ·rw[Zcy,Zcy,h.has]
 ·obtain⟨e1,e2⟩:=Zba e
  exact⟨done,u,rfl,by rw[e2],by rw[e2]⟩
theorem JnI.mrg {done out ys:List (GU T F)}{a u:GU T F}(h:JnI done out)(hu:u.ok)(hb:∀w∈done,w.bfr u)(e:out=ys++[a])(hj:jnBG a u):JnI (done++[u]) (ys++[jnPG a u]):=by
 have hao:=h.nf.ok a (by rw[e];simp)
 have hbf:=h.bf hva hrd hb e
 have hnf:=h.nf
 rw[e] at hnf
 refine⟨hnf.last (u:=a) rfl rfl rfl ?_,fun t v=>?_,fun ys' a' e'=>?_⟩
 ·obtain⟨h1,h2,h3⟩:=hj
  unfold GU.ok GU.bfr jnPG at*
  dsimp only
  grind
 ·rw[Zbc,Zn6 hao hu hj,Zcy,<-h.has,e,Zbc,ZcC]
  have e1:va (jnPG a u).f t=va a.f t:=rfl
  have e2:va u.f t=va a.f t:=by rw[hj.1]
  rw[e1,e2]
  constructor
  ·rintro(h|⟨h|h,k⟩)
   ·exact .inl (.inl h)
   ·exact .inl (.inr ⟨h,k⟩)
   ·exact .inr ⟨h,k⟩
  ·rintro((h|⟨h,k⟩)|⟨h,k⟩)
   ·exact .inl h
   ·exact .inr ⟨.inl h,k⟩
   ·exact .inr ⟨.inr h,k⟩
 ·obtain⟨e1,e2⟩:=Zba e'
  exact⟨done,u,rfl,by rw[<-e2];rfl,by rw[<-e2];rfl⟩
end
end Go.Vt
namespace Go.Vt
open Go.RowKit Go.Proofs
open Go.Proofs.Tryz (prog)
noncomputable def absQ (u:PU):GU Ri Int:=⟨ri u.In.From,ri u.In.To,u.In.OpenFrom,u.In.OpenTo,u.Label⟩
theorem hvaL (f g:Int)(t:Ri):Fv.va f t=Fv.va g t↔f=g:=Iff.rfl
theorem hrdL (f:Int)(t:Ri):Fv.red f t=f:=rfl
def bfI (i j:Za):Prop:=ri i.To<ri j.From\/(ri i.To=ri j.From/\(i.OpenTo=true\/j.OpenFrom=true))
theorem ZjS {a u:PU}{K K':Nat}(ha:IvOk K a.In)(hu:IvOk K' u.In):jnB a u=true↔jnBG (absQ a) (absQ u):=by
 have e:=ZcN ha.b.o hu.a.o
 unfold jnB jnBG absQ
 dsimp only
 rw[Wq,Wq,decide_eq_true_eq,decide_eq_true_eq,e,Bool.not_eq_true',<-Bool.not_eq_true,Wq]
theorem ZmF (ys:List PU)(a:PU):lstP (ys++[a])=a:=by
 unfold lstP
 rw[Zbk (by simp only[Wp,List.length_singleton];omega)]
 simp only[Wp,List.length_singleton]
 rw[List.getElem_append_right (by omega)]
 simp
theorem ZlD (ys:List PU)(a x:PU):(ys++[a]).set (((ys++[a]).length:Int)-1).toNat x=ys++[x]:=by
 simp
theorem Zkt {l:List PU}{K:Nat}(hk:∀u∈l,IvOk K u.In)(hv:∀u∈l,okI u.In)(hp:l.Pairwise (fun u w=>bfI u.In w.In)):∀i,i<=l.length->JnI ((l.take i).map absQ) ((jnL l i).map absQ)/\∀u∈jnL l i,IvOk K u.In
 |0,_=>⟨JnI.nil,(fun u hu=>by cases hu)⟩
 |i+1,hi=>by
  obtain⟨ih,ihk⟩:=Zkt hk hv hp i (by omega)
  have hg:=Zw (xs:=l) (i:=i) (by omega)
  have hm:gi l (i:Int)∈l:=ZA (by omega)
  have huk:=hk _ hm
  have huo:(absQ (gi l (i:Int))).ok:=hv _ hm
  have hb:∀w∈(l.take i).map absQ,w.bfr (absQ (gi l (i:Int))):=fun w hw=>by
   obtain⟨x,hx,rfl⟩:=List.mem_map.1 hw
   obtain⟨j,hj,rfl⟩:=List.mem_take_iff_getElem.1 hx
   rw[hg]
   exact List.pairwise_iff_getElem.1 hp j i (by omega) (by omega) (by omega)
  rw[Wn (by omega),List.map_append,jnL,<-hg]
  generalize gi l (i:Int)=u at*
  generalize jnL l i=out at*
  rcases ZaN out with rfl|⟨ys,a,rfl⟩
  ·have e:jn1 [] u=[u]:=by unfold jn1;rw[if_neg (fun h=>by simp at h)];rfl
   rw[e]
   exact⟨ih.app hvaL hrdL huo hb (fun ys a h=>by simp at h),fun x hx=>by rw[Wo] at hx;rw[hx];exact huk⟩
  ·have hka:=ihk a (by simp)
   unfold jn1
   rw[ZmF]
   by_cases c:jnB a u=true
   ·rw[if_pos ⟨by simp,c⟩,ZlD,List.map_append]
    refine⟨ih.mrg hvaL hrdL huo hb (ys:=ys.map absQ) (a:=absQ a) (by simp) ((ZjS hka huk).1 c),fun x hx=>?_⟩
    rcases List.mem_append.1 hx with h1|h1
    ·exact ihk x (List.mem_append_left _ h1)
    ·rw[Wo] at h1
     rw[h1]
     exact⟨hka.a,huk.b⟩
   ·rw[if_neg (fun h=>c h.2),List.map_append]
    refine⟨ih.app hvaL hrdL huo hb (fun zs b h=>?_),fun x hx=>?_⟩
    ·rw[List.map_append] at h
     obtain⟨_,h2⟩:=Zba h
     rw[<-h2]
     exact fun k=>c ((ZjS hka huk).2 k)
    ·rcases List.mem_append.1 hx with h1|h1
     ·exact ihk x h1
     ·rw[Wo] at h1;rw[h1];exact huk
structure CelB (p:List Za)(c:List Rl)(k:Nat):Prop where
 pw:(celS p c k).Pairwise bfI
 ok:∀i∈celS p c k,okI i
 up:k<c.length->∀i∈celS p c k,ri i.To<ri (gi c (k:Int))\/(ri i.To=ri (gi c (k:Int))/\i.OpenTo=true)
theorem Zjx {p:List Za}{n:Nat}{c:List Rl}(h:SrR n c):∀k,k<=c.length->CelB p c k
 |0,_=>⟨.nil,(fun i hi=>by cases hi),fun _ i hi=>by cases hi⟩
 |k+1,hk=>by
  have ih:=Zjx (p:=p) h k (by omega)
  have hup:=ih.up (by omega)
  have hI:(celI p c k (celS p c k)).Pairwise bfI/\(∀i∈celI p c k (celS p c k),okI i)/\∀i∈celI p c k (celS p c k),ri i.To<=ri (gi c (k:Int)):=by
   unfold celI
   split
   ·refine⟨List.pairwise_append.2 ⟨ih.pw,List.pairwise_singleton _ _,fun i hi j hj=>?_⟩,fun i hi=>?_,fun i hi=>?_⟩
    ·rw[List.mem_singleton.1 hj]
     rcases hup i hi with h1|⟨h1,h2⟩
     ·exact .inl h1
     ·exact .inr ⟨h1, .inl h2⟩
    ·rcases List.mem_append.1 hi with h1|h1
     ·exact ih.ok i h1
     ·rw[List.mem_singleton.1 h1];exact .inr ⟨rfl,rfl,rfl⟩
    ·rcases List.mem_append.1 hi with h1|h1
     ·rcases hup i h1 with h2|h2 <;> grind
     ·rw[List.mem_singleton.1 h1];show ri (gi c (k:Int))<=ri (gi c (k:Int));grind
   ·exact⟨ih.pw,ih.ok,fun i hi=>by rcases hup i hi with h2|h2 <;> grind⟩
  obtain⟨h1,h2,h3⟩:=hI
  have e:celS p c (k+1)=celJ p c k (celI p c k (celS p c k)):=rfl
  have hlt:k+1<c.length->ri (gi c (k:Int))<ri (gi c ((k+1:Nat):Int)):=fun h4=>h.at (Nat.lt_succ_self k) h4
  refine⟨?_, ?_,fun h4=>?_⟩ <;> rw[e] <;> unfold celJ
  ·split
   ·rename_i hc
    refine List.pairwise_append.2 ⟨h1,List.pairwise_singleton _ _,fun i hi j hj=>?_⟩
    rw[List.mem_singleton.1 hj]
    have:=h3 i hi
    show ri i.To<ri (gi c (k:Int))\/(ri i.To=ri (gi c (k:Int))/\(i.OpenTo=true\/true=true))
    grind
   ·exact h1
  ·split
   ·rename_i hc
    intro i hi
    rcases List.mem_append.1 hi with h5|h5
    ·exact h2 i h5
    ·rw[List.mem_singleton.1 h5];exact .inl (hlt hc.1)
   ·exact h2
  ·have h6:=hlt h4
   split
   ·intro i hi
    rcases List.mem_append.1 hi with h5|h5
    ·have:=h3 i h5;exact .inl (by grind)
    ·rw[List.mem_singleton.1 h5];exact .inr ⟨rfl,rfl⟩
   ·intro i hi
    have:=h3 i hi
    exact .inl (by grind)
theorem Zji {l:List St}{ins cs:List Za}:∀i,i<=cs.length->((mvS l ins cs i).map (·.In)).Sublist (cs.take i)
 |0,_=>Wk _
 |i+1,hi=>by
  have ih:=Zji (l:=l) (ins:=ins) i (by omega:i<=cs.length)
  rw[mvS,Wn (by omega),<-Zw (by omega)]
  unfold mv1
  split
  ·rw[List.map_append]
   exact ih.append (Wj _)
  ·exact ih.trans (List.sublist_append_left _ _)
theorem Zq9 {l:List St}(hk:∀x∈l,StOk x):(celV l).Pairwise bfI/\∀i∈celV l,okI i:=by
 have hil:=ZeP l
 have hio:=Zcz hk
 have hno:=ZjL hk
 have p3:CelIn (nrmS (insV l)) (enR (insV l)):=by
  have h1:=ZeR (insV l)
  have h2:=ZdA (insV l)
  exact⟨by omega,by omega,fun i hi=>(hno i hi).mono (by decide),(Zec (fun i hi=>(hio i hi).mono (by decide))).b⟩
 have:=Zjx (p:=nrmS (insV l)) (Zjl p3) _ (Wl _)
 exact⟨this.pw,this.ok⟩
theorem ZfO {l:List St}:∀u∈movU l,u.In∈celV l:=fun u hu=>Zd4 _ (Wl _) u hu
structure NfP (l:List PU):Prop where
 nf:NF (l.map absQ)
 k:∀u∈l,IvOk 3 u.In
 len:l.length<=160
theorem Zp2 {l:List St}(hk:∀x∈l,StOk x):JnI ((movU l).map absQ) ((movV l).map absQ):=by
 have hc:=Zq9 hk
 have hs:=Zji (l:=l) (ins:=insV l) (cs:=celV l) _ (Wl _)
 rw[List.take_length] at hs
 have hpw:(movU l).Pairwise (fun u w=>bfI u.In w.In):=List.pairwise_map.1 (hc.1.sublist hs)
 have:=(Zkt (l:=movU l) (K:=3) (fun u hu=>Zem hk _ (ZfO u hu)) (fun u hu=>hc.2 _ (ZfO u hu)) hpw _ (Wl _)).1
 rw[List.take_length] at this
 exact this
theorem Zqc {l:List St}(hk:∀x∈l,StOk x):NfP (movV l):=⟨(Zp2 hk).nf,Zq0 hk,ZoN l⟩
end Go.Vt
/-
 DERIVED: THE SHELF's CONTRACTS AT THIS DUMP, IN PLAIN WORDS (tools/lay-plain.mjs out of 'YtcgkgdgpdpihmaaGreatDoorLaySi.lean', which tools/lay-shelf.mjs wrote): THE SAME DECLARATIONS UNDER THE SAME NAMES: 'import', 'namespace', 'open', 'def', 'theorem' AND NOTHING ELSE: no command of the shelf's: FOR A HAND-IN. Each laying: the table of numbers ('.._ren') and one theorem, a field a fact of the dump's own or the kernel's comparison; each contract: ONE APPLICATION.
-/
namespace Go.Proofs
open Go.Shelf
end Go.Proofs
namespace Go.Vt
open Go.RowKit Go.Proofs
open Go.Proofs.Tryz (prog)
section
def DscL (l:List PU):Prop:=∀u∈l,Dsc u.In.From/\Dsc u.In.To
end
section
abbrev Lb (x:Int):Prop:= -1000<=x/\x<=1000
end
section
def PwU (l:List UL):Prop:=l.Pairwise (fun u w=>bfI u.In w.In)
theorem Zo3 {us:List UL}(ho:∀u∈us,okI u.In)(hp:PwU us):NoTie us:=fun x hx y hy h1 h2=>by
 have key:∀u w:UL,okI u.In->okI w.In->bfI u.In w.In->leS u w->leS w u->False:=fun u w hu hw hb h1 h2=>by
  unfold leS opn at h1 h2
  unfold bfI at hb
  unfold okI at hu hw
  rcases hf:u.In.OpenFrom <;> rcases hg:w.In.OpenFrom <;> rw[hf] at h1 h2 hu <;> rw[hg] at h1 h2 hb hw <;> simp only[Bool.false_eq_true,if_false,if_true] at h1 h2 <;> grind
 rcases Zib hp x hx y hy with e|e|e
 ·exact e
 ·exact(key x y (ho x hx) (ho y hy) e h1 h2).elim
 ·exact(key y x (ho y hy) (ho x hx) e h2 h1).elim
theorem Zlo {us:List UL}(hp:PwU us):(us.map absU).Pairwise Dis:=by
 rw[List.pairwise_map]
 exact hp.imp fun h=>GU.bfr.Dis (show(absU _).bfr (absU _) from h)
end
section
theorem pwQ {l:List PU}(h:NF (l.map absQ)):l.Pairwise (fun u w=>bfI u.In w.In):=(List.pairwise_map.1 h.pw).imp fun e=>e.bf
theorem ZhA {l m:List PU}{K K':Nat}(hl:∀u∈l,IvOk K u.In)(hm:∀u∈m,IvOk K' u.In)(h:l.map absQ=m.map absQ):l=m:=by
 have h1:l.map toU=m.map toU:=ZeU (K:=K) (K':=K') (fun u hu=>by obtain⟨w,hw,rfl⟩:=List.mem_map.1 hu;exact hl w hw) (fun u hu=>by obtain⟨w,hw,rfl⟩:=List.mem_map.1 hu;exact hm w hw) (by rw[List.map_map,List.map_map];exact h)
 have h2:=congrArg (List.map ofU) h1
 rw[List.map_map,List.map_map] at h2
 have e:ofU ∘ toU=id:=funext fun u=>rfl
 rw[e,List.map_id,List.map_id] at h2
 exact h2
theorem pwT {l:List PU}(h:l.Pairwise (fun u w=>bfI u.In w.In)):PwU (l.map toU):=by
 unfold PwU
 rw[List.pairwise_map]
 exact h
theorem ZpR (X:List UL):(mpN ofU X X.length).map absQ=X.map absU:=by
 rw[ZeC,List.map_map]
 rfl
structure MvP (l:List PU):Prop where
 nf:NfP l
 d:DscL l
 f:∀u∈l,Lb u.Label
end
section
theorem Zob {us:List UL}(hk:∀u∈us,IvOk KN u.In)(ho:∀u∈us,okI u.In)(hp:PwU us)(hl:us.length<=65536):NrP us/\(∀u∈us,UIn u)/\NF ((nrmR us).map absU)/\∀t v,Has ((nrmR us).map absU) t v↔Has (us.map absU) t v:=by
 have hU:∀u∈us,UIn u:=fun u hu=>⟨hk u hu⟩
 have h:=ZfG (us:=us) ⟨hU,fun u hu=>ho u hu⟩ (Zlo hp)
 exact⟨.inr ⟨hl,Zo3 ho hp⟩,hU,h.1,h.2⟩
theorem ZnF {a:List PU}(h:NF (a.map absQ))(hk:∀u∈a,IvOk KN u.In)(hl:a.length<=65536):NrP (mpN toU a a.length)/\(∀u∈mpN toU a a.length,UIn u)/\nrmE (mpN toU a a.length)=0/\mNorm a=a:=by
 have hA:=ZeC toU a
 have hka:∀u∈a.map toU,IvOk KN u.In:=fun u hu=>by obtain⟨w,hw,rfl⟩:=List.mem_map.1 hu;exact hk w hw
 have hoa:∀u∈a.map toU,okI u.In:=fun u hu=>by obtain⟨w,hw,rfl⟩:=List.mem_map.1 hu;exact h.ok _ (List.mem_map_of_mem hw)
 have hpw:=pwT (pwQ h)
 obtain⟨r1,r2,r3,r4⟩:=Zob hka hoa hpw (by rw[Ws];exact hl)
 have hq:(mNorm a).map absQ=(nrmR (a.map toU)).map absU:=by unfold mNorm;rw[hA,ZpR]
 have he:(a.map toU).map absU=a.map absQ:=by rw[List.map_map];rfl
 rw[hA]
 refine⟨r1,r2,(Zfg ⟨r2,hoa⟩).2 (Zlo hpw),ZhA (K:=KN) (K':=KN) (fun u hu=>?_) hk (by rw[hq];exact r3.uniq h fun z x=>by rw[r4,he])⟩
 have:mNorm a=mpN ofU (nrmR (a.map toU)) (nrmR (a.map toU)).length:=by unfold mNorm;rw[hA]
 rw[this,ZeC] at hu
 obtain⟨w,hw,rfl⟩:=List.mem_map.1 hu
 exact(Zke r2 w hw).i
end
section
theorem ZlJ {x:Zi}(h:(rvR x).ok)(h0:x.R≠0):rtQ x.R=none/\0<x.R:=by
 rcases h.k with hk|⟨hk,hn⟩
 ·exact absurd hk h0
 ·refine⟨?_,hk⟩
  cases hr:rtQ x.R with
  |none=>rfl
  |some q=>exact absurd (ZeY hr).2 (hn q)
instance (priority :=high) Zrh (x:Zi):SpecC prog 150 [vR x] (.int .i64 0) (RlB 1048576 x):=⟨fun hp w=>by
 by_cases h0:x.R=0
 ·exact(ZgL x).out ⟨⟨hp.o,Wi hp.p (by decide),Wi hp.r (by decide)⟩,h0⟩ w
 obtain⟨hs,hpos⟩:=ZlJ hp.o h0
 have h3:M x.P<=LQ:=Wi hp.p (by decide)
 have h4:M x.R<=LQ:=Wi hp.r (by decide)
 have h5:M x.R<=1048576:=hp.r
 have hsg:x.R.num.sign=1:=by
  rcases nsg x.R with h|h|h
  ·exact h.2
  ·exact absurd h.1 h0
  ·exact absurd hpos (by grind)
 refine Zb Tryz.func150 rfl Tryz.ntmps150 rfl ?_
 repeat(first|(refine wkB ?_;intros)|(refine wnM ?_ ?_;(focus(first|exact h3|exact h4|exact h5));intros))
 simp only[hsg]
 repeat(first|(refine wkB ?_;intros)|(refine wnM ?_ ?_;(focus(first|exact h3|exact h4|exact h5));intros))
 rw[hs]
 repeat(refine wkB ?_;intros)
 exact rtT rfl rfl⟩
instance (priority :=high) Ztp (i:Za):SpecC prog 107 [vIv i] (.int .i64 0) (IvOk 1048576 i/\okI i):=⟨fun hp w=>by
 obtain⟨h0,h2⟩:=hp
 have h1:IvOk KR i:=h0.mono (by decide)
 have hlt:=Zea.1 h2
 have hn:¬0<=cmpB (bdF i) (bdL i):=fun h=>(ZfC.1 hlt) (Zet (by omega))
 refine Zb Tryz.func107 rfl Tryz.ntmps107 rfl ?_
 repeat(first|(refine wkB ?_;intros)|(refine wnM ?_ ?_;(focus(first|exact h0.a|exact h0.b));intros))
 (refine jD 6 6 (h:=?_);(repeat(first|refine wkH ?_|(refine tC rfl rfl ?_ ?_;focus(first|exact trivial|exact⟨⟨h1.a⟩,⟨h1.b⟩⟩))));refine Zo ?_;(repeat(refine Z0 ?_;intro _));refine Zs ?_)
 simp only[We hn]
 repeat(refine wkB ?_;intros)
 exact rtT rfl rfl⟩
theorem Zhb (v:Value)(us:List UL)(w:World)(hv:ArgS w v rU us)(hnil:us=[]->v= .slice none 0 0)(h:NF (us.map absU))(hk:∀u∈us,UIn u)(hk2:∀u∈us,IvOk 1048576 u.In)(hn:NrP us)(hl:us.length<=256):
  Calls prog 62 [vLabels,v].toArray w (Ret (.int .i64 0) w):=by
 obtain⟨n1,n2,n3⟩:=Zia h hk
 have:=ArgC.mk hv
 obtain⟨p,cp,rfl⟩:=hv.form
 have:∀L,LstN w L (.slice p us.length cp) UL rU us:=fun L=>⟨fun w' hw'=>hv.to hw'.ext,hnil⟩
 refine Zb Tryz.func62 rfl Tryz.ntmps62 rfl ?_
 repeat(refine wkB ?_;intros)
 simp only[We (show¬(256:Int)<us.length by omega)]
 repeat(refine wkB ?_;intros)
 refine Zq (S:=Nat) (fun m=>m<=us.length) (fun m=>[(0,vLabels),(1, .slice p us.length cp),(14, .slice p us.length cp),(15, .int .i64 us.length),(16, .int .i64 (m:Nat))]) (fun _=>[]) (fun m=>us.length-m) 0 (Wm _) sbB slB (fun m hm=>?_)
 repeat(refine wkB ?_;intros)
 refine Zk rfl (fun hc=>?_) (fun hc=>?_)
 ·have hlt:m<us.length:=by have:=Wa hc;omega
  have hne:us≠[]:=fun h0=>by rw[h0] at hlt;simp at hlt
  obtain⟨b1,o1,c1',hv1,hc1,hr1⟩:=hv.blk (k:=20) hne []
  injection hv1 with e1 e2 e3
  subst e1
  subst e3
  have hr1':∀L,RowC w L b1 o1 UL rU us:=fun L=>⟨fun w' hw'=>hr1.out w' (hw'.sub (Wk _))⟩
  have hu:=hk _ (ZA (i:=(m:Int)) (xs:=us) (by omega))
  have ho:=h.ok _ (List.mem_map.2 ⟨_,ZA (i:=(m:Int)) (xs:=us) (by omega),rfl⟩)
  have p1:IvOk 1048576 (gi us (m:Int)).In/\okI (gi us (m:Int)).In:=⟨hk2 _ (ZA (i:=(m:Int)) (xs:=us) (by omega)),ho⟩
  repeat(first|(refine wkB ?_;intros)|(refine wnM ?_ ?_;(focus(first|exact p1|exact trivial));intros))
  rename_i b6
  rcases Nat.eq_zero_or_pos m with h0|h0
  ·subst h0
   refine jD 14 14 (h:=?_)
   (repeat(refine wkH ?_))
   simp only[We (show¬(0:Int)<((0:Nat):Int) by decide)]
   (repeat(refine wkH ?_))
   refine Zo ?_
   refine Zs ?_
   repeat(refine wkB ?_;intros)
   exact Zg 1 hlt sbB slB (by omega)
  ·have hu0:=hk _ (ZA (i:=(m:Int)-1) (xs:=us) (by omega))
   have ha:aprt (gi us ((m:Int)-1)).In (gi us (m:Int)).In=true:=by
    have:=n3 (m-1) (by omega)
    rw[show((m-1:Nat):Int)=(m:Int)-1 by omega,show((m-1+1:Nat):Int)=(m:Int) by omega] at this
    exact this
   refine jD 14 14 (h:=?_)
   (repeat(refine wkH ?_))
   simp only[Wc (show(0:Int)<(m:Int) by omega)]
   (repeat(first|refine wkH ?_|(refine tC rfl rfl ?_ ?_;focus(exact⟨hu0.i.b,hu.i.a⟩))))
   simp only[ha,Bool.not_true]
   (repeat(refine wkH ?_))
   refine Zo ?_
   refine Zs ?_
   repeat(refine wkB ?_;intros)
   exact Zg (m+1) hlt sbB slB (by omega)
 ·repeat(first|(refine wkB ?_;intros)|(refine wnM ?_ ?_;(focus(exact⟨hn,hk⟩));intros))
  rename_i s
  obtain⟨s',e1,e2⟩:=SlS.turn 145 n1 s
  simp only[<-e1,<-e2,n2,Wc (rfl:(0:Int)=0),Bool.not_true]
  repeat(first|(refine wkB ?_;intros)|(refine wnM ?_ ?_;(focus(exact(show us.length<=1048576 by omega)));intros))
  exact rtT rfl rfl
instance (priority :=high) Zu7 (w0:World)(L:List Blk)(v:Value)(us:List UL)[h:LstN w0 L v UL rU us]:SpecM prog w0 L 62 [vLabels,v] (.int .i64 0) (NF (us.map absU)/\(∀u∈us,UIn u)/\(∀u∈us,IvOk 1048576 u.In)/\NrP us/\us.length<=256):=⟨fun hp w hw=>Zhb v us w (h.out w hw) h.nil hp.1 hp.2.1 hp.2.2.1 hp.2.2.2.1 hp.2.2.2.2⟩
structure PFineI (us:List PU):Prop where
 nf:NF (us.map absQ)
 k:∀u∈us,IvOk 1048576 u.In
 l:us.length<=256
theorem ZhK (v:Value)(us:List PU)(w:World)(hv:ArgS w v rP us)(h:PFineI us):Calls prog 15 [v].toArray w (Ret (.int .i64 0) w):=by
 have hl:=h.l
 have hml:=ZeC toU us
 obtain⟨s1,s2,s3,s4⟩:=ZnF h.nf (fun u hu=>(h.k u hu).mono (by decide)) (by omega)
 have p1:NF ((mpN toU us us.length).map absU)/\(∀u∈mpN toU us us.length,UIn u)/\(∀u∈mpN toU us us.length,IvOk 1048576 u.In)/\NrP (mpN toU us us.length)/\(mpN toU us us.length).length<=256:=by
  refine⟨?_,s2,fun u hu=>by rw[hml] at hu;obtain⟨w,hw,rfl⟩:=List.mem_map.1 hu;exact h.k w hw,s1,by rw[ZaV];exact hl⟩
  rw[hml,List.map_map]
  exact h.nf
 have:=ArgC.mk hv
 refine Zb Tryz.func15 rfl Tryz.ntmps15 rfl ?_
 have hl1:us.length<=1048576:=by omega
 repeat(refine wkB ?_;intros)
 (refine ZH (.v [0,1,2] (.e1 3 (.e1 4 (.e1 5 (.fin))))) (([]:List Blk)) (h:=?_);refine wkX ?_)
 (repeat(refine wkH ?_))
 repeat(first|(refine wkT ?_;intros)|(refine tC rfl rfl ?_ ?_;focus(first|exact hl1|exact p1))|(refine uC rfl rfl ?_ ?_;focus(first|exact hl1|exact p1))|(refine eN rfl rfl ?_ ?_;(focus(first|exact hl1|exact p1));intro _;(try simp only[Wf,Wg,Wh])))
 repeat(refine wkB ?_;intros)
 exact rtT rfl rfl
instance (priority :=high) ZuF (w0:World)(L:List Blk)(v:Value)(us:List PU)[h:LstC w0 L v PU rP us]:SpecM prog w0 L 15 [v] (.int .i64 0) (PFineI us):=⟨fun hp w hw=>ZhK v us w (h.out w hw) hp⟩
end
end Go.Vt
