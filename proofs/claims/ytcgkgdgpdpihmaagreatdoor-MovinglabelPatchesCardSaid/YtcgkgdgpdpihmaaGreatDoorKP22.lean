/- For any two moving labels and any period, Restrict returns the part during the period, and Patch the second one in place of the first one; patching by a part of itself changes nothing. Conditions: none. (part 22 of 30.) Conditions: those that each statement names. -/
import Derived.Test.YtcgkgdgpdpihmaaGreatDoorProg
import Derived.Test.YtcgkgdgpdpihmaaGreatDoorCards
import Derived.Test.YtcgkgdgpdpihmaaGreatDoorTie
import Derived.WalkKit
import Derived.ProofKit
import Derived.OpenShut
import Derived.Deep.DeepHandedRow
import Derived.Deep.DeepLaidRun
import Derived.Deep.SlicePairs
import Derived.Carry
import Derived.Lib.LaidU8
import Derived.Test.YtcgkgdgpdpihmaaGreatDoorKP9
import Derived.Test.YtcgkgdgpdpihmaaGreatDoorKP11
import Derived.Test.YtcgkgdgpdpihmaaGreatDoorKP13
import Derived.Test.YtcgkgdgpdpihmaaGreatDoorKP15
import Derived.Test.YtcgkgdgpdpihmaaGreatDoorKP16
import Derived.Test.YtcgkgdgpdpihmaaGreatDoorKP19
import Derived.Test.YtcgkgdgpdpihmaaGreatDoorKP21
set_option linter.unusedSimpArgs false
set_option linter.unusedVariables false
set_option maxHeartbeats 2000000
set_option maxRecDepth 100000
set_option linter.unusedSectionVars false
namespace Go.Vt
open Go.RowKit Go.Proofs
open Go.Proofs.Tryz (prog)
section
theorem Zuf (w:World):(Instr.buildSlice 65 0 [].toArray).run prog w= .ok (.slice (some ⟨w.heap.size,0,none⟩) 0 0) (w.alloc (.cells (row (eI .i64) [] []) 3)):=by kernel_rfl
instance (priority :=high) ZDe:BsC prog 65 0 [] (row (eI .i64) [] []) 3:=⟨Zuf⟩
theorem ZmW :dI 2=[2]:=by rw[Zcc (by decide)];rfl
instance (priority :=30000) lstD1 (w0:World)(L:List Blk)(b:Nat)(T:TypeId)[h:AtC w0 L b (row (eI .i64) [1] []) T]:LstC w0 L (.slice (some ⟨b,0,none⟩) 1 1) Int (eI .i64) (dI 1):=by
 rw[ZfL]
 exact⟨fun w hw=>by
  obtain⟨fz,hb⟩:=h.out w hw
  exact Zbz (c:=1) hb (Wl 1)⟩
instance (priority :=30000) lstD2 (w0:World)(L:List Blk)(b:Nat)(T:TypeId)[h:AtC w0 L b (row (eI .i64) [2] []) T]:LstC w0 L (.slice (some ⟨b,0,none⟩) 1 1) Int (eI .i64) (dI 2):=by
 rw[ZmW]
 exact⟨fun w hw=>by
  obtain⟨fz,hb⟩:=h.out w hw
  exact Zbz (c:=1) hb (Wl 1)⟩
theorem ZjK (m n:Nat):Lib.compareInt (m:Int) n<0↔m<n:=by
 have:=Zoc m n
 omega
theorem ZjP (m n:Nat):Lib.compareInt (m:Int) n<=0↔m<=n:=by
 unfold Lib.compareInt
 split
 ·exact⟨fun _=>by omega,fun _=>by decide⟩
 ·split
  ·exact⟨fun h=>by omega,fun h=>by omega⟩
  ·exact⟨fun _=>by omega,fun _=>by decide⟩
theorem ZkV (m n:Nat):Lib.compareInt (m:Int) n=0↔m=n:=by
 unfold Lib.compareInt
 split
 ·exact⟨fun h=>by omega,fun h=>by omega⟩
 ·split
  ·exact⟨fun h=>by omega,fun h=>by omega⟩
  ·exact⟨fun _=>by omega,fun _=>rfl⟩
set_option maxHeartbeats 16000000 in
theorem ZlB (v:Value)(n:Nat)(w:World)(hv:ArgS w v (eI .i64) (dI n))(hl:(dI n).length<=268435456):
  Calls prog 159 [v].toArray w (RetM (FlS (eI .i64) 1 (dI (rtN n))) (fun s=>vF s) (fun s=>mF 3 s) w):=by
 have hc:=fun L=>hv.lst L
 have l1:(dI 1).length<=1:=by rw[ZfL];exact Wl _
 have l2:(dI 2).length<=1:=by rw[ZmW];exact Wl _
 have p0:(dI n).length<=1099511627776/\(dI 1).length<=1099511627776:=⟨by omega,by omega⟩
 have hb:∀m,m<=n+1->(dI m).length<=268435457:=fun m hm=>by
  have h1:=Zin (m:=n) (n:=1) (a:=268435456) hl (by omega)
  exact Zfz hm h1
 have hn1:n<(n+1)*(n+1):=by
  have:(n+1)*(n+1)=n*n+2*n+1:=by grind
  omega
 refine Zb Tryz.func159 rfl Tryz.ntmps159 rfl ?_
 repeat(first|(refine wkB ?_;intros)|(refine wnM ?_ ?_;(focus(exact p0));intros))
 rename_i b7 b9 f
 refine Zo (S:=(lo:Nat)×(hi:Nat)×FlS (eI .i64) 1 (dI lo)×FlS (eI .i64) 1 (dI hi)) (fun s=>(s.1*s.1<=n/\n<s.2.1*s.2.1)/\s.2.1<=n+1) (fun s=>[(0,v),(3,vF s.2.2.1),(4,vF s.2.2.2)]) (fun s=>mF 3 s.2.2.2++mF 3 s.2.2.1) (fun s=>s.2.1-s.1) ⟨0,n+1,FlS.em b7,f⟩ ⟨⟨Wm _,hn1⟩,Wl _⟩ sbB (by dsimp only[FlS.em_m];exact suB) (fun s hs=>?_)
 obtain⟨lo,hi,slo,shi⟩:=s
 obtain⟨⟨h1,h2⟩,h3⟩:=hs
 dsimp only at h1 h2 h3⊢
 have hlh:lo<hi:=by
  rcases Nat.lt_or_ge lo hi with h|h
  ·exact h
  ·have:=sqm h;omega
 have b1:=hb lo (by omega)
 have b2:=hb hi h3
 have p1:(dI lo).length<=1099511627776/\(dI 1).length<=1099511627776:=⟨by omega,by omega⟩
 have p2:(dI (lo+1)).length<=1125899906842624/\(dI hi).length<=1125899906842624:=⟨by have:=hb (lo+1) (by omega);omega,by omega⟩
 repeat(first|(refine wkB ?_;intros)|(refine wnM ?_ ?_;(focus(first|exact p1|exact p2));intros))
 refine Zk rfl (fun h=>?_) (fun h=>?_)
 ·have hlt:=(ZjK (lo+1) hi).1 (Wa h)
  have p3:(dI lo).length<=1099511627776/\(dI hi).length<=1099511627776:=⟨by omega,by omega⟩
  have b3:(dI (lo+hi)).length<=268435458:=Zin b1 b2
  have p4:((dI (lo+hi)).length<=1073741824/\(dI 2).length<=1073741824)/\0<2:=⟨⟨by omega,by omega⟩,by decide⟩
  repeat(first|(refine wkB ?_;intros)|(refine wnM ?_ ?_;(focus(first|exact p3|exact p4));intros))
  rename_i d
  obtain⟨q,r,al⟩:=d
  dsimp only
  simp only[List.append_assoc]
  have hm1:lo<(lo+hi) / 2:=by omega
  have hm2:(lo+hi) / 2<hi:=by omega
  have b4:=hb ((lo+hi) / 2) (by omega)
  have p5:(dI ((lo+hi) / 2)).length<=1099511627776/\(dI ((lo+hi) / 2)).length<=1099511627776:=⟨by omega,by omega⟩
  have b5:=Zct b4 b4
  have p6:(dI (((lo+hi) / 2)*((lo+hi) / 2))).length<=1125899906842624/\(dI n).length<=1125899906842624:=⟨by omega,by omega⟩
  repeat(first|(refine wkB ?_;intros)|(refine wnM ?_ ?_;(focus(first|exact p5|exact p6));intros))
  refine Zk rfl (fun h=>?_) (fun h=>?_)
  ·have hle:=(ZjP (((lo+hi) / 2)*((lo+hi) / 2)) n).1 (Wa h)
   repeat(refine wkB ?_;intros)
   exact Zip ⟨((lo+hi) / 2),hi,q,shi⟩ ⟨⟨hle,h2⟩,h3⟩ sbB inferInstance (by show hi-((lo+hi) / 2)<hi-lo;omega)
  ·have hgt:n<((lo+hi) / 2)*((lo+hi) / 2):=by
    rcases Nat.lt_or_ge n (((lo+hi) / 2)*((lo+hi) / 2)) with h0|h0
    ·exact h0
    ·exact absurd ((ZjP (((lo+hi) / 2)*((lo+hi) / 2)) n).2 h0) (Wb h)
   repeat(refine wkB ?_;intros)
   exact Zip ⟨lo,((lo+hi) / 2),slo,q⟩ ⟨⟨h1,hgt⟩,by show((lo+hi) / 2)<=n+1;omega⟩ sbB inferInstance (by show((lo+hi) / 2)-lo<hi-lo;omega)
 ·have hge:hi=lo+1:=by
   have h0:¬lo+1<hi:=fun h0=>Wb h ((ZjK (lo+1) hi).2 h0)
   omega
  subst hge
  have hr:rtN n=lo:=ZnC ⟨h1,h2⟩
  obtain⟨f',g1,g2⟩:=slo.like (show dI (rtN n)=dI lo by rw[hr])
  repeat(refine wkB ?_;intros)
  exact Zr rfl rfl (fun w hw=>⟨f',by show Ending.returned _=Ending.returned (vF f');rw[g1],by show Own _ (mF _ f') _;rw[g2];exact hw.sub suB⟩)
instance ZAr (w0:World)(L:List Blk)(v:Value)(n:Nat)[h:LstC w0 L v Int (eI .i64) (dI n)]:SpecR prog w0 L 159 [v] (FlS (eI .i64) 1 (dI (rtN n))) (fun s=>vF s) (fun s=>mF 3 s) ((dI n).length<=268435456):=⟨fun hl w hw=>ZlB v n w (h.out w hw) hl⟩
theorem Zsw (q:Rat):(rtQ q).isSome=true↔0<=q.num/\rtN q.num.natAbs*rtN q.num.natAbs=q.num.natAbs/\rtN q.den*rtN q.den=q.den:=by
 unfold rtQ
 split
 ·rename_i h;exact⟨fun _=>h,fun _=>rfl⟩
 ·rename_i h;exact⟨(fun k=>by cases k),fun k=>(h k).elim⟩
set_option maxHeartbeats 16000000 in
theorem ZlF (a:Rat)(w:World)(hl:M a<=268435456):
  Calls prog 112 [vQ a].toArray w (Ret (.tuple #[vQ ((rtQ a).getD 0), .bool (rtQ a).isSome]) w):=by
 have ha:M a<=1073741824:=by omega
 have x1:(dI a.num.natAbs).length<=268435456:=by rw[ZbN];exact Wi (Nat.le_max_left _ _) hl
 have x2:(dI a.den).length<=268435456:=by have:=ZbN (a.den:Int);rw[Int.natAbs_natCast] at this;rw[this];exact Wi (Nat.le_max_right _ _) hl
 have r1:(dI (rtN a.num.natAbs)).length<=268435456:=Zfz (Zcr _) x1
 have r2:(dI (rtN a.den)).length<=268435456:=Zfz (Zcr _) x2
 have m1:=Zct r1 r1
 have m2:=Zct r2 r2
 have p1:(dI (rtN a.num.natAbs)).length<=1099511627776/\(dI (rtN a.num.natAbs)).length<=1099511627776:=⟨by omega,by omega⟩
 have p2:(dI (rtN a.den)).length<=1099511627776/\(dI (rtN a.den)).length<=1099511627776:=⟨by omega,by omega⟩
 have p3:(dI (rtN a.num.natAbs*rtN a.num.natAbs)).length<=1125899906842624/\(dI a.num.natAbs).length<=1125899906842624:=⟨by omega,by omega⟩
 have p4:(dI (rtN a.den*rtN a.den)).length<=1125899906842624/\(dI a.den).length<=1125899906842624:=⟨by omega,by omega⟩
 have hd0:0<rtN a.den:=Zot a.den_pos (Zdt _).2
 have p5:((dI (rtN a.num.natAbs)).length<=1073741824/\(dI (rtN a.den)).length<=1073741824)/\0<rtN a.den:=⟨⟨by omega,by omega⟩,hd0⟩
 have hiff:=Zsw a
 have hval:(rtQ a).isSome=true->Rat.divInt (sgI false (rtN a.num.natAbs)) (rtN a.den:Nat)=(rtQ a).getD 0:=fun h=>by
  have:=hiff.1 h
  unfold rtQ
  rw[if_pos this]
  rfl
 have hnone:(rtQ a).isSome=false->(rtQ a).getD 0=0:=fun h=>by
  cases h0:rtQ a with
  |none=>rfl
  |some q=>rw[h0] at h;cases h
 refine Zb Tryz.func112 rfl Tryz.ntmps112 rfl ?_
 repeat(first|(refine wkB ?_;intros)|(refine wnM ?_ ?_;(focus(exact ha));intros))
 rename_i b1 b2 s b4
 simp only[FrO.fr_eq,FrO.mem,List.append_assoc]
 refine ZY (S:=FlS (eI .i64) 1 (dI (rtN a.num.natAbs))×FlS (eI .i64) 1 (dI (rtN a.den))) (fun _=>True) (fun q=>[(2, .pointer (some ⟨b2,0,none⟩)),(3, .bool false),(4, .pointer (some ⟨b4,0,none⟩)),(5,vF q.1),(6,vF q.2)]) (fun q=>mF 3 q.1++(mF 3 q.2++(⟨b4,Zd ⟨decide (a.num<0),flH s.n,flH s.d⟩,162⟩::⟨b2,Zl (Q 0),33⟩::(mF 3 s.n++mF 3 s.d)))) ?_ (fun q _=>?_)
 ·(refine ZE (.v [0,1,3,4] (.e1 2 (.e1 5 (.e1 6 (.e1 7 (.fin)))))) ([⟨b4,Zd ⟨decide (a.num<0),flH s.n,flH s.d⟩,162⟩]) (h:=?_);refine wkX ?_)
  repeat' (first|(with_reducible refine And.intro ?_ ?_)|(with_reducible exact True.intro)|(refine wkT ?_;intros)|(refine tC rfl rfl ?_ ?_;focus(first|exact x1|exact x2))|(refine uC rfl rfl ?_ ?_;focus(first|exact x1|exact x2))|(refine eN rfl rfl ?_ ?_;(focus(first|exact x1|exact x2));intro _;(try simp only[Wf,Wg,Wh]))|fail)
  all_goals exact Zbo ⟨_,_⟩ trivial sbB inferInstance
 obtain⟨qn,qd⟩:=q
 dsimp only
 repeat(refine wkB ?_;intros)
 refine ZY (S:=Unit) (fun _=>True) (fun _=>[(2, .pointer (some ⟨b2,0,none⟩)),(3, .bool false),(5,vF qn),(6,vF qd),(34, .bool (!(rtQ a).isSome))]) (fun _=>mF 3 qn++(mF 3 qd++[⟨b2,Zl (Q 0),33⟩])) ?_ (fun _ _=>?_)
 ·have g1:=ZkV (rtN a.num.natAbs*rtN a.num.natAbs) a.num.natAbs
  have g2:=ZkV (rtN a.den*rtN a.den) a.den
  have i1:∀(L:List Blk)(u1 u2:Value) [LstC w L u1 Int (eI .i64) (dI (rtN a.num.natAbs*rtN a.num.natAbs))] [LstC w L u2 Int (eI .i64) (dI a.num.natAbs)],SpecM prog w L 125 [u1,u2] (.int .i64 (Lib.compareInt ((rtN a.num.natAbs*rtN a.num.natAbs:Nat):Int) a.num.natAbs)) ((dI (rtN a.num.natAbs*rtN a.num.natAbs)).length<=1125899906842624/\(dI a.num.natAbs).length<=1125899906842624):=fun L u1 u2 _ _=>inferInstance
  have i2:∀(L:List Blk)(u1 u2:Value) [LstC w L u1 Int (eI .i64) (dI (rtN a.den*rtN a.den))] [LstC w L u2 Int (eI .i64) (dI a.den)],SpecM prog w L 125 [u1,u2] (.int .i64 (Lib.compareInt ((rtN a.den*rtN a.den:Nat):Int) a.den)) ((dI (rtN a.den*rtN a.den)).length<=1125899906842624/\(dI a.den).length<=1125899906842624):=fun L u1 u2 _ _=>inferInstance
  generalize Lib.compareInt ((rtN a.num.natAbs*rtN a.num.natAbs:Nat):Int) a.num.natAbs=z1 at*
  generalize Lib.compareInt ((rtN a.den*rtN a.den:Nat):Int) a.den=z2 at*
  by_cases hneg:a.num<0
  ·have hs:(rtQ a).isSome=false:=Bool.eq_false_iff.2 fun h=>by have:=(hiff.1 h).1;omega
   simp only[Wc hneg,hs,Bool.not_false]
   (refine ZE (.v [0,1,2,3,4,5,6,7,8,9,10,11,12,13,14,15,16,17,18,19] (.fin)) ([⟨b4,Zd ⟨true,flH s.n,flH s.d⟩,162⟩]) (h:=?_);refine wkX ?_)
   repeat' (first|(with_reducible refine And.intro ?_ ?_)|(with_reducible exact True.intro)|(refine wkT ?_;intros)|(refine tC rfl rfl ?_ ?_;focus(first|exact p1|exact p2|exact p3|exact p4))|(refine uC rfl rfl ?_ ?_;focus(first|exact p1|exact p2|exact p3|exact p4))|(refine eN rfl rfl ?_ ?_;(focus(first|exact p1|exact p2|exact p3|exact p4));intro _;(try simp only[Wf,Wg,Wh]))|fail)
   all_goals exact Zbo () trivial sbB inferInstance
  ·simp only[We hneg]
   by_cases c1:z1=0
   ·by_cases c2:z2=0
    ·have hs:(rtQ a).isSome=true:=hiff.2 ⟨by omega,g1.1 c1,g2.1 c2⟩
     simp only[hs,Bool.not_true]
     (refine ZE (.v [0,1,2,3,4,6,7] (.e1 5 (.e1 8 (.v [9,10,11,12,13,15,16] (.e1 14 (.e1 17 (.v [18,19] (.fin)))))))) ([⟨b4,Zd ⟨false,flH s.n,flH s.d⟩,162⟩]) (h:=?_);refine wkX ?_)
     repeat' (first|(with_reducible refine And.intro ?_ ?_)|(with_reducible exact True.intro)|(refine wkT ?_;intros)|(refine tC rfl rfl ?_ ?_;focus(first|exact p1|exact p2|exact p3|exact p4))|(refine uC rfl rfl ?_ ?_;focus(first|exact p1|exact p2|exact p3|exact p4))|(refine eN rfl rfl ?_ ?_;(focus(first|exact p1|exact p2|exact p3|exact p4));intro _;(try simp only[Wf,Wg,Wh]))|fail)
     all_goals simp only[Wc c1,Bool.not_true]
     repeat' (first|(with_reducible refine And.intro ?_ ?_)|(with_reducible exact True.intro)|(refine wkT ?_;intros)|(refine tC rfl rfl ?_ ?_;focus(first|exact p1|exact p2|exact p3|exact p4))|(refine uC rfl rfl ?_ ?_;focus(first|exact p1|exact p2|exact p3|exact p4))|(refine eN rfl rfl ?_ ?_;(focus(first|exact p1|exact p2|exact p3|exact p4));intro _;(try simp only[Wf,Wg,Wh]))|fail)
     all_goals simp only[Wc c2,Bool.not_true]
     repeat' (first|(with_reducible refine And.intro ?_ ?_)|(with_reducible exact True.intro)|(refine wkT ?_;intros)|(refine tC rfl rfl ?_ ?_;focus(first|exact p1|exact p2|exact p3|exact p4))|(refine uC rfl rfl ?_ ?_;focus(first|exact p1|exact p2|exact p3|exact p4))|(refine eN rfl rfl ?_ ?_;(focus(first|exact p1|exact p2|exact p3|exact p4));intro _;(try simp only[Wf,Wg,Wh]))|fail)
     all_goals exact Zbo () trivial sbB inferInstance
    ·have hs:(rtQ a).isSome=false:=Bool.eq_false_iff.2 fun h=>c2 (g2.2 (hiff.1 h).2.2)
     simp only[hs,Bool.not_false]
     (refine ZE (.v [0,1,2,3,4,6,7] (.e1 5 (.e1 8 (.v [9,10,11,12,13,15,16] (.e1 14 (.e1 17 (.v [18,19] (.fin)))))))) ([⟨b4,Zd ⟨false,flH s.n,flH s.d⟩,162⟩]) (h:=?_);refine wkX ?_)
     repeat' (first|(with_reducible refine And.intro ?_ ?_)|(with_reducible exact True.intro)|(refine wkT ?_;intros)|(refine tC rfl rfl ?_ ?_;focus(first|exact p1|exact p2|exact p3|exact p4))|(refine uC rfl rfl ?_ ?_;focus(first|exact p1|exact p2|exact p3|exact p4))|(refine eN rfl rfl ?_ ?_;(focus(first|exact p1|exact p2|exact p3|exact p4));intro _;(try simp only[Wf,Wg,Wh]))|fail)
     all_goals simp only[Wc c1,Bool.not_true]
     repeat' (first|(with_reducible refine And.intro ?_ ?_)|(with_reducible exact True.intro)|(refine wkT ?_;intros)|(refine tC rfl rfl ?_ ?_;focus(first|exact p1|exact p2|exact p3|exact p4))|(refine uC rfl rfl ?_ ?_;focus(first|exact p1|exact p2|exact p3|exact p4))|(refine eN rfl rfl ?_ ?_;(focus(first|exact p1|exact p2|exact p3|exact p4));intro _;(try simp only[Wf,Wg,Wh]))|fail)
     all_goals simp only[We c2,Bool.not_false]
     repeat' (first|(with_reducible refine And.intro ?_ ?_)|(with_reducible exact True.intro)|(refine wkT ?_;intros)|(refine tC rfl rfl ?_ ?_;focus(first|exact p1|exact p2|exact p3|exact p4))|(refine uC rfl rfl ?_ ?_;focus(first|exact p1|exact p2|exact p3|exact p4))|(refine eN rfl rfl ?_ ?_;(focus(first|exact p1|exact p2|exact p3|exact p4));intro _;(try simp only[Wf,Wg,Wh]))|fail)
     all_goals exact Zbo () trivial sbB inferInstance
   ·have hs:(rtQ a).isSome=false:=Bool.eq_false_iff.2 fun h=>c1 (g1.2 (hiff.1 h).2.1)
    simp only[hs,Bool.not_false]
    (refine ZE (.v [0,1,2,3,4,6,7] (.e1 5 (.e1 8 (.v [9,10,11,12,13,14,15,16,17,18,19] (.fin))))) ([⟨b4,Zd ⟨false,flH s.n,flH s.d⟩,162⟩]) (h:=?_);refine wkX ?_)
    repeat' (first|(with_reducible refine And.intro ?_ ?_)|(with_reducible exact True.intro)|(refine wkT ?_;intros)|(refine tC rfl rfl ?_ ?_;focus(first|exact p1|exact p2|exact p3|exact p4))|(refine uC rfl rfl ?_ ?_;focus(first|exact p1|exact p2|exact p3|exact p4))|(refine eN rfl rfl ?_ ?_;(focus(first|exact p1|exact p2|exact p3|exact p4));intro _;(try simp only[Wf,Wg,Wh]))|fail)
    all_goals simp only[We c1,Bool.not_false]
    repeat' (first|(with_reducible refine And.intro ?_ ?_)|(with_reducible exact True.intro)|(refine wkT ?_;intros)|(refine tC rfl rfl ?_ ?_;focus(first|exact p1|exact p2|exact p3|exact p4))|(refine uC rfl rfl ?_ ?_;focus(first|exact p1|exact p2|exact p3|exact p4))|(refine eN rfl rfl ?_ ?_;(focus(first|exact p1|exact p2|exact p3|exact p4));intro _;(try simp only[Wf,Wg,Wh]))|fail)
    all_goals exact Zbo () trivial sbB inferInstance
 ·cases hs:(rtQ a).isSome with
  |false=>
   rw[hnone hs]
   repeat(refine wkB ?_;intros)
   exact ZC rfl (ZZ rfl) (Zs rfl) (fun w hw=>ZG hw)
  |true=>
   rw[<-hval hs]
   repeat(first|(refine wkB ?_;intros)|(refine wnM ?_ ?_;(focus(exact p5));intros))
   exact ZC rfl (ZZ rfl) (Zs rfl) (fun w hw=>ZG hw)
instance Zy8 (a:Rat):SpecC prog 112 [vQ a] (.tuple #[vQ ((rtQ a).getD 0), .bool (rtQ a).isSome]) (M a<=268435456):=⟨fun hp w=>ZlF a w hp⟩
end
section
def ofR (p r:Rat)(neg:Bool):Rl:=match rtQ r with
 |some q=>⟨if neg=true then p-q else p+q,0,false⟩
 |none=>⟨p,r,neg⟩
theorem ZmX {p r:Rat}{neg:Bool}(hr:0<=r):(rvR (ofR p r neg)).ok:=by
 unfold ofR
 split
 ·exact RV.ok_rat _
 ·rename_i h
  have h0:r≠0:=fun h0=>by
   have:=Zii h 0
   rw[h0] at this
   exact this (by grind)
  exact⟨.inr ⟨by show 0<r;grind,fun q=>Zii h q⟩,fun h1=>(h0 h1).elim⟩
theorem ZqB {r q:Rat}(h:rtQ r=some q):M q<=M r:=by
 unfold rtQ at h
 split at h
 ·injection h with h
  subst h
  have h1:=Zbh r
  have h2:=ZaV r
  refine Zcg (Wi (ZeO ?_) h1) (Wi (ZeO ?_) h2) ?_
  ·rw[Int.natAbs_natCast];exact Zcr _
  ·rw[Int.natAbs_natCast,Int.natAbs_natCast];exact Zcr _
  ·exact @Zmy r
 ·cases h
theorem Zv8 {p r:Rat}{neg:Bool}{k:Nat}(hr:0<=r)(h1:M p<=k)(h2:M r<=k)(hk:1<=k):RlB (2*k+1) (ofR p r neg):=by
 refine⟨ZmX hr, ?_, ?_⟩
 ·unfold ofR
  split
  ·rename_i q h
   have h3:=ZqB h
   dsimp only
   split
   ·have:=ZqR p q;omega
   ·have:=Zhq p q;omega
  ·dsimp only;omega
 ·unfold ofR
  split
  ·show M 0<=_;have:M 0<=1:=by decide
   omega
  ·dsimp only;omega
set_option maxHeartbeats 8000000 in
instance ZCb (p r:Rat)(neg:Bool):SpecC prog 135 [vQ p,vQ r, .bool neg] (vR (ofR p r neg)) (M p<=1000/\M r<=1000):=⟨fun hp w=>by
 obtain⟨h1,h2⟩:=hp
 have h3:M r<=268435456:=by omega
 have d1:∀q,rtQ r=some q->ofR p r true=⟨p-q,0,false⟩:=fun q h=>by unfold ofR;rw[h];rfl
 have d2:∀q,rtQ r=some q->ofR p r false=⟨p+q,0,false⟩:=fun q h=>by unfold ofR;rw[h];rfl
 have d3:rtQ r=none->ofR p r neg=⟨p,r,neg⟩:=fun h=>by unfold ofR;rw[h]
 refine Zb Tryz.func135 rfl Tryz.ntmps135 rfl ?_
 repeat(first|(refine wkB ?_;intros)|(refine wnM ?_ ?_;(focus(exact h3));intros))
 cases h:rtQ r with
 |none=>
  rw[d3 h]
  repeat(refine wkB ?_;intros)
  exact rtC rfl rfl
 |some q=>
  have hq:=ZqB h
  have h4:M p<=268435456/\M q<=268435456:=⟨by omega,by omega⟩
  simp only[Option.isSome_some,Option.getD_some]
  cases neg with
  |true=>
   rw[d1 q h]
   repeat(first|(refine wkB ?_;intros)|(refine wnM ?_ ?_;(focus(exact h4));intros))
   exact rtC rfl rfl
  |false=>
   rw[d2 q h]
   repeat(first|(refine wkB ?_;intros)|(refine wnM ?_ ?_;(focus(exact h4));intros))
   exact rtC rfl rfl⟩
abbrev WI :=ZP
abbrev vWI (x:WI):Value:= .agg (ZI x)
structure WIOk (x:WI):Prop where
 p:0<=x.P/\x.P<=255
 d:0<=x.D/\x.D<=255
 r:0<=x.R/\x.R<=255
 e:0<=x.E/\x.E<=255
def inP (x:WI):Rat:=Rat.divInt (x.P % 64) (1+x.D % 4)
def inR (x:WI):Rat:=Rat.divInt (x.R % 12) (1+x.E % 3)
def insT (x:WI):Rl:=ofR (inP x) (inR x) x.Neg
theorem ZqJ {x:WI}(h:WIOk x):M (inP x)<=1:=Zcg (Zcb (k:=1) (by have:=h.p;omega)) (Zcb (k:=1) (by have:=h.d;omega)) (Wl _)
theorem ZqP {x:WI}(h:WIOk x):M (inR x)<=1:=Zcg (Zcb (k:=1) (by have:=h.r;omega)) (Zcb (k:=1) (by have:=h.e;omega)) (Wl _)
theorem Znx (x:WI):0<=inR x:=by
 unfold inR
 exact Rat.divInt_nonneg_iff_of_pos_right (by omega) |>.2 (by omega)
theorem ZfF {x:WI}(h:WIOk x):RlB 3 (insT x):=Zv8 (Znx x) (ZqJ h) (ZqP h) (Wl _)
set_option maxHeartbeats 8000000 in
instance ZuP (x:WI):SpecC prog 89 [vWI x] (vR (insT x)) (WIOk x):=⟨fun hx w=>by
 have h1:=hx.p
 have h2:=hx.d
 have h3:=hx.r
 have h4:=hx.e
 have m1:=ZqJ hx
 have m2:=ZqP hx
 have p1:1+x.D % 4≠0/\(-9223372036854775808<=x.P % 64/\x.P % 64<=9223372036854775807)/\(-9223372036854775808<=1+x.D % 4/\1+x.D % 4<=9223372036854775807):=by omega
 have p2:1+x.E % 3≠0/\(-9223372036854775808<=x.R % 12/\x.R % 12<=9223372036854775807)/\(-9223372036854775808<=1+x.E % 3/\1+x.E % 3<=9223372036854775807):=by omega
 have p3:M (Rat.divInt (x.P % 64) (1+x.D % 4))<=1000/\M (Rat.divInt (x.R % 12) (1+x.E % 3))<=1000:=⟨Wi m1 (by decide),Wi m2 (by decide)⟩
 refine Zb Tryz.func89 rfl Tryz.ntmps89 rfl ?_
 repeat(refine wkB ?_;intros)
 rename_i b1 b2
 (refine ZE (.v [0,1,2,3,4,5,6,7,8,9,10,11,12,13,14,15,16,17,18,19,20,21,22] (.e1 23 (.fin))) ([⟨b1,ZI x,40⟩]) (h:=?_);refine wkX ?_)
 (repeat(first|refine wkH ?_|(refine tC rfl rfl ?_ ?_;focus(first|exact p1|exact p2|exact p3))))
 repeat(refine wkT ?_;intros)
 repeat(refine wkB ?_;intros)
 exact rtC rfl rfl⟩
abbrev WS :=ZU
abbrev vWS (x:WS):Value:= .agg (ZL x)
structure WSOk (x:WS):Prop where
 a:WIOk x.A
 b:WIOk x.B
noncomputable def ivS (s:WS):Za:=if 0<cl (insT s.A) (insT s.B) then⟨insT s.B,insT s.A,s.OpenA,s.OpenB⟩ else if cl (insT s.A) (insT s.B)=0 then⟨insT s.A,insT s.B,false,false⟩ else⟨insT s.A,insT s.B,s.OpenA,s.OpenB⟩
theorem Zqx {s:WS}(h:WSOk s):IvOk 3 (ivS s):=by
 have h1:=ZfF h.a
 have h2:=ZfF h.b
 unfold ivS
 split
 ·exact⟨h2,h1⟩
 ·split <;> exact⟨h1,h2⟩
set_option maxHeartbeats 8000000 in
instance Zte (s:WS):SpecC prog 71 [vWS s] (vIv (ivS s)) (WSOk s):=⟨fun hs w=>by
 have ha:=hs.a
 have hb:=hs.b
 have p1:RlB B28 (insT s.A)/\RlB B28 (insT s.B):=⟨(ZfF ha).mono (by decide),(ZfF hb).mono (by decide)⟩
 have hd:ivS s=ivS s:=rfl
 conv at hd=>rhs;unfold ivS
 refine Zb Tryz.func71 rfl Tryz.ntmps71 rfl ?_
 repeat(refine wkB ?_;intros)
 rename_i b1 b2
 (refine jD 11 12 (h:=?_);(repeat(first|refine wkH ?_|(refine tC rfl rfl ?_ ?_;focus(first|exact ha|exact hb))));refine Zp ?_;(repeat(refine Z3 ?_;intro _));refine Zq ?_)
 repeat(first|(refine wkB ?_;intros)|(refine wnM ?_ ?_;(focus(exact p1));intros))
 rw[hd]
 generalize cl (insT s.A) (insT s.B)=n at*
 by_cases c1:0<n
 ·rw[if_pos c1]
  simp only[Wc c1]
  repeat(refine wkB ?_;intros)
  simp only[We (show¬n=0 by omega)]
  repeat(refine wkB ?_;intros)
  exact rtC rfl rfl
 ·rw[if_neg c1]
  simp only[We c1]
  repeat(refine wkB ?_;intros)
  by_cases c2:n=0
  ·rw[if_pos c2]
   simp only[Wc c2]
   repeat(refine wkB ?_;intros)
   exact rtC rfl rfl
  ·rw[if_neg c2]
   simp only[We c2]
   repeat(refine wkB ?_;intros)
   exact rtC rfl rfl⟩
instance ZsZ (s:WS):SpecC prog 18 [vWS s] (vIv (ivS s)) (WSOk s):=⟨fun hs w=>by
 refine Zb Tryz.func18 rfl Tryz.ntmps18 rfl ?_
 repeat(first|(refine wkB ?_;intros)|(refine wnM ?_ ?_;(focus(exact hs));intros))
 exact rtC rfl rfl⟩
end
end Go.Vt
namespace Go.Vt
open Go.RowKit Go.Proofs
open Go.Proofs.Tryz (prog)
theorem Zsq {P:Program}{w0:World}{n:Nat}{Q:Exit->Act->World->Prop}{E:Env}{L:List Blk}{S:Type}{id id':Nat}(I:S->Prop)(Es:S->Env)(Ls:S->List Blk){x y:Code}(h1:J P w0 n x (Exit.inBlock id (Exit.inBlock id' (MidQ w0 n I Es Ls (fun _ _=>True) Q))) E L)(h2:∀s,I s->J P w0 n y Q (Es s) (Ls s)):J P w0 n x (Exit.inBlock id (Exit.inBlock id' (Then P y Q))) E L:=⟨fun a w ha hw=>wp_mono (h1.out a w ha hw) (ZT (ZT (ZM h2)))⟩
abbrev St :=Zac
abbrev rSt :=Zay
instance Zn9 :EncC rSt 13:=⟨fun _=>CsC.size,fun _=>CsC.one⟩
instance : Inhabited St:=⟨ZdI⟩
structure StOk (x:St):Prop where
 a:WSOk x.In
 l:0<=x.Label/\x.Label<=255
noncomputable def inS (l:List St):Nat->List Za
 |0=>[]
 |m+1=>inS l m++[ivS (gi l (m:Int)).In]
theorem ZgB (l:List St):∀m,(inS l m).length=m
 |0=>rfl
 |m+1=>by rw[inS,Wp,ZgB l m];rfl
theorem ZnK {l:List St}(h:∀x∈l,StOk x):∀m,m<=l.length->∀i∈inS l m,IvOk 3 i
 |0,_,i,hi=>by cases hi
 |m+1,hm,i,hi=>by
  rw[inS,Wv,Wo] at hi
  rcases hi with hi|rfl
  ·exact ZnK h m (by omega) i hi
  ·exact Zqx (h _ (Zu (by omega))).a
noncomputable def cndS (ins:List Za)(c:Za)(k:Nat):Bool:=spB [gi ins (k:Int)] c.From c.To&&(!decide (c.From=c.To)||inB (gi ins (k:Int)) c.From)
noncomputable def pkS (ins:List Za)(c:Za):Nat->Option Nat
 |0=>none
 |m+1=>if cndS ins c m=true then some m else pkS ins c m
noncomputable def mv1 (l:List St)(ins:List Za)(c:Za)(out:List PU):List PU:=match pkS ins c ins.length with
 |some k=>out++[⟨c,(gi l (k:Int)).Label % 5⟩]
 |none=>out
noncomputable def mvS (l:List St)(ins cs:List Za):Nat->List PU
 |0=>[]
 |i+1=>mv1 l ins (gi cs (i:Int)) (mvS l ins cs i)
theorem Zrd (l:List St)(ins:List Za)(c:Za)(out:List PU):(mv1 l ins c out).length<=out.length+1:=by
 unfold mv1
 split <;> simp
theorem ZeV (l:List St)(ins cs:List Za):∀i,(mvS l ins cs i).length<=i
 |0=>Wl _
 |i+1=>by
  have h1:=ZeV l ins cs i
  have h2:=Zrd l ins (gi cs (i:Int)) (mvS l ins cs i)
  rw[mvS]
  omega
noncomputable def insV (l:List St):List Za:=inS l (min l.length 8)
noncomputable def celV (l:List St):List Za:=celR (nrmS (insV l)) (enR (insV l))
noncomputable def movU (l:List St):List PU:=mvS l (insV l) (celV l) (celV l).length
noncomputable def movV (l:List St):List PU:=jnL (movU l) (movU l).length
theorem Zd3 (l:List St):(insV l).length<=8/\(insV l).length<=l.length:=by
 unfold insV
 rw[ZgB]
 omega
theorem Zhv (l:List St):(celV l).length<=160:=by
 have h1:=(Zd3 l).1
 have h2:=Zbw (insV l)
 have h3:=ZbW (insV l)
 have h4:=Zh9 (nrmS (insV l)) (enR (insV l))
 unfold celV
 omega
theorem Zpg (l:List St):(movV l).length<=160:=by
 have h1:=Zhv l
 have h2:=ZeV l (insV l) (celV l) (celV l).length
 have h3:=ZeL (movU l) (movU l).length
 unfold movV
 have h4:(movU l).length=(mvS l (insV l) (celV l) (celV l).length).length:=rfl
 omega
theorem ZcN {l:List St}(h:∀x∈l,StOk x):∀i∈insV l,IvOk 3 i:=ZnK h _ (Nat.min_le_left _ _)
theorem ZeM {l:List St}(h:∀x∈l,StOk x):∀i∈celV l,IvOk 3 i:=fun i hi=>by
 have h1:∀i∈insV l,RlB 3 i.From/\RlB 3 i.To:=fun i hi=>⟨(ZcN h i hi).a,(ZcN h i hi).b⟩
 have:=ZfX (Pr:=RlB 3) (Zb0 h1) (ZeU h1) i hi
 exact⟨this.1,this.2⟩
theorem Zky {l:List St}(h:∀x∈l,StOk x):∀i∈nrmS (insV l),IvOk 3 i:=fun i hi=>by
 have h1:∀i∈insV l,RlB 3 i.From/\RlB 3 i.To:=fun i hi=>⟨(ZcN h i hi).a,(ZcN h i hi).b⟩
 have:=Zb0 (Pr:=RlB 3) h1 i hi
 exact⟨this.1,this.2⟩
set_option maxHeartbeats 32000000 in
theorem Zjk (v:Value)(l:List St)(w:World)(hv:ArgS w v rSt l)(hl:l.length<=9223372036854775807)(hk:∀x∈l,StOk x):
  Calls prog 17 [v].toArray w (RetM (SlS rP 21 (movV l)) (fun q=>vSl q) (fun q=>mS 46 q) w):=by
 obtain⟨p,cp,rfl⟩:=hv.form
 refine Zb Tryz.func17 rfl Tryz.ntmps17 rfl ?_
 repeat(refine wkB ?_;intros)
 refine ZW (S:=SlS rI 20 (insV l)) (fun _=>True) (fun q=>[(0, .slice p l.length cp),(3,vSl q)]) (fun q=>mS 37 q) ?_ (fun q _=>?_)
 ·refine Zo (S:=(_:Nat)×(o:List Za)×SlS rI 20 o) (fun q=>q.1<=min l.length 8/\q.2.1=inS l q.1) (fun q=>[(0, .slice p l.length cp),(3,vSl q.2.2),(4, .int .i64 (q.1:Nat))]) (fun q=>mS 37 q.2.2) (fun q=>8-q.1) ⟨0,[],SlS.no⟩ ⟨Wm _,rfl⟩ sbB suB (fun q hq=>?_)
  obtain⟨i,out,o⟩:=q
  obtain⟨hq,ho⟩:=hq
  dsimp only at hq ho⊢
  have hln:out.length=i:=by rw[ho];exact ZgB l i
  have hend:i=min l.length 8->out=insV l:=fun h=>by rw[ho,h];rfl
  have hnxt:out++[ivS (gi l (i:Int)).In]=inS l (i+1):=by rw[ho];rfl
  clear ho
  repeat(refine wkB ?_;intros)
  by_cases c1:i<l.length
  ·simp only[Wc (show(i:Int)<(l.length:Nat) by omega)]
   repeat(refine wkB ?_;intros)
   refine Zk rfl (fun h=>?_) (fun h=>?_)
   ·have c2:i<8:=by have:=Wa h;omega
    have hne:l≠[]:=fun h0=>by rw[h0] at c1;simp at c1
    obtain⟨bw,ow,cw,hvw,hcw,hrow⟩:=hv.blk (k:=12) hne []
    injection hvw with x1 x2 x3
    subst x1 x3
    have hrow':∀L,RowC w L bw ow St rSt l:=fun L=>⟨fun w' hw'=>hrow.out w' (hw'.sub (Wk _))⟩
    have hki:=(hk (gi l (i:Int)) (Zu (by omega))).a
    repeat(first|(refine wkB ?_;intros)|(refine wnM ?_ ?_;(focus(exact hki));intros))
    refine sU (k:=20) (enc:=rI) (s:=o) rfl rfl ?_ ?_ ?_ ?_
    ·rfl
    ·rfl
    ·exact⟨by decide,by omega,by omega⟩
    intro s'
    repeat(first|(refine wkB ?_;intros)|(refine wnM ?_ ?_;(focus(exact⟨by omega,by omega⟩));intros))
    exact Zc ⟨i+1,_,s'⟩ ⟨by show i+1<=min l.length 8;omega,hnxt⟩ sbB suB (by show 8-(i+1)<8-i;omega)
   ·have hge:i=min l.length 8:=by have:=Wb h;omega
    obtain⟨s',f1,f2⟩:=SlS.turn 37 (hend hge) o
    repeat(refine wkB ?_;intros)
    exact Ze s' trivial (by rw[f1];exact sbB) (by rw[f2];exact suB)
  ·have hge:i=min l.length 8:=by omega
   obtain⟨s',f1,f2⟩:=SlS.turn 37 (hend hge) o
   simp only[We (show¬(i:Int)<(l.length:Nat) by omega)]
   repeat(refine wkB ?_;intros)
   exact Ze s' trivial (by rw[f1];exact sbB) (by rw[f2];exact suB)
 have hil:=Zd3 l
 have hio:=ZcN hk
 have hno:=Zky hk
 have p1:(insV l).length<=1024/\∀i∈insV l,IvOk B28 i:=⟨by omega,fun i hi=>(hio i hi).mono (by decide)⟩
 have p2:(insV l).length<=65536/\∀i∈insV l,IvOk B28 i:=⟨by omega,p1.2⟩
 have p3:CelIn (nrmS (insV l)) (enR (insV l)):=by
  have h1:=Zbw (insV l)
  have h2:=ZbW (insV l)
  exact⟨by omega,by omega,fun i hi=>(hno i hi).mono (by decide),(Zb3 p1.2).b⟩
 have hco:=ZeM hk
 have hcl:=Zhv l
 have hfin:movV l=jnL (mvS l (insV l) (celV l) (celV l).length) (mvS l (insV l) (celV l) (celV l).length).length:=rfl
 rw[hfin]
 have hcv:celV l=celR (nrmS (insV l)) (enR (insV l)):=rfl
 rw[hcv] at hco hcl⊢
 clear hcv hfin
 generalize insV l=ins at*
 repeat(first|(refine wkB ?_;intros)|(refine wnM ?_ ?_;(focus(first|exact p1|exact p2|exact p3));intros))
 rename_i s3 s2 sc
 generalize celR (nrmS ins) (enR ins)=cs at*
 refine ZW (S:=SlS rP 21 (mvS l ins cs cs.length)) (fun _=>True) (fun o=>[(6,vSl o)]) (fun o=>mS 46 o) ?_ (fun o _=>?_)
 ·refine Zo (S:=(_:Nat)×(o:List PU)×SlS rP 21 o) (fun k=>k.1<=cs.length/\k.2.1=mvS l ins cs k.1) (fun k=>[(0, .slice p l.length cp),(3,vSl q),(5,vSl sc),(6,vSl k.2.2),(7, .int .i64 (k.1:Nat))]) (fun k=>mS 46 k.2.2++(mS 37 sc++mS 37 q)) (fun k=>cs.length-k.1) ⟨0,[],SlS.no⟩ ⟨Wm _,rfl⟩ sbB suB (fun k hk'=>?_)
  obtain⟨i,out,o⟩:=k
  obtain⟨hik,ho⟩:=hk'
  dsimp only at hik ho⊢
  have hln:out.length<=i:=by rw[ho];exact ZeV l ins cs i
  have hend:i=cs.length->out=mvS l ins cs cs.length:=fun h=>by rw[ho,h]
  have hnxt:mv1 l ins (gi cs (i:Int)) out=mvS l ins cs (i+1):=by rw[ho];rfl
  clear ho
  repeat(refine wkB ?_;intros)
  refine Zk rfl (fun h=>?_) (fun h=>?_)
  ·have hlt:i<cs.length:=by have:=Wa h;omega
   have hcI:=(hco (gi cs (i:Int)) (Zu (by omega))).mono (K':=B28) (by decide)
   rcases sc.cases 37 with⟨z0,z1,z2⟩|⟨bc,cc,spc,hcc,z1,z2,zne⟩
   ·rw[z0] at hlt
    cases hlt
   repeat(refine wkB ?_;intros)
   refine Zsq (S:=SlS rP 21 (mv1 l ins (gi cs (i:Int)) out)) (fun _=>True) (fun o=>[(0, .slice p l.length cp),(3,vSl q),(5,vSl sc),(6,vSl o),(7, .int .i64 (i:Nat))]) (fun o=>mS 46 o++(mS 37 sc++mS 37 q)) ?_ (fun o' _=>?_)
   ·refine Zo (S:=Nat) (fun m=>m<=ins.length/\pkS ins (gi cs (i:Int)) ins.length=pkS ins (gi cs (i:Int)) m) (fun m=>[(0, .slice p l.length cp),(3,vSl q),(5,vSl sc),(6,vSl o),(7, .int .i64 (i:Nat)),(8, .int .i64 ((m:Int)-1))]) (fun _=>mS 46 o++(mS 37 sc++mS 37 q)) (fun m=>m) ins.length ⟨Wl _,rfl⟩ sbB suB (fun m hm=>?_)
    obtain⟨hm,hpk⟩:=hm
    repeat(refine wkB ?_;intros)
    refine Zk rfl (fun h=>?_) (fun h=>?_)
    ·obtain⟨m,rfl⟩:∃m',m=m'+1:=⟨m-1,by have:=Wa h;omega⟩
     have e1:((m+1:Nat):Int)-1=(m:Int):=by omega
     have hml:m<l.length:=by omega
     obtain⟨bw,ow,rfl,hrow'⟩:=hv.opn (k:=12) hml
     have hlb:=(hk (gi l (m:Int)) (Zu (by omega))).l
     have hiI:=(hio (gi ins (m:Int)) (Zu (by omega))).mono (K':=B28) (by decide)
     rcases q.cases 37 with⟨y0,y1,y2⟩|⟨bq,cq,sp,hcq,y1,y2,yne⟩
     ·rw[y0] at hm
      cases hm
     have hS:∀L [h:AtC w L bq (row rI ins sp) 37],LstC w L (.slice (some ⟨bq,0+((m:Int)).toNat*20,none⟩) (((m:Int)+1-m)).toNat ((cq:Int)-m).toNat) Za rI [gi ins (m:Int)]:=fun L h=>⟨fun w' hw'=>by
      obtain⟨fz,hb⟩:=h.out w' hw'
      have h1:=(Zbz (c:=cq) hb hcq.1).take (m+1) (by omega)
      have h2:=h1.drop (s:=20) m (by omega)
      have h3:dropA (some ⟨bq,0,none⟩) cq m 20=some ⟨bq,0+((m:Int)).toNat*20,none⟩:=by
       unfold dropA
       rw[if_neg (by omega)]
       simp[Addr.add]
       intro h0
       omega
      have h4:(ins.take (m+1)).drop m=[gi ins (m:Int)]:=by
       rw[List.drop_take,Zt (by omega)]
       have:m+1-m=1:=by omega
       rw[this,List.take_one,List.head?_drop,List.getElem?_eq_getElem (by omega)]
       rfl
      have h5:((m:Int)+1-m).toNat=m+1-m:=by omega
      have h6:((cq:Int)-m).toNat=cq-m:=by omega
      rw[h3,h4] at h2
      rw[h5,h6]
      exact h2⟩
     have q1:[gi ins (m:Int)].length<=1048576/\(∀i∈[gi ins (m:Int)],IvOk B28 i)/\RtB (gi cs (i:Int)).From/\RtB (gi cs (i:Int)).To:=⟨by simp,fun i hi=>by rw[Wo] at hi;rw[hi];exact hiI,hcI.a,hcI.b⟩
     have q2:IvOk B28 (gi ins (m:Int))/\RtB (gi cs (i:Int)).From:=⟨hiI,hcI.a⟩
     simp only[e1,y1,y2,z1,z2,Wf,Wg]
     repeat(refine wkB ?_;intros)
     refine jD 41 41 (h:=?_)
     (repeat(first|refine wkH ?_|(refine tC rfl rfl ?_ ?_;focus(exact q1))))
     cases g1:spB [gi ins (m:Int)] (gi cs (i:Int)).From (gi cs (i:Int)).To with
     |false=>
      (repeat(refine wkH ?_))
      refine Zp ?_
      refine Zq ?_
      repeat(refine wkB ?_;intros)
      have hcf:cndS ins (gi cs (i:Int)) m=false:=by unfold cndS;rw[g1];rfl
      have hp:pkS ins (gi cs (i:Int)) (m+1)=pkS ins (gi cs (i:Int)) m:=by rw[pkS,hcf];rfl
      repeat(first|(refine wkB ?_;intros)|(refine wnM ?_ ?_;(focus(exact⟨by omega,by omega⟩));intros))
      exact Zc m ⟨by omega,by rw[hpk,hp]⟩ (by(try simp only[y1,z1]);exact sbB) (by(try simp only[y2,z2,Wf,Wg]);exact suB) (by omega)
     |true=>
      (repeat(refine wkH ?_))
      by_cases g2:(gi cs (i:Int)).From=(gi cs (i:Int)).To
      ·simp only[Wc g2,Bool.not_true]
       (repeat(first|refine wkH ?_|(refine tC rfl rfl ?_ ?_;focus(exact q2))))
       refine Zp ?_
       refine Zq ?_
       cases g3:inB (gi ins (m:Int)) (gi cs (i:Int)).From with
       |false=>
        repeat(refine wkB ?_;intros)
        have hcf:cndS ins (gi cs (i:Int)) m=false:=by unfold cndS;rw[g1,Wc g2,g3];rfl
        have hp:pkS ins (gi cs (i:Int)) (m+1)=pkS ins (gi cs (i:Int)) m:=by rw[pkS,hcf];rfl
        repeat(first|(refine wkB ?_;intros)|(refine wnM ?_ ?_;(focus(exact⟨by omega,by omega⟩));intros))
        exact Zc m ⟨by omega,by rw[hpk,hp]⟩ (by(try simp only[y1,z1]);exact sbB) (by(try simp only[y2,z2,Wf,Wg]);exact suB) (by omega)
       |true=>
        have hct:cndS ins (gi cs (i:Int)) m=true:=by unfold cndS;rw[g1,Wc g2,g3];rfl
        have hp:pkS ins (gi cs (i:Int)) ins.length=some m:=by rw[hpk,pkS,hct];rfl
        have hci:out++[⟨gi cs (i:Int),(gi l (m:Int)).Label % 5⟩]=mv1 l ins (gi cs (i:Int)) out:=by unfold mv1;rw[hp]
        repeat(refine wkB ?_;intros)
        (refine ZE (.v [0,1,2,3,4,5,6,7,8,9,10,11,12] (.e1 13 (.e1 14 (.e1 15 (.fin))))) ([⟨bc,row rI cs spc,37⟩]) (h:=?_);refine wkX ?_)
        (repeat(refine wkH ?_))
        repeat(refine wkT ?_;intros)
        refine eU (k:=21) (enc:=rP) (s:=o) rfl rfl ?_ ?_ ?_ ?_
        ·rfl
        ·rfl
        ·exact⟨by decide,by omega,by omega⟩
        intro s0
        obtain⟨s',f1,f2⟩:=SlS.turn 46 hci s0
        repeat(refine wkT ?_;intros)
        repeat(refine wkB ?_;intros)
        exact Ze s' trivial (by simp only[y1,z1,f1];exact sbB) (by simp only[y2,z2,f2,Wf,Wg];exact suB)
      ·simp only[We g2,Bool.not_false]
       (repeat(refine wkH ?_))
       refine Zp ?_
       refine Zq ?_
       have hct:cndS ins (gi cs (i:Int)) m=true:=by unfold cndS;rw[g1,We g2];rfl
       have hp:pkS ins (gi cs (i:Int)) ins.length=some m:=by rw[hpk,pkS,hct];rfl
       have hci:out++[⟨gi cs (i:Int),(gi l (m:Int)).Label % 5⟩]=mv1 l ins (gi cs (i:Int)) out:=by unfold mv1;rw[hp]
       repeat(refine wkB ?_;intros)
       (refine ZE (.v [0,1,2,3,4,5,6,7,8,9,10,11,12] (.e1 13 (.e1 14 (.e1 15 (.fin))))) ([⟨bc,row rI cs spc,37⟩]) (h:=?_);refine wkX ?_)
       (repeat(refine wkH ?_))
       repeat(refine wkT ?_;intros)
       refine eU (k:=21) (enc:=rP) (s:=o) rfl rfl ?_ ?_ ?_ ?_
       ·rfl
       ·rfl
       ·exact⟨by decide,by omega,by omega⟩
       intro s0
       obtain⟨s',f1,f2⟩:=SlS.turn 46 hci s0
       repeat(refine wkT ?_;intros)
       repeat(refine wkB ?_;intros)
       exact Ze s' trivial (by simp only[y1,z1,f1];exact sbB) (by simp only[y2,z2,f2,Wf,Wg];exact suB)
    ·have hm0:m=0:=by have:=Wb h;omega
     have hci:out=mv1 l ins (gi cs (i:Int)) out:=by unfold mv1;rw[hpk,hm0];rfl
     obtain⟨s',f1,f2⟩:=SlS.turn 46 hci o
     repeat(refine wkB ?_;intros)
     exact Ze s' trivial (by rw[f1];exact sbB) (by rw[f2];exact suB)
   ·repeat(first|(refine wkB ?_;intros)|(refine wnM ?_ ?_;(focus(exact⟨by omega,by omega⟩));intros))
    exact Zc ⟨i+1,_,o'⟩ ⟨hlt,hnxt⟩ sbB suB (by show cs.length-(i+1)<cs.length-i;omega)
  ·have hge:i=cs.length:=by have:=Wb h;omega
   obtain⟨s',f1,f2⟩:=SlS.turn 46 (hend hge) o
   repeat(refine wkB ?_;intros)
   exact Ze s' trivial (by rw[f1];exact sbB) (by rw[f2];exact suB)
 have hul:(mvS l ins cs cs.length).length<=1048576:=by have:=ZeV l ins cs cs.length;omega
 repeat(first|(refine wkB ?_;intros)|(refine wnM ?_ ?_;(focus(exact hul));intros))
 rename_i r
 exact Zr rfl rfl (fun w hw=>⟨r,rfl,hw.sub suB⟩)
instance ZxK (w0:World)(L:List Blk)(v:Value)(l:List St)[h:LstC w0 L v St rSt l]:SpecR prog w0 L 17 [v] (SlS rP 21 (movV l)) (fun q=>vSl q) (fun q=>mS 46 q) (l.length<=9223372036854775807/\∀x∈l,StOk x):=⟨fun hp w hw=>Zjk v l w (h.out w hw) hp.1 hp.2⟩
end Go.Vt
namespace Go.Proofs.YtcgkgdgpdpihmaaGreatDoor
open Go.ChangeShapes Go.WideShapes Go.ChangeAt Go.RowKit Go.Deep Go.Vt
theorem rown :ownKnob Tryz.prog.godebug=none:=by kernel_rfl
theorem rlaidOut :laidOutB Tryz.prog=true:=by kernel_rfl
theorem runder23 :Tryz.prog.underlying 23=some (.slice 44):=by kernel_rfl
theorem rc44 :Tryz.prog.cellsOf 44=13:=by kernel_rfl
theorem rc42 :Tryz.prog.cellsOf 42=12:=by kernel_rfl
theorem rc40 :Tryz.prog.cellsOf 40=5:=by kernel_rfl
theorem ru5 :Tryz.prog.underlying 5=some (.int .u8):=by kernel_rfl
theorem ru4 :Tryz.prog.underlying 4=some .bool:=by kernel_rfl
theorem rc5 :Tryz.prog.cellsOf 5=1:=by kernel_rfl
theorem rc4 :Tryz.prog.cellsOf 4=1:=by kernel_rfl
theorem ru40 :∃f0 f1 f2 f3 f4,Tryz.prog.underlying 40=some (.struct #[f0,f1,f2,f3,f4])/\f0.type=5/\f1.type=5/\f2.type=5/\f3.type=5/\f4.type=4/\f0.offset=0/\f1.offset=1/\f2.offset=2/\f3.offset=3/\f4.offset=4:=⟨_,_,_,_,_,Tryz.underlying40,rfl,rfl,rfl,rfl,rfl,rfl,rfl,rfl,rfl,rfl⟩
theorem ru42 :∃f0 f1 f2 f3,Tryz.prog.underlying 42=some (.struct #[f0,f1,f2,f3])/\f0.type=40/\f1.type=40/\f2.type=4/\f3.type=4/\f0.offset=0/\f1.offset=5/\f2.offset=10/\f3.offset=11:=⟨_,_,_,_,Tryz.underlying42,rfl,rfl,rfl,rfl,rfl,rfl,rfl,rfl⟩
theorem ru44 :∃f0 f1,Tryz.prog.underlying 44=some (.struct #[f0,f1])/\f0.type=42/\f1.type=5/\f0.offset=0/\f1.offset=12:=⟨_,_,Tryz.underlying44,rfl,rfl,rfl,rfl⟩
theorem ZfQ {n:Int}(h:(Lit.int .u8 n).wf=true):0<=n/\n<=255:=by
 simp only[Lit.wf,Bool.and_eq_true,decide_eq_true_eq] at h
 exact⟨h.1,h.2⟩
section
variable {H : Type} {eH : TypeId × Value -> H} {W : World} {base : Nat} {sp : Nat -> Bool} {held : Bool}
theorem Zg6 (n:Nat)(cs:List Value)(y:DataW H×List MemPlace)(h:DataW.trod eH Tryz.prog W base sp held n 40 cs=some y):∃x:WI,cs=(ZI x).toList/\WIOk x:=by
 obtain⟨f0,f1,f2,f3,f4,he,t0,t1,t2,t3,t4,o0,o1,o2,o3,o4⟩:=ru40
 obtain⟨xs,k,hk,hxy,hlen,hxl,hf⟩:=DataW.trod_struct he h
 rw[rc40] at hlen
 match xs,hxl,cs,hlen with
 |[y0,y1,y2,y3,y4],_,[v0,v1,v2,v3,v4],_=>
  have g0:=hf 0 f0 rfl
  have g1:=hf 1 f1 rfl
  have g2:=hf 2 f2 rfl
  have g3:=hf 3 f3 rfl
  have g4:=hf 4 f4 rfl
  simp[o0,o1,o2,o3,o4,t0,t1,t2,t3,t4,rc5,rc4] at g0 g1 g2 g3 g4
  obtain⟨n0,p0,_,q0⟩:=DataW.trod_int ru5 g0
  obtain⟨n1,p1,_,q1⟩:=DataW.trod_int ru5 g1
  obtain⟨n2,p2,_,q2⟩:=DataW.trod_int ru5 g2
  obtain⟨n3,p3,_,q3⟩:=DataW.trod_int ru5 g3
  obtain⟨n4,p4,_⟩:=DataW.trod_bool ru4 g4
  simp only[List.cons.injEq,and_true] at p0 p1 p2 p3 p4
  subst p0 p1 p2 p3 p4
  exact⟨⟨n0,n1,n2,n3,n4⟩,rfl,⟨ZfQ q0,ZfQ q1,ZfQ q2,ZfQ q3⟩⟩
theorem ZgZ (n:Nat)(cs:List Value)(y:DataW H×List MemPlace)(h:DataW.trod eH Tryz.prog W base sp held n 42 cs=some y):∃x:WS,cs=(ZL x).toList/\WSOk x:=by
 obtain⟨f0,f1,f2,f3,he,t0,t1,t2,t3,o0,o1,o2,o3⟩:=ru42
 obtain⟨xs,k,hk,hxy,hlen,hxl,hf⟩:=DataW.trod_struct he h
 rw[rc42] at hlen
 match xs,hxl,cs,hlen with
 |[y0,y1,y2,y3],_,[v0,v1,v2,v3,v4,v5,v6,v7,v8,v9,v10,v11],_=>
  have g0:=hf 0 f0 rfl
  have g1:=hf 1 f1 rfl
  have g2:=hf 2 f2 rfl
  have g3:=hf 3 f3 rfl
  simp[o0,o1,o2,o3,t0,t1,t2,t3,rc40,rc4] at g0 g1 g2 g3
  obtain⟨a,p0,q0⟩:=Zg6 _ _ _ g0
  obtain⟨b,p1,q1⟩:=Zg6 _ _ _ g1
  obtain⟨n2,p2,_⟩:=DataW.trod_bool ru4 g2
  obtain⟨n3,p3,_⟩:=DataW.trod_bool ru4 g3
  refine⟨⟨a,b,n2,n3⟩, ?_,⟨q0,q1⟩⟩
  show [v0,v1,v2,v3,v4]++([v5,v6,v7,v8,v9]++([v10]++[v11]))=_
  rw[p0,p1,p2,p3]
  rfl
theorem ZrQ (n:Nat)(cs:List Value)(y:DataW H×List MemPlace)(h:DataW.trod eH Tryz.prog W base sp held n 44 cs=some y):∃x:St,cs=(rSt x).toList/\StOk x:=by
 obtain⟨f0,f1,he,t0,t1,o0,o1⟩:=ru44
 obtain⟨xs,k,hk,hxy,hlen,hxl,hf⟩:=DataW.trod_struct he h
 rw[rc44] at hlen
 match xs,hxl,cs,hlen with
 |[y0,y1],_,[v0,v1,v2,v3,v4,v5,v6,v7,v8,v9,v10,v11,v12],_=>
  have g0:=hf 0 f0 rfl
  have g1:=hf 1 f1 rfl
  simp[o0,o1,t0,t1,rc42,rc5] at g0 g1
  obtain⟨a,p0,q0⟩:=ZgZ _ _ _ g0
  obtain⟨n1,p1,_,q1⟩:=DataW.trod_int ru5 g1
  refine⟨⟨a,n1⟩, ?_,⟨q0,ZfQ q1⟩⟩
  show [v0,v1,v2,v3,v4,v5,v6,v7,v8,v9,v10,v11]++[v12]=_
  rw[p0,p1]
  rfl
theorem Ziz {fuel:Nat}{v:Value}{x:DataW H×List MemPlace}(hs:∃a l c,v= .slice a l c)(h:DataW.trod eH Tryz.prog W base sp held fuel 23 v.cells.toList=some x):
  ∃xs:List St,ArgS W v rSt xs/\(∀x∈xs,StOk x)/\xs.length<=9223372036854775807:=by
 obtain⟨a0,l0,c0,rfl⟩:=hs
 rcases open_slice runder23 h with⟨h0,_⟩|⟨a,len,cap,m,n,D,Pl,hcs,hb,hl,hm,hmm,hx,hcl⟩
 ·simp[Value.cells] at h0
  obtain⟨rfl,rfl,rfl⟩:=h0
  exact⟨[],⟨.inl ⟨rfl,rfl⟩⟩,(fun x hx=>by cases hx),by simp⟩
 ·simp[Value.cells] at hcs
  obtain⟨rfl,rfl,rfl⟩:=hcs
  have hlm:l0<=m:=by rw[hmm];split <;> omega
  have each:∀i,i<l0->∃z:St,(∃cs',W.cells? base (a.add (i*13)) 13=some cs'/\cs'=(rSt z).toList)/\StOk z:=fun i hi=>by
   obtain⟨cs',c1,c2⟩:=hcl i (by omega)
   rw[rc44] at c1
   obtain⟨z,z1,z2⟩:=ZrQ _ _ _ c2
   exact⟨z,⟨cs',c1,z1⟩,z2⟩
  obtain⟨q,hq⟩:=choose_lt each
  refine⟨(List.range l0).map q,⟨.inr ⟨a,c0,by simp,by simpa using hl,fun i f k' u hi hk hu=>?_⟩⟩,fun z hz=>?_, ?_⟩
  ·simp only[List.length_map,List.length_range] at hi
   obtain rfl:k'=13:=by rw[<-hk default,Zn9.size]
   simp only[List.getElem_map,List.getElem_range] at hu
   obtain⟨cs',c1,c2⟩:=(hq i hi).1
   obtain⟨_,hlen,hcell⟩:=World.cells?_some c1
   have hf:f<13:=by
    have:=(Array.getElem?_eq_some_iff.1 hu).1
    rw[Zn9.size] at this
    exact this
   have h1:=hcell f (by omega)
   rw[add_add] at h1
   rw[h1]
   subst c2
   simpa using hu
  ·obtain⟨i,hi,rfl⟩:=List.mem_map.1 hz
   exact(hq i (List.mem_range.1 hi)).2
  ·simp only[List.length_map,List.length_range]
   have:(maxLen:Nat)=9223372036854775807:=by decide
   omega
end
def cAcc :Array Value:=#[.int .u8 128, .int .u8 191, .int .u8 160, .int .u8 191, .int .u8 128, .int .u8 159, .int .u8 144, .int .u8 191, .int .u8 128, .int .u8 143, .int .u8 0, .int .u8 0, .int .u8 0, .int .u8 0, .int .u8 0, .int .u8 0, .int .u8 0, .int .u8 0, .int .u8 0, .int .u8 0, .int .u8 0, .int .u8 0, .int .u8 0, .int .u8 0, .int .u8 0, .int .u8 0, .int .u8 0, .int .u8 0, .int .u8 0, .int .u8 0, .int .u8 0, .int .u8 0]
def cFirst :Array Value:=(Pinned.utf8FirstZ.map fun(n:Nat)=>Value.int .u8 (n:Int)).toArray
def putCells (cs:Array Value):Obj->Obj
 | .cells _ t frozen=> .cells cs t frozen
 |o=>o
noncomputable def laidWorld (os:Os):World:=
 {World.holding Tryz.prog os ⟨#[],#[],[]⟩ with heap:=((World.holding Tryz.prog os ⟨#[],#[],[]⟩).heap.modify 2 (putCells cFirst)).modify 3 (putCells cAcc)}
end Go.Proofs.YtcgkgdgpdpihmaaGreatDoor
namespace Go.Vt
open Go.RowKit Go.Proofs
open Go.Proofs.Tryz (prog)
def shR (x:Rl)(q:Rat):Rl:=⟨x.P+q,x.R,x.Neg⟩
instance Zxg (x:Zj)(q:Rat):SpecC prog 30 [vR x,vQ q] (vR (shR x q)) (M x.P<=268435456/\M q<=268435456):=⟨fun hp w=>by
 refine Zb Tryz.func30 rfl Tryz.ntmps30 rfl ?_
 repeat(first|(refine wkB ?_;intros)|(refine wnM ?_ ?_;(focus(exact hp));intros))
 exact rtC rfl rfl⟩
end Go.Vt
namespace Go.Proofs.YtcgkgdgpdpihmaaGreatDoor
open Go.ChangeShapes Go.WideShapes Go.ChangeAt Go.RowKit Go.Deep Go.Vt
end Go.Proofs.YtcgkgdgpdpihmaaGreatDoor
namespace Go.Vt
open Go.RowKit Go.Proofs
open Go.Proofs.Tryz (prog)
section
open Fv (va red)
noncomputable def mtF (a b:Za):Zj×Bool:=if cl a.From b.From<0 then(b.From,b.OpenFrom) else if cl a.From b.From=0 then(a.From,a.OpenFrom||b.OpenFrom) else(a.From,a.OpenFrom)
noncomputable def mtT (a b:Za):Zj×Bool:=if 0<cl a.To b.To then(b.To,b.OpenTo) else if cl a.To b.To=0 then(a.To,a.OpenTo||b.OpenTo) else(a.To,a.OpenTo)
noncomputable def mt (a b:Za):Za:=⟨(mtF a b).1,(mtT a b).1,(mtF a b).2,(mtT a b).2⟩
noncomputable def mtO (a b:Za):Bool:=decide (cl (mt a b).From (mt a b).To<0)||(decide (cl (mt a b).From (mt a b).To=0)&&(!(mt a b).OpenFrom&& !(mt a b).OpenTo))
theorem Zqy {K:Nat}{a b:Za}(ha:IvOk K a)(hb:IvOk K b):IvOk K (mt a b):=by
 unfold mt mtF mtT
 constructor <;> dsimp only
 ·split
  ·exact hb.a
  ·split <;> exact ha.a
 ·split
  ·exact hb.b
  ·split <;> exact ha.b
set_option maxHeartbeats 1000000 in
instance ZBL (a b:Za):SpecC prog 141 [vIv a,vIv b] (.tuple #[vIv (mt a b), .bool (mtO a b)]) (IvOk BQ a/\IvOk BQ b):=⟨fun hp w=>by
 obtain⟨ha,hb⟩:=hp
 have hm:=Zqy ha hb
 refine Zb Tryz.func141 rfl Tryz.ntmps141 rfl ?_
 repeat(first|(refine wkB ?_;intros)|(refine wnM ?_ ?_;(focus(exact⟨ha.a,hb.a⟩));intros))
 rename_i b2 b3 b4 b6
 refine ZW (S:=Unit) (fun _=>True) (fun _=>[(2, .pointer (some ⟨b2,0,none⟩)),(3, .pointer (some ⟨b3,0,none⟩)),(4, .pointer (some ⟨b4,0,none⟩)),(6, .pointer (some ⟨b6,0,none⟩))]) (fun _=>[⟨b6,Zh (Zi ⟨(mtF a b).1,a.To,(mtF a b).2,a.OpenTo⟩),37⟩,⟨b4,Zh (Zi Zaj),37⟩,⟨b3,Zh (Zi b),37⟩,⟨b2,Zh (Zi a),37⟩]) ?_ (fun _ _=>?_)
 ·by_cases h1:cl a.From b.From<0
  ·rw[show mtF a b=(b.From,b.OpenFrom) by unfold mtF;rw[if_pos h1]]
   simp only[Wc h1]
   repeat(refine wkB ?_;intros)
   (refine ZE (.v [0,1,2,3,4] (.e1 5 (.v [6] (.e1 7 (.fin))))) ([⟨b3,Zh (Zi b),37⟩]) (h:=?_);refine wkX ?_)
   repeat(refine wkT ?_;intros)
   repeat(refine wkB ?_;intros)
   exact Ze () trivial sbB slB
  ·simp only[We h1]
   repeat(refine wkB ?_;intros)
   by_cases h2:cl a.From b.From=0
   ·rw[show mtF a b=(a.From,a.OpenFrom||b.OpenFrom) by unfold mtF;rw[if_neg h1,if_pos h2]]
    simp only[Wc h2]
    repeat(refine wkB ?_;intros)
    rcases h3:a.OpenFrom with _|_
    ·repeat(refine wkB ?_;intros)
     exact Ze () trivial sbB slB
    ·repeat(refine wkB ?_;intros)
     exact Ze () trivial sbB slB
   ·rw[show mtF a b=(a.From,a.OpenFrom) by unfold mtF;rw[if_neg h1,if_neg h2]]
    simp only[We h2]
    repeat(refine wkB ?_;intros)
    exact Ze () trivial sbB slB
 repeat(first|(refine wkB ?_;intros)|(refine wnM ?_ ?_;(focus(exact⟨ha.b,hb.b⟩));intros))
 refine ZW (S:=Unit) (fun _=>True) (fun _=>[(4, .pointer (some ⟨b4,0,none⟩)),(6, .pointer (some ⟨b6,0,none⟩))]) (fun _=>[⟨b6,Zh (Zi (mt a b)),37⟩,⟨b4,Zh (Zi Zaj),37⟩]) ?_ (fun _ _=>?_)
 ·by_cases h1:0<cl a.To b.To
  ·rw[show mt a b=⟨(mtF a b).1,b.To,(mtF a b).2,b.OpenTo⟩ by unfold mt mtT;rw[if_pos h1]]
   simp only[Wc h1]
   repeat(refine wkB ?_;intros)
   (refine ZE (.v [0,1,2,3,4] (.e1 5 (.v [6] (.e1 7 (.fin))))) ([⟨b3,Zh (Zi b),37⟩]) (h:=?_);refine wkX ?_)
   repeat(refine wkT ?_;intros)
   repeat(refine wkB ?_;intros)
   exact Ze () trivial sbB slB
  ·simp only[We h1]
   repeat(refine wkB ?_;intros)
   by_cases h2:cl a.To b.To=0
   ·rw[show mt a b=⟨(mtF a b).1,a.To,(mtF a b).2,a.OpenTo||b.OpenTo⟩ by unfold mt mtT;rw[if_neg h1,if_pos h2]]
    simp only[Wc h2]
    repeat(refine wkB ?_;intros)
    rcases h3:a.OpenTo with _|_
    ·repeat(refine wkB ?_;intros)
     exact Ze () trivial sbB slB
    ·repeat(refine wkB ?_;intros)
     exact Ze () trivial sbB slB
   ·rw[show mt a b=⟨(mtF a b).1,a.To,(mtF a b).2,a.OpenTo⟩ by unfold mt mtT;rw[if_neg h1,if_neg h2]]
    simp only[We h2]
    repeat(refine wkB ?_;intros)
    exact Ze () trivial sbB slB
 repeat(first|(refine wkB ?_;intros)|(refine wnM ?_ ?_;(focus(exact⟨hm.a,hm.b⟩));intros))
 unfold mtO
 generalize mt a b=m at*
 (refine ZE (.v [0,1,2,3,4,5,6,7,8,9,10,11,12,13,14,15,16] (.e1 17 (.e1 18 (.fin)))) ([⟨b6,Zh (Zi m),37⟩]) (h:=?_);refine wkX ?_)
 repeat(refine wkT ?_;intros)
 rcases h1:decide (cl m.From m.To<0) with _|_
 ·repeat(refine wkT ?_;intros)
  rcases h2:decide (cl m.From m.To=0) with _|_
  ·repeat(refine wkT ?_;intros)
   repeat(refine wkB ?_;intros)
   exact ZC rfl (ZZ rfl) (Zs rfl) (fun w hw=>ZG hw)
  ·repeat(refine wkT ?_;intros)
   rcases h3:m.OpenFrom with _|_
   ·repeat(refine wkT ?_;intros)
    repeat(refine wkB ?_;intros)
    exact ZC rfl (ZZ rfl) (Zs rfl) (fun w hw=>ZG hw)
   ·repeat(refine wkT ?_;intros)
    repeat(refine wkB ?_;intros)
    exact ZC rfl (ZZ rfl) (Zs rfl) (fun w hw=>ZG hw)
 ·repeat(refine wkT ?_;intros)
  repeat(refine wkB ?_;intros)
  exact ZC rfl (ZZ rfl) (Zs rfl) (fun w hw=>ZG hw)⟩
end
section
theorem Zl8 (v:Value)(us:List UL)(w:World)(hv:ArgS w v rU us)(hn:us=[]->v= .slice none 0 0)(hl:NrP us)(hok:∀u∈us,UIn u):
  Calls prog 136 [vLabels,v].toArray w (RetM (SlS rU 21 (nrmR us)) (fun s=>vSl s) (fun s=>mS 145 s) w):=by
 have hN:∀L,LstN w L v UL rU us:=fun L=>⟨fun w' hw'=>hv.to hw'.ext,hn⟩
 refine Zb Tryz.func136 rfl Tryz.ntmps136 rfl ?_
 repeat(first|(refine wkB ?_;intros)|(refine wnM ?_ ?_;(focus(exact⟨hl,hok⟩));intros))
 rename_i s
 exact Zr rfl rfl (fun w hw=>⟨s,rfl,hw.sub suB⟩)
instance Zy6 (w0:World)(L:List Blk)(v:Value)(us:List UL)[h:LstN w0 L v UL rU us]:SpecR prog w0 L 136 [vLabels,v] (SlS rU 21 (nrmR us)) (fun s=>vSl s) (fun s=>mS 145 s) (NrP us/\∀u∈us,UIn u):=⟨fun hp w hw=>Zl8 v us w (h.out w hw) h.nil hp.1 hp.2⟩
end
section
abbrev Lb (x:Int):Prop:= -1000<=x/\x<=1000
end
end Go.Vt
