/- For any up to 8 stretches, Normal returns the normal form of their units in any order, if no two have an instant in common, and ErrOverlap otherwise. Conditions: none. (part 22 of 28.) Conditions: those that each statement names. -/
import Derived.Test.YtcgkgdgpdpihmaaGreatDoorProg
import Derived.Test.YtcgkgdgpdpihmaaGreatDoorCards
import Derived.Test.YtcgkgdgpdpihmaaGreatDoorTie
import Derived.WalkKit
import Derived.ProofKit
import Derived.OpenShut
import Derived.Deep.DeepHandedRow
import Derived.Deep.DeepLaidRun
import Derived.Deep.SlicePairs
import Derived.Carry
import Derived.Lib.LaidU8
import Derived.Test.YtcgkgdgpdpihmaaGreatDoorKZ13
import Derived.Test.YtcgkgdgpdpihmaaGreatDoorKZ15
import Derived.Test.YtcgkgdgpdpihmaaGreatDoorKZ16
import Derived.Test.YtcgkgdgpdpihmaaGreatDoorKZ21
set_option linter.unusedSimpArgs false
set_option linter.unusedVariables false
set_option maxHeartbeats 2000000
set_option maxRecDepth 100000
namespace Go.Vt
open Go.RowKit Go.Proofs
open Go.Proofs.Tryz (prog)
section
theorem ZqY (w:World):(Instr.buildSlice 65 0 [].toArray).run prog w= .ok (.slice (some ⟨w.heap.size,0,none⟩) 0 0) (w.alloc (.cells (row (eI .i64) [] []) 3)):=by kernel_rfl
instance (priority :=high) ZAN:BsC prog 65 0 [] (row (eI .i64) [] []) 3:=⟨ZqY⟩
theorem ZmI :dI 2=[2]:=by rw[ZbZ (by decide)];rfl
instance (priority :=30000) lstD1 (w0:World)(L:List Blk)(b:Nat)(T:TypeId)[h:AtC w0 L b (row (eI .i64) [1] []) T]:LstC w0 L (.slice (some ⟨b,0,none⟩) 1 1) Int (eI .i64) (dI 1):=by
 rw[Ze8]
 exact⟨fun w hw=>by
  obtain⟨fz,hb⟩:=h.out w hw
  exact ZbF (c:=1) hb (Wl 1)⟩
instance (priority :=30000) lstD2 (w0:World)(L:List Blk)(b:Nat)(T:TypeId)[h:AtC w0 L b (row (eI .i64) [2] []) T]:LstC w0 L (.slice (some ⟨b,0,none⟩) 1 1) Int (eI .i64) (dI 2):=by
 rw[ZmI]
 exact⟨fun w hw=>by
  obtain⟨fz,hb⟩:=h.out w hw
  exact ZbF (c:=1) hb (Wl 1)⟩
theorem Zj0 (m n:Nat):Lib.compareInt (m:Int) n<0↔m<n:=by
 have:=Zmc m n
 omega
theorem ZjM (m n:Nat):Lib.compareInt (m:Int) n<=0↔m<=n:=by
 unfold Lib.compareInt
 split
 ·exact⟨fun _=>by omega,fun _=>by decide⟩
 ·split
  ·exact⟨fun h=>by omega,fun h=>by omega⟩
  ·exact⟨fun _=>by omega,fun _=>by decide⟩
theorem ZjG (m n:Nat):Lib.compareInt (m:Int) n=0↔m=n:=by
 unfold Lib.compareInt
 split
 ·exact⟨fun h=>by omega,fun h=>by omega⟩
 ·split
  ·exact⟨fun h=>by omega,fun h=>by omega⟩
  ·exact⟨fun _=>by omega,fun _=>rfl⟩
set_option maxHeartbeats 16000000 in
theorem ZkV (v:Value)(n:Nat)(w:World)(hv:ArgS w v (eI .i64) (dI n))(hl:(dI n).length<=268435456):
  Calls prog 159 [v].toArray w (RetM (FlS (eI .i64) 1 (dI (rtN n))) (fun s=>vF s) (fun s=>mF 3 s) w):=by
 have hc:=fun L=>hv.lst L
 have l1:(dI 1).length<=1:=by rw[Ze8];exact Wl _
 have l2:(dI 2).length<=1:=by rw[ZmI];exact Wl _
 have p0:(dI n).length<=1099511627776/\(dI 1).length<=1099511627776:=⟨by omega,by omega⟩
 have hb:∀m,m<=n+1->(dI m).length<=268435457:=fun m hm=>by
  have h1:=Zia (m:=n) (n:=1) (a:=268435456) hl (by omega)
  exact ZfC hm h1
 have hn1:n<(n+1)*(n+1):=by
  have:(n+1)*(n+1)=n*n+2*n+1:=by grind
  omega
 refine Zb Tryz.func159 rfl Tryz.ntmps159 rfl ?_
 repeat(first|(refine wkB ?_;intros)|(refine wnM ?_ ?_;(focus(exact p0));intros))
 rename_i b7 b9 f
 refine Zp (S:=(lo:Nat)×(hi:Nat)×FlS (eI .i64) 1 (dI lo)×FlS (eI .i64) 1 (dI hi)) (fun s=>(s.1*s.1<=n/\n<s.2.1*s.2.1)/\s.2.1<=n+1) (fun s=>[(0,v),(3,vF s.2.2.1),(4,vF s.2.2.2)]) (fun s=>mF 3 s.2.2.2++mF 3 s.2.2.1) (fun s=>s.2.1-s.1) ⟨0,n+1,FlS.em b7,f⟩ ⟨⟨Wm _,hn1⟩,Wl _⟩ sbB (by dsimp only[FlS.em_m];exact suB) (fun s hs=>?_)
 obtain⟨lo,hi,slo,shi⟩:=s
 obtain⟨⟨h1,h2⟩,h3⟩:=hs
 dsimp only at h1 h2 h3⊢
 have hlh:lo<hi:=by
  rcases Nat.lt_or_ge lo hi with h|h
  ·exact h
  ·have:=sqm h;omega
 have b1:=hb lo (by omega)
 have b2:=hb hi h3
 have p1:(dI lo).length<=1099511627776/\(dI 1).length<=1099511627776:=⟨by omega,by omega⟩
 have p2:(dI (lo+1)).length<=1125899906842624/\(dI hi).length<=1125899906842624:=⟨by have:=hb (lo+1) (by omega);omega,by omega⟩
 repeat(first|(refine wkB ?_;intros)|(refine wnM ?_ ?_;(focus(first|exact p1|exact p2));intros))
 refine Zi rfl (fun h=>?_) (fun h=>?_)
 ·have hlt:=(Zj0 (lo+1) hi).1 (Wa h)
  have p3:(dI lo).length<=1099511627776/\(dI hi).length<=1099511627776:=⟨by omega,by omega⟩
  have b3:(dI (lo+hi)).length<=268435458:=Zia b1 b2
  have p4:((dI (lo+hi)).length<=1073741824/\(dI 2).length<=1073741824)/\0<2:=⟨⟨by omega,by omega⟩,by decide⟩
  repeat(first|(refine wkB ?_;intros)|(refine wnM ?_ ?_;(focus(first|exact p3|exact p4));intros))
  rename_i d
  obtain⟨q,r,al⟩:=d
  dsimp only
  simp only[List.append_assoc]
  have hm1:lo<(lo+hi) / 2:=by omega
  have hm2:(lo+hi) / 2<hi:=by omega
  have b4:=hb ((lo+hi) / 2) (by omega)
  have p5:(dI ((lo+hi) / 2)).length<=1099511627776/\(dI ((lo+hi) / 2)).length<=1099511627776:=⟨by omega,by omega⟩
  have b5:=Zcl b4 b4
  have p6:(dI (((lo+hi) / 2)*((lo+hi) / 2))).length<=1125899906842624/\(dI n).length<=1125899906842624:=⟨by omega,by omega⟩
  repeat(first|(refine wkB ?_;intros)|(refine wnM ?_ ?_;(focus(first|exact p5|exact p6));intros))
  refine Zi rfl (fun h=>?_) (fun h=>?_)
  ·have hle:=(ZjM (((lo+hi) / 2)*((lo+hi) / 2)) n).1 (Wa h)
   repeat(refine wkB ?_;intros)
   exact ZgR ⟨((lo+hi) / 2),hi,q,shi⟩ ⟨⟨hle,h2⟩,h3⟩ sbB inferInstance (by show hi-((lo+hi) / 2)<hi-lo;omega)
  ·have hgt:n<((lo+hi) / 2)*((lo+hi) / 2):=by
    rcases Nat.lt_or_ge n (((lo+hi) / 2)*((lo+hi) / 2)) with h0|h0
    ·exact h0
    ·exact absurd ((ZjM (((lo+hi) / 2)*((lo+hi) / 2)) n).2 h0) (Wb h)
   repeat(refine wkB ?_;intros)
   exact ZgR ⟨lo,((lo+hi) / 2),slo,q⟩ ⟨⟨h1,hgt⟩,by show((lo+hi) / 2)<=n+1;omega⟩ sbB inferInstance (by show((lo+hi) / 2)-lo<hi-lo;omega)
 ·have hge:hi=lo+1:=by
   have h0:¬lo+1<hi:=fun h0=>Wb h ((Zj0 (lo+1) hi).2 h0)
   omega
  subst hge
  have hr:rtN n=lo:=ZmC ⟨h1,h2⟩
  obtain⟨f',g1,g2⟩:=slo.like (show dI (rtN n)=dI lo by rw[hr])
  repeat(refine wkB ?_;intros)
  exact ZA rfl rfl (fun w hw=>⟨f',by show Ending.returned _=Ending.returned (vF f');rw[g1],by show Own _ (mF _ f') _;rw[g2];exact hw.sub suB⟩)
instance Zv8 (w0:World)(L:List Blk)(v:Value)(n:Nat)[h:LstC w0 L v Int (eI .i64) (dI n)]:SpecR prog w0 L 159 [v] (FlS (eI .i64) 1 (dI (rtN n))) (fun s=>vF s) (fun s=>mF 3 s) ((dI n).length<=268435456):=⟨fun hl w hw=>ZkV v n w (h.out w hw) hl⟩
theorem Zpx (q:Rat):(rtQ q).isSome=true↔0<=q.num/\rtN q.num.natAbs*rtN q.num.natAbs=q.num.natAbs/\rtN q.den*rtN q.den=q.den:=by
 unfold rtQ
 split
 ·rename_i h;exact⟨fun _=>h,fun _=>rfl⟩
 ·rename_i h;exact⟨(fun k=>by cases k),fun k=>(h k).elim⟩
set_option maxHeartbeats 16000000 in
theorem Zkn (a:Rat)(w:World)(hl:M a<=268435456):
  Calls prog 112 [vQ a].toArray w (Ret (.tuple #[vQ ((rtQ a).getD 0), .bool (rtQ a).isSome]) w):=by
 have ha:M a<=1073741824:=by omega
 have x1:(dI a.num.natAbs).length<=268435456:=by rw[ZbD];exact Wi (Nat.le_max_left _ _) hl
 have x2:(dI a.den).length<=268435456:=by have:=ZbD (a.den:Int);rw[Int.natAbs_natCast] at this;rw[this];exact Wi (Nat.le_max_right _ _) hl
 have r1:(dI (rtN a.num.natAbs)).length<=268435456:=ZfC (Zfx _) x1
 have r2:(dI (rtN a.den)).length<=268435456:=ZfC (Zfx _) x2
 have m1:=Zcl r1 r1
 have m2:=Zcl r2 r2
 have p1:(dI (rtN a.num.natAbs)).length<=1099511627776/\(dI (rtN a.num.natAbs)).length<=1099511627776:=⟨by omega,by omega⟩
 have p2:(dI (rtN a.den)).length<=1099511627776/\(dI (rtN a.den)).length<=1099511627776:=⟨by omega,by omega⟩
 have p3:(dI (rtN a.num.natAbs*rtN a.num.natAbs)).length<=1125899906842624/\(dI a.num.natAbs).length<=1125899906842624:=⟨by omega,by omega⟩
 have p4:(dI (rtN a.den*rtN a.den)).length<=1125899906842624/\(dI a.den).length<=1125899906842624:=⟨by omega,by omega⟩
 have hd0:0<rtN a.den:=Zn3 a.den_pos (Zfq _).2
 have p5:((dI (rtN a.num.natAbs)).length<=1073741824/\(dI (rtN a.den)).length<=1073741824)/\0<rtN a.den:=⟨⟨by omega,by omega⟩,hd0⟩
 have hiff:=Zpx a
 have hval:(rtQ a).isSome=true->Rat.divInt (sgI false (rtN a.num.natAbs)) (rtN a.den:Nat)=(rtQ a).getD 0:=fun h=>by
  have:=hiff.1 h
  unfold rtQ
  rw[if_pos this]
  rfl
 have hnone:(rtQ a).isSome=false->(rtQ a).getD 0=0:=fun h=>by
  cases h0:rtQ a with
  |none=>rfl
  |some q=>rw[h0] at h;cases h
 refine Zb Tryz.func112 rfl Tryz.ntmps112 rfl ?_
 repeat(first|(refine wkB ?_;intros)|(refine wnM ?_ ?_;(focus(exact ha));intros))
 rename_i b1 b2 s b4
 simp only[FrO.fr_eq,FrO.mem,List.append_assoc]
 refine ZV (S:=FlS (eI .i64) 1 (dI (rtN a.num.natAbs))×FlS (eI .i64) 1 (dI (rtN a.den))) (fun _=>True) (fun q=>[(2, .pointer (some ⟨b2,0,none⟩)),(3, .bool false),(4, .pointer (some ⟨b4,0,none⟩)),(5,vF q.1),(6,vF q.2)]) (fun q=>mF 3 q.1++(mF 3 q.2++(⟨b4,Zc ⟨decide (a.num<0),flH s.n,flH s.d⟩,162⟩::⟨b2,Zk (Q 0),33⟩::(mF 3 s.n++mF 3 s.d)))) ?_ (fun q _=>?_)
 ·(refine ZE (.v [0,1,3,4] (.e1 2 (.e1 5 (.e1 6 (.e1 7 (.fin)))))) ([⟨b4,Zc ⟨decide (a.num<0),flH s.n,flH s.d⟩,162⟩]) (h:=?_);refine wkX ?_)
  repeat' (first|(with_reducible refine And.intro ?_ ?_)|(with_reducible exact True.intro)|(refine wkT ?_;intros)|(refine tC rfl rfl ?_ ?_;focus(first|exact x1|exact x2))|(refine uC rfl rfl ?_ ?_;focus(first|exact x1|exact x2))|(refine eN rfl rfl ?_ ?_;(focus(first|exact x1|exact x2));intro _;(try simp only[Wf,Wg,Wh]))|fail)
  all_goals exact Zbg ⟨_,_⟩ trivial sbB inferInstance
 obtain⟨qn,qd⟩:=q
 dsimp only
 repeat(refine wkB ?_;intros)
 refine ZV (S:=Unit) (fun _=>True) (fun _=>[(2, .pointer (some ⟨b2,0,none⟩)),(3, .bool false),(5,vF qn),(6,vF qd),(34, .bool (!(rtQ a).isSome))]) (fun _=>mF 3 qn++(mF 3 qd++[⟨b2,Zk (Q 0),33⟩])) ?_ (fun _ _=>?_)
 ·have g1:=ZjG (rtN a.num.natAbs*rtN a.num.natAbs) a.num.natAbs
  have g2:=ZjG (rtN a.den*rtN a.den) a.den
  have i1:∀(L:List Blk)(u1 u2:Value) [LstC w L u1 Int (eI .i64) (dI (rtN a.num.natAbs*rtN a.num.natAbs))] [LstC w L u2 Int (eI .i64) (dI a.num.natAbs)],SpecM prog w L 125 [u1,u2] (.int .i64 (Lib.compareInt ((rtN a.num.natAbs*rtN a.num.natAbs:Nat):Int) a.num.natAbs)) ((dI (rtN a.num.natAbs*rtN a.num.natAbs)).length<=1125899906842624/\(dI a.num.natAbs).length<=1125899906842624):=fun L u1 u2 _ _=>inferInstance
  have i2:∀(L:List Blk)(u1 u2:Value) [LstC w L u1 Int (eI .i64) (dI (rtN a.den*rtN a.den))] [LstC w L u2 Int (eI .i64) (dI a.den)],SpecM prog w L 125 [u1,u2] (.int .i64 (Lib.compareInt ((rtN a.den*rtN a.den:Nat):Int) a.den)) ((dI (rtN a.den*rtN a.den)).length<=1125899906842624/\(dI a.den).length<=1125899906842624):=fun L u1 u2 _ _=>inferInstance
  generalize Lib.compareInt ((rtN a.num.natAbs*rtN a.num.natAbs:Nat):Int) a.num.natAbs=z1 at*
  generalize Lib.compareInt ((rtN a.den*rtN a.den:Nat):Int) a.den=z2 at*
  by_cases hneg:a.num<0
  ·have hs:(rtQ a).isSome=false:=Bool.eq_false_iff.2 fun h=>by have:=(hiff.1 h).1;omega
   simp only[Wc hneg,hs,Bool.not_false]
   (refine ZE (.v [0,1,2,3,4,5,6,7,8,9,10,11,12,13,14,15,16,17,18,19] (.fin)) ([⟨b4,Zc ⟨true,flH s.n,flH s.d⟩,162⟩]) (h:=?_);refine wkX ?_)
   repeat' (first|(with_reducible refine And.intro ?_ ?_)|(with_reducible exact True.intro)|(refine wkT ?_;intros)|(refine tC rfl rfl ?_ ?_;focus(first|exact p1|exact p2|exact p3|exact p4))|(refine uC rfl rfl ?_ ?_;focus(first|exact p1|exact p2|exact p3|exact p4))|(refine eN rfl rfl ?_ ?_;(focus(first|exact p1|exact p2|exact p3|exact p4));intro _;(try simp only[Wf,Wg,Wh]))|fail)
   all_goals exact Zbg () trivial sbB inferInstance
  ·simp only[We hneg]
   by_cases c1:z1=0
   ·by_cases c2:z2=0
    ·have hs:(rtQ a).isSome=true:=hiff.2 ⟨by omega,g1.1 c1,g2.1 c2⟩
     simp only[hs,Bool.not_true]
     (refine ZE (.v [0,1,2,3,4,6,7] (.e1 5 (.e1 8 (.v [9,10,11,12,13,15,16] (.e1 14 (.e1 17 (.v [18,19] (.fin)))))))) ([⟨b4,Zc ⟨false,flH s.n,flH s.d⟩,162⟩]) (h:=?_);refine wkX ?_)
     repeat' (first|(with_reducible refine And.intro ?_ ?_)|(with_reducible exact True.intro)|(refine wkT ?_;intros)|(refine tC rfl rfl ?_ ?_;focus(first|exact p1|exact p2|exact p3|exact p4))|(refine uC rfl rfl ?_ ?_;focus(first|exact p1|exact p2|exact p3|exact p4))|(refine eN rfl rfl ?_ ?_;(focus(first|exact p1|exact p2|exact p3|exact p4));intro _;(try simp only[Wf,Wg,Wh]))|fail)
     all_goals simp only[Wc c1,Bool.not_true]
     repeat' (first|(with_reducible refine And.intro ?_ ?_)|(with_reducible exact True.intro)|(refine wkT ?_;intros)|(refine tC rfl rfl ?_ ?_;focus(first|exact p1|exact p2|exact p3|exact p4))|(refine uC rfl rfl ?_ ?_;focus(first|exact p1|exact p2|exact p3|exact p4))|(refine eN rfl rfl ?_ ?_;(focus(first|exact p1|exact p2|exact p3|exact p4));intro _;(try simp only[Wf,Wg,Wh]))|fail)
     all_goals simp only[Wc c2,Bool.not_true]
     repeat' (first|(with_reducible refine And.intro ?_ ?_)|(with_reducible exact True.intro)|(refine wkT ?_;intros)|(refine tC rfl rfl ?_ ?_;focus(first|exact p1|exact p2|exact p3|exact p4))|(refine uC rfl rfl ?_ ?_;focus(first|exact p1|exact p2|exact p3|exact p4))|(refine eN rfl rfl ?_ ?_;(focus(first|exact p1|exact p2|exact p3|exact p4));intro _;(try simp only[Wf,Wg,Wh]))|fail)
     all_goals exact Zbg () trivial sbB inferInstance
    ·have hs:(rtQ a).isSome=false:=Bool.eq_false_iff.2 fun h=>c2 (g2.2 (hiff.1 h).2.2)
     simp only[hs,Bool.not_false]
     (refine ZE (.v [0,1,2,3,4,6,7] (.e1 5 (.e1 8 (.v [9,10,11,12,13,15,16] (.e1 14 (.e1 17 (.v [18,19] (.fin)))))))) ([⟨b4,Zc ⟨false,flH s.n,flH s.d⟩,162⟩]) (h:=?_);refine wkX ?_)
     repeat' (first|(with_reducible refine And.intro ?_ ?_)|(with_reducible exact True.intro)|(refine wkT ?_;intros)|(refine tC rfl rfl ?_ ?_;focus(first|exact p1|exact p2|exact p3|exact p4))|(refine uC rfl rfl ?_ ?_;focus(first|exact p1|exact p2|exact p3|exact p4))|(refine eN rfl rfl ?_ ?_;(focus(first|exact p1|exact p2|exact p3|exact p4));intro _;(try simp only[Wf,Wg,Wh]))|fail)
     all_goals simp only[Wc c1,Bool.not_true]
     repeat' (first|(with_reducible refine And.intro ?_ ?_)|(with_reducible exact True.intro)|(refine wkT ?_;intros)|(refine tC rfl rfl ?_ ?_;focus(first|exact p1|exact p2|exact p3|exact p4))|(refine uC rfl rfl ?_ ?_;focus(first|exact p1|exact p2|exact p3|exact p4))|(refine eN rfl rfl ?_ ?_;(focus(first|exact p1|exact p2|exact p3|exact p4));intro _;(try simp only[Wf,Wg,Wh]))|fail)
     all_goals simp only[We c2,Bool.not_false]
     repeat' (first|(with_reducible refine And.intro ?_ ?_)|(with_reducible exact True.intro)|(refine wkT ?_;intros)|(refine tC rfl rfl ?_ ?_;focus(first|exact p1|exact p2|exact p3|exact p4))|(refine uC rfl rfl ?_ ?_;focus(first|exact p1|exact p2|exact p3|exact p4))|(refine eN rfl rfl ?_ ?_;(focus(first|exact p1|exact p2|exact p3|exact p4));intro _;(try simp only[Wf,Wg,Wh]))|fail)
     all_goals exact Zbg () trivial sbB inferInstance
   ·have hs:(rtQ a).isSome=false:=Bool.eq_false_iff.2 fun h=>c1 (g1.2 (hiff.1 h).2.1)
    simp only[hs,Bool.not_false]
    (refine ZE (.v [0,1,2,3,4,6,7] (.e1 5 (.e1 8 (.v [9,10,11,12,13,14,15,16,17,18,19] (.fin))))) ([⟨b4,Zc ⟨false,flH s.n,flH s.d⟩,162⟩]) (h:=?_);refine wkX ?_)
    repeat' (first|(with_reducible refine And.intro ?_ ?_)|(with_reducible exact True.intro)|(refine wkT ?_;intros)|(refine tC rfl rfl ?_ ?_;focus(first|exact p1|exact p2|exact p3|exact p4))|(refine uC rfl rfl ?_ ?_;focus(first|exact p1|exact p2|exact p3|exact p4))|(refine eN rfl rfl ?_ ?_;(focus(first|exact p1|exact p2|exact p3|exact p4));intro _;(try simp only[Wf,Wg,Wh]))|fail)
    all_goals simp only[We c1,Bool.not_false]
    repeat' (first|(with_reducible refine And.intro ?_ ?_)|(with_reducible exact True.intro)|(refine wkT ?_;intros)|(refine tC rfl rfl ?_ ?_;focus(first|exact p1|exact p2|exact p3|exact p4))|(refine uC rfl rfl ?_ ?_;focus(first|exact p1|exact p2|exact p3|exact p4))|(refine eN rfl rfl ?_ ?_;(focus(first|exact p1|exact p2|exact p3|exact p4));intro _;(try simp only[Wf,Wg,Wh]))|fail)
    all_goals exact Zbg () trivial sbB inferInstance
 ·cases hs:(rtQ a).isSome with
  |false=>
   rw[hnone hs]
   repeat(refine wkB ?_;intros)
   exact ZF rfl (Zat rfl) (Zx rfl) (fun w hw=>ZS hw)
  |true=>
   rw[<-hval hs]
   repeat(first|(refine wkB ?_;intros)|(refine wnM ?_ ?_;(focus(exact p5));intros))
   exact ZF rfl (Zat rfl) (Zx rfl) (fun w hw=>ZS hw)
instance Zwx (a:Rat):SpecC prog 112 [vQ a] (.tuple #[vQ ((rtQ a).getD 0), .bool (rtQ a).isSome]) (M a<=268435456):=⟨fun hp w=>Zkn a w hp⟩
end
section
def ofR (p r:Rat)(neg:Bool):Rl:=match rtQ r with
 |some q=>⟨if neg=true then p-q else p+q,0,false⟩
 |none=>⟨p,r,neg⟩
theorem Zlb {p r:Rat}{neg:Bool}(hr:0<=r):(rvR (ofR p r neg)).ok:=by
 unfold ofR
 split
 ·exact RV.ok_rat _
 ·rename_i h
  have h0:r≠0:=fun h0=>by
   have:=ZgY h 0
   rw[h0] at this
   exact this (by grind)
  exact⟨.inr ⟨by show 0<r;grind,fun q=>ZgY h q⟩,fun h1=>(h0 h1).elim⟩
theorem ZoK {r q:Rat}(h:rtQ r=some q):M q<=M r:=by
 unfold rtQ at h
 split at h
 ·injection h with h
  subst h
  have h1:=Zbk r
  have h2:=Za6 r
  refine Zb2 (Wi (Zev ?_) h1) (Wi (Zev ?_) h2) ?_
  ·rw[Int.natAbs_natCast];exact Zfx _
  ·rw[Int.natAbs_natCast,Int.natAbs_natCast];exact Zfx _
  ·exact @ZlS r
 ·cases h
theorem Zt6 {p r:Rat}{neg:Bool}{k:Nat}(hr:0<=r)(h1:M p<=k)(h2:M r<=k)(hk:1<=k):RlB (2*k+1) (ofR p r neg):=by
 refine⟨Zlb hr, ?_, ?_⟩
 ·unfold ofR
  split
  ·rename_i q h
   have h3:=ZoK h
   dsimp only
   split
   ·have:=ZoO p q;omega
   ·have:=ZgO p q;omega
  ·dsimp only;omega
 ·unfold ofR
  split
  ·show M 0<=_;have:M 0<=1:=by decide
   omega
  ·dsimp only;omega
set_option maxHeartbeats 8000000 in
instance ZyQ (p r:Rat)(neg:Bool):SpecC prog 135 [vQ p,vQ r, .bool neg] (vR (ofR p r neg)) (M p<=1000/\M r<=1000):=⟨fun hp w=>by
 obtain⟨h1,h2⟩:=hp
 have h3:M r<=268435456:=by omega
 have d1:∀q,rtQ r=some q->ofR p r true=⟨p-q,0,false⟩:=fun q h=>by unfold ofR;rw[h];rfl
 have d2:∀q,rtQ r=some q->ofR p r false=⟨p+q,0,false⟩:=fun q h=>by unfold ofR;rw[h];rfl
 have d3:rtQ r=none->ofR p r neg=⟨p,r,neg⟩:=fun h=>by unfold ofR;rw[h]
 refine Zb Tryz.func135 rfl Tryz.ntmps135 rfl ?_
 repeat(first|(refine wkB ?_;intros)|(refine wnM ?_ ?_;(focus(exact h3));intros))
 cases h:rtQ r with
 |none=>
  rw[d3 h]
  repeat(refine wkB ?_;intros)
  exact rtC rfl rfl
 |some q=>
  have hq:=ZoK h
  have h4:M p<=268435456/\M q<=268435456:=⟨by omega,by omega⟩
  simp only[Option.isSome_some,Option.getD_some]
  cases neg with
  |true=>
   rw[d1 q h]
   repeat(first|(refine wkB ?_;intros)|(refine wnM ?_ ?_;(focus(exact h4));intros))
   exact rtC rfl rfl
  |false=>
   rw[d2 q h]
   repeat(first|(refine wkB ?_;intros)|(refine wnM ?_ ?_;(focus(exact h4));intros))
   exact rtC rfl rfl⟩
abbrev WI :=ZL
abbrev vWI (x:WI):Value:= .agg (ZG x)
structure WIOk (x:WI):Prop where
 p:0<=x.P/\x.P<=255
 d:0<=x.D/\x.D<=255
 r:0<=x.R/\x.R<=255
 e:0<=x.E/\x.E<=255
def inP (x:WI):Rat:=Rat.divInt (x.P % 64) (1+x.D % 4)
def inR (x:WI):Rat:=Rat.divInt (x.R % 12) (1+x.E % 3)
def insT (x:WI):Rl:=ofR (inP x) (inR x) x.Neg
theorem ZoM {x:WI}(h:WIOk x):M (inP x)<=1:=Zb2 (Zcb (k:=1) (by have:=h.p;omega)) (Zcb (k:=1) (by have:=h.d;omega)) (Wl _)
theorem ZoF {x:WI}(h:WIOk x):M (inR x)<=1:=Zb2 (Zcb (k:=1) (by have:=h.r;omega)) (Zcb (k:=1) (by have:=h.e;omega)) (Wl _)
theorem ZlO (x:WI):0<=inR x:=by
 unfold inR
 exact Rat.divInt_nonneg_iff_of_pos_right (by omega) |>.2 (by omega)
theorem ZfE {x:WI}(h:WIOk x):RlB 3 (insT x):=Zt6 (ZlO x) (ZoM h) (ZoF h) (Wl _)
set_option maxHeartbeats 8000000 in
instance Zsp (x:WI):SpecC prog 89 [vWI x] (vR (insT x)) (WIOk x):=⟨fun hx w=>by
 have h1:=hx.p
 have h2:=hx.d
 have h3:=hx.r
 have h4:=hx.e
 have m1:=ZoM hx
 have m2:=ZoF hx
 have p1:1+x.D % 4≠0/\(-9223372036854775808<=x.P % 64/\x.P % 64<=9223372036854775807)/\(-9223372036854775808<=1+x.D % 4/\1+x.D % 4<=9223372036854775807):=by omega
 have p2:1+x.E % 3≠0/\(-9223372036854775808<=x.R % 12/\x.R % 12<=9223372036854775807)/\(-9223372036854775808<=1+x.E % 3/\1+x.E % 3<=9223372036854775807):=by omega
 have p3:M (Rat.divInt (x.P % 64) (1+x.D % 4))<=1000/\M (Rat.divInt (x.R % 12) (1+x.E % 3))<=1000:=⟨Wi m1 (by decide),Wi m2 (by decide)⟩
 refine Zb Tryz.func89 rfl Tryz.ntmps89 rfl ?_
 repeat(refine wkB ?_;intros)
 rename_i b1 b2
 (refine ZE (.v [0,1,2,3,4,5,6,7,8,9,10,11,12,13,14,15,16,17,18,19,20,21,22] (.e1 23 (.fin))) ([⟨b1,ZG x,40⟩]) (h:=?_);refine wkX ?_)
 (repeat(first|refine wkH ?_|(refine tC rfl rfl ?_ ?_;focus(first|exact p1|exact p2|exact p3))))
 repeat(refine wkT ?_;intros)
 repeat(refine wkB ?_;intros)
 exact rtC rfl rfl⟩
abbrev WS :=ZY
abbrev vWS (x:WS):Value:= .agg (ZU x)
structure WSOk (x:WS):Prop where
 a:WIOk x.A
 b:WIOk x.B
noncomputable def ivS (s:WS):Za:=if 0<cl (insT s.A) (insT s.B) then⟨insT s.B,insT s.A,s.OpenA,s.OpenB⟩ else if cl (insT s.A) (insT s.B)=0 then⟨insT s.A,insT s.B,false,false⟩ else⟨insT s.A,insT s.B,s.OpenA,s.OpenB⟩
theorem ZgP {s:WS}(h:WSOk s):IvOk 3 (ivS s):=by
 have h1:=ZfE h.a
 have h2:=ZfE h.b
 unfold ivS
 split
 ·exact⟨h2,h1⟩
 ·split <;> exact⟨h1,h2⟩
set_option maxHeartbeats 8000000 in
instance ZrY (s:WS):SpecC prog 71 [vWS s] (vIv (ivS s)) (WSOk s):=⟨fun hs w=>by
 have ha:=hs.a
 have hb:=hs.b
 have p1:RlB B28 (insT s.A)/\RlB B28 (insT s.B):=⟨(ZfE ha).mono (by decide),(ZfE hb).mono (by decide)⟩
 have hd:ivS s=ivS s:=rfl
 conv at hd=>rhs;unfold ivS
 refine Zb Tryz.func71 rfl Tryz.ntmps71 rfl ?_
 repeat(refine wkB ?_;intros)
 rename_i b1 b2
 (refine jD 11 12 (h:=?_);(repeat(first|refine wkH ?_|(refine tC rfl rfl ?_ ?_;focus(first|exact ha|exact hb))));refine Zo ?_;(repeat(refine ZZ ?_;intro _));refine Zq ?_)
 repeat(first|(refine wkB ?_;intros)|(refine wnM ?_ ?_;(focus(exact p1));intros))
 rw[hd]
 generalize cl (insT s.A) (insT s.B)=n at*
 by_cases c1:0<n
 ·rw[if_pos c1]
  simp only[Wc c1]
  repeat(refine wkB ?_;intros)
  simp only[We (show¬n=0 by omega)]
  repeat(refine wkB ?_;intros)
  exact rtC rfl rfl
 ·rw[if_neg c1]
  simp only[We c1]
  repeat(refine wkB ?_;intros)
  by_cases c2:n=0
  ·rw[if_pos c2]
   simp only[Wc c2]
   repeat(refine wkB ?_;intros)
   exact rtC rfl rfl
  ·rw[if_neg c2]
   simp only[We c2]
   repeat(refine wkB ?_;intros)
   exact rtC rfl rfl⟩
instance Zry (s:WS):SpecC prog 18 [vWS s] (vIv (ivS s)) (WSOk s):=⟨fun hs w=>by
 refine Zb Tryz.func18 rfl Tryz.ntmps18 rfl ?_
 repeat(first|(refine wkB ?_;intros)|(refine wnM ?_ ?_;(focus(exact hs));intros))
 exact rtC rfl rfl⟩
end
end Go.Vt
namespace Go.Vt
open Go.RowKit Go.Proofs
open Go.Proofs.Tryz (prog)
theorem Zpm {P:Program}{w0:World}{n:Nat}{Q:Exit->Act->World->Prop}{E:Env}{L:List Blk}{S:Type}{id id':Nat}(I:S->Prop)(Es:S->Env)(Ls:S->List Blk){x y:Code}(h1:J P w0 n x (Exit.inBlock id (Exit.inBlock id' (MidQ w0 n I Es Ls (fun _ _=>True) Q))) E L)(h2:∀s,I s->J P w0 n y Q (Es s) (Ls s)):J P w0 n x (Exit.inBlock id (Exit.inBlock id' (Then P y Q))) E L:=⟨fun a w ha hw=>wp_mono (h1.out a w ha hw) (ZQ (ZQ (ZI h2)))⟩
abbrev St :=Z7
abbrev rSt :=Zau
instance ZlT :EncC rSt 13:=⟨fun _=>CsC.size,fun _=>CsC.one⟩
instance : Inhabited St:=⟨Zdh⟩
structure StOk (x:St):Prop where
 a:WSOk x.In
 l:0<=x.Label/\x.Label<=255
noncomputable def inS (l:List St):Nat->List Za
 |0=>[]
 |m+1=>inS l m++[ivS (gi l (m:Int)).In]
theorem Zdf (l:List St):∀m,(inS l m).length=m
 |0=>rfl
 |m+1=>by rw[inS,Wp,Zdf l m];rfl
theorem Zmo {l:List St}(h:∀x∈l,StOk x):∀m,m<=l.length->∀i∈inS l m,IvOk 3 i
 |0,_,i,hi=>by cases hi
 |m+1,hm,i,hi=>by
  rw[inS,Wv,Wo] at hi
  rcases hi with hi|rfl
  ·exact Zmo h m (by omega) i hi
  ·exact ZgP (h _ (Zt (by omega))).a
noncomputable def cndS (ins:List Za)(c:Za)(k:Nat):Bool:=spB [gi ins (k:Int)] c.From c.To&&(!decide (c.From=c.To)||inB (gi ins (k:Int)) c.From)
noncomputable def pkS (ins:List Za)(c:Za):Nat->Option Nat
 |0=>none
 |m+1=>if cndS ins c m=true then some m else pkS ins c m
noncomputable def mv1 (l:List St)(ins:List Za)(c:Za)(out:List PU):List PU:=match pkS ins c ins.length with
 |some k=>out++[⟨c,(gi l (k:Int)).Label % 5⟩]
 |none=>out
noncomputable def mvS (l:List St)(ins cs:List Za):Nat->List PU
 |0=>[]
 |i+1=>mv1 l ins (gi cs (i:Int)) (mvS l ins cs i)
theorem Zqv (l:List St)(ins:List Za)(c:Za)(out:List PU):(mv1 l ins c out).length<=out.length+1:=by
 unfold mv1
 split <;> simp
theorem Zef (l:List St)(ins cs:List Za):∀i,(mvS l ins cs i).length<=i
 |0=>Wl _
 |i+1=>by
  have h1:=Zef l ins cs i
  have h2:=Zqv l ins (gi cs (i:Int)) (mvS l ins cs i)
  rw[mvS]
  omega
noncomputable def insV (l:List St):List Za:=inS l (min l.length 8)
noncomputable def celV (l:List St):List Za:=celR (nrmS (insV l)) (enR (insV l))
noncomputable def movU (l:List St):List PU:=mvS l (insV l) (celV l) (celV l).length
noncomputable def movV (l:List St):List PU:=jnL (movU l) (movU l).length
theorem ZcT (l:List St):(insV l).length<=8/\(insV l).length<=l.length:=by
 unfold insV
 rw[Zdf]
 omega
theorem Zhj (l:List St):(celV l).length<=160:=by
 have h1:=(ZcT l).1
 have h2:=Zdv (insV l)
 have h3:=Zbt (insV l)
 have h4:=Zic (nrmS (insV l)) (enR (insV l))
 unfold celV
 omega
theorem Znq (l:List St):(movV l).length<=160:=by
 have h1:=Zhj l
 have h2:=Zef l (insV l) (celV l) (celV l).length
 have h3:=Zf7 (movU l) (movU l).length
 unfold movV
 have h4:(movU l).length=(mvS l (insV l) (celV l) (celV l).length).length:=rfl
 omega
theorem Zb3 {l:List St}(h:∀x∈l,StOk x):∀i∈insV l,IvOk 3 i:=Zmo h _ (Nat.min_le_left _ _)
theorem Zei {l:List St}(h:∀x∈l,StOk x):∀i∈celV l,IvOk 3 i:=fun i hi=>by
 have h1:∀i∈insV l,RlB 3 i.From/\RlB 3 i.To:=fun i hi=>⟨(Zb3 h i hi).a,(Zb3 h i hi).b⟩
 have:=Zhb (Pr:=RlB 3) (ZcH h1) (Zfb h1) i hi
 exact⟨this.1,this.2⟩
theorem ZeD {l:List St}(h:∀x∈l,StOk x):∀i∈nrmS (insV l),IvOk 3 i:=fun i hi=>by
 have h1:∀i∈insV l,RlB 3 i.From/\RlB 3 i.To:=fun i hi=>⟨(Zb3 h i hi).a,(Zb3 h i hi).b⟩
 have:=ZcH (Pr:=RlB 3) h1 i hi
 exact⟨this.1,this.2⟩
set_option maxHeartbeats 32000000 in
theorem Zil (v:Value)(l:List St)(w:World)(hv:ArgS w v rSt l)(hl:l.length<=9223372036854775807)(hk:∀x∈l,StOk x):
  Calls prog 17 [v].toArray w (RetM (SlS rP 21 (movV l)) (fun q=>vSl q) (fun q=>mS 46 q) w):=by
 obtain⟨p,cp,rfl⟩:=hv.form
 refine Zb Tryz.func17 rfl Tryz.ntmps17 rfl ?_
 repeat(refine wkB ?_;intros)
 refine Z2 (S:=SlS rI 20 (insV l)) (fun _=>True) (fun q=>[(0, .slice p l.length cp),(3,vSl q)]) (fun q=>mS 37 q) ?_ (fun q _=>?_)
 ·refine Zp (S:=(_:Nat)×(o:List Za)×SlS rI 20 o) (fun q=>q.1<=min l.length 8/\q.2.1=inS l q.1) (fun q=>[(0, .slice p l.length cp),(3,vSl q.2.2),(4, .int .i64 (q.1:Nat))]) (fun q=>mS 37 q.2.2) (fun q=>8-q.1) ⟨0,[],SlS.no⟩ ⟨Wm _,rfl⟩ sbB suB (fun q hq=>?_)
  obtain⟨i,out,o⟩:=q
  obtain⟨hq,ho⟩:=hq
  dsimp only at hq ho⊢
  have hln:out.length=i:=by rw[ho];exact Zdf l i
  have hend:i=min l.length 8->out=insV l:=fun h=>by rw[ho,h];rfl
  have hnxt:out++[ivS (gi l (i:Int)).In]=inS l (i+1):=by rw[ho];rfl
  clear ho
  repeat(refine wkB ?_;intros)
  by_cases c1:i<l.length
  ·simp only[Wc (show(i:Int)<(l.length:Nat) by omega)]
   repeat(refine wkB ?_;intros)
   refine Zi rfl (fun h=>?_) (fun h=>?_)
   ·have c2:i<8:=by have:=Wa h;omega
    have hne:l≠[]:=fun h0=>by rw[h0] at c1;simp at c1
    obtain⟨bw,ow,cw,hvw,hcw,hrow⟩:=hv.blk (k:=12) hne []
    injection hvw with x1 x2 x3
    subst x1 x3
    have hrow':∀L,RowC w L bw ow St rSt l:=fun L=>⟨fun w' hw'=>hrow.out w' (hw'.sub (Wk _))⟩
    have hki:=(hk (gi l (i:Int)) (Zt (by omega))).a
    repeat(first|(refine wkB ?_;intros)|(refine wnM ?_ ?_;(focus(exact hki));intros))
    refine sU (k:=20) (enc:=rI) (s:=o) rfl rfl ?_ ?_ ?_ ?_
    ·rfl
    ·rfl
    ·exact⟨by decide,by omega,by omega⟩
    intro s'
    repeat(first|(refine wkB ?_;intros)|(refine wnM ?_ ?_;(focus(exact⟨by omega,by omega⟩));intros))
    exact Zf ⟨i+1,_,s'⟩ ⟨by show i+1<=min l.length 8;omega,hnxt⟩ sbB suB (by show 8-(i+1)<8-i;omega)
   ·have hge:i=min l.length 8:=by have:=Wb h;omega
    obtain⟨s',f1,f2⟩:=SlS.turn 37 (hend hge) o
    repeat(refine wkB ?_;intros)
    exact Zg s' trivial (by rw[f1];exact sbB) (by rw[f2];exact suB)
  ·have hge:i=min l.length 8:=by omega
   obtain⟨s',f1,f2⟩:=SlS.turn 37 (hend hge) o
   simp only[We (show¬(i:Int)<(l.length:Nat) by omega)]
   repeat(refine wkB ?_;intros)
   exact Zg s' trivial (by rw[f1];exact sbB) (by rw[f2];exact suB)
 have hil:=ZcT l
 have hio:=Zb3 hk
 have hno:=ZeD hk
 have p1:(insV l).length<=1024/\∀i∈insV l,IvOk B28 i:=⟨by omega,fun i hi=>(hio i hi).mono (by decide)⟩
 have p2:(insV l).length<=65536/\∀i∈insV l,IvOk B28 i:=⟨by omega,p1.2⟩
 have p3:CelIn (nrmS (insV l)) (enR (insV l)):=by
  have h1:=Zdv (insV l)
  have h2:=Zbt (insV l)
  exact⟨by omega,by omega,fun i hi=>(hno i hi).mono (by decide),(Zbd p1.2).b⟩
 have hco:=Zei hk
 have hcl:=Zhj l
 have hfin:movV l=jnL (mvS l (insV l) (celV l) (celV l).length) (mvS l (insV l) (celV l) (celV l).length).length:=rfl
 rw[hfin]
 have hcv:celV l=celR (nrmS (insV l)) (enR (insV l)):=rfl
 rw[hcv] at hco hcl⊢
 clear hcv hfin
 generalize insV l=ins at*
 repeat(first|(refine wkB ?_;intros)|(refine wnM ?_ ?_;(focus(first|exact p1|exact p2|exact p3));intros))
 rename_i s3 s2 sc
 generalize celR (nrmS ins) (enR ins)=cs at*
 refine Z2 (S:=SlS rP 21 (mvS l ins cs cs.length)) (fun _=>True) (fun o=>[(6,vSl o)]) (fun o=>mS 46 o) ?_ (fun o _=>?_)
 ·refine Zp (S:=(_:Nat)×(o:List PU)×SlS rP 21 o) (fun k=>k.1<=cs.length/\k.2.1=mvS l ins cs k.1) (fun k=>[(0, .slice p l.length cp),(3,vSl q),(5,vSl sc),(6,vSl k.2.2),(7, .int .i64 (k.1:Nat))]) (fun k=>mS 46 k.2.2++(mS 37 sc++mS 37 q)) (fun k=>cs.length-k.1) ⟨0,[],SlS.no⟩ ⟨Wm _,rfl⟩ sbB suB (fun k hk'=>?_)
  obtain⟨i,out,o⟩:=k
  obtain⟨hik,ho⟩:=hk'
  dsimp only at hik ho⊢
  have hln:out.length<=i:=by rw[ho];exact Zef l ins cs i
  have hend:i=cs.length->out=mvS l ins cs cs.length:=fun h=>by rw[ho,h]
  have hnxt:mv1 l ins (gi cs (i:Int)) out=mvS l ins cs (i+1):=by rw[ho];rfl
  clear ho
  repeat(refine wkB ?_;intros)
  refine Zi rfl (fun h=>?_) (fun h=>?_)
  ·have hlt:i<cs.length:=by have:=Wa h;omega
   have hcI:=(hco (gi cs (i:Int)) (Zt (by omega))).mono (K':=B28) (by decide)
   rcases sc.cases 37 with⟨z0,z1,z2⟩|⟨bc,cc,spc,hcc,z1,z2,zne⟩
   ·rw[z0] at hlt
    cases hlt
   repeat(refine wkB ?_;intros)
   refine Zpm (S:=SlS rP 21 (mv1 l ins (gi cs (i:Int)) out)) (fun _=>True) (fun o=>[(0, .slice p l.length cp),(3,vSl q),(5,vSl sc),(6,vSl o),(7, .int .i64 (i:Nat))]) (fun o=>mS 46 o++(mS 37 sc++mS 37 q)) ?_ (fun o' _=>?_)
   ·refine Zp (S:=Nat) (fun m=>m<=ins.length/\pkS ins (gi cs (i:Int)) ins.length=pkS ins (gi cs (i:Int)) m) (fun m=>[(0, .slice p l.length cp),(3,vSl q),(5,vSl sc),(6,vSl o),(7, .int .i64 (i:Nat)),(8, .int .i64 ((m:Int)-1))]) (fun _=>mS 46 o++(mS 37 sc++mS 37 q)) (fun m=>m) ins.length ⟨Wl _,rfl⟩ sbB suB (fun m hm=>?_)
    obtain⟨hm,hpk⟩:=hm
    repeat(refine wkB ?_;intros)
    refine Zi rfl (fun h=>?_) (fun h=>?_)
    ·obtain⟨m,rfl⟩:∃m',m=m'+1:=⟨m-1,by have:=Wa h;omega⟩
     have e1:((m+1:Nat):Int)-1=(m:Int):=by omega
     have hml:m<l.length:=by omega
     obtain⟨bw,ow,rfl,hrow'⟩:=hv.opn (k:=12) hml
     have hlb:=(hk (gi l (m:Int)) (Zt (by omega))).l
     have hiI:=(hio (gi ins (m:Int)) (Zt (by omega))).mono (K':=B28) (by decide)
     rcases q.cases 37 with⟨y0,y1,y2⟩|⟨bq,cq,sp,hcq,y1,y2,yne⟩
     ·rw[y0] at hm
      cases hm
     have hS:∀L [h:AtC w L bq (row rI ins sp) 37],LstC w L (.slice (some ⟨bq,0+((m:Int)).toNat*20,none⟩) (((m:Int)+1-m)).toNat ((cq:Int)-m).toNat) Za rI [gi ins (m:Int)]:=fun L h=>⟨fun w' hw'=>by
      obtain⟨fz,hb⟩:=h.out w' hw'
      have h1:=(ZbF (c:=cq) hb hcq.1).take (m+1) (by omega)
      have h2:=h1.drop (s:=20) m (by omega)
      have h3:dropA (some ⟨bq,0,none⟩) cq m 20=some ⟨bq,0+((m:Int)).toNat*20,none⟩:=by
       unfold dropA
       rw[if_neg (by omega)]
       simp[Addr.add]
       intro h0
       omega
      have h4:(ins.take (m+1)).drop m=[gi ins (m:Int)]:=by
       rw[List.drop_take,Zr (by omega)]
       have:m+1-m=1:=by omega
       rw[this,List.take_one,List.head?_drop,List.getElem?_eq_getElem (by omega)]
       rfl
      have h5:((m:Int)+1-m).toNat=m+1-m:=by omega
      have h6:((cq:Int)-m).toNat=cq-m:=by omega
      rw[h3,h4] at h2
      rw[h5,h6]
      exact h2⟩
     have q1:[gi ins (m:Int)].length<=1048576/\(∀i∈[gi ins (m:Int)],IvOk B28 i)/\RtB (gi cs (i:Int)).From/\RtB (gi cs (i:Int)).To:=⟨by simp,fun i hi=>by rw[Wo] at hi;rw[hi];exact hiI,hcI.a,hcI.b⟩
     have q2:IvOk B28 (gi ins (m:Int))/\RtB (gi cs (i:Int)).From:=⟨hiI,hcI.a⟩
     simp only[e1,y1,y2,z1,z2,Wf,Wg]
     repeat(refine wkB ?_;intros)
     refine jD 41 41 (h:=?_)
     (repeat(first|refine wkH ?_|(refine tC rfl rfl ?_ ?_;focus(exact q1))))
     cases g1:spB [gi ins (m:Int)] (gi cs (i:Int)).From (gi cs (i:Int)).To with
     |false=>
      (repeat(refine wkH ?_))
      refine Zo ?_
      refine Zq ?_
      repeat(refine wkB ?_;intros)
      have hcf:cndS ins (gi cs (i:Int)) m=false:=by unfold cndS;rw[g1];rfl
      have hp:pkS ins (gi cs (i:Int)) (m+1)=pkS ins (gi cs (i:Int)) m:=by rw[pkS,hcf];rfl
      repeat(first|(refine wkB ?_;intros)|(refine wnM ?_ ?_;(focus(exact⟨by omega,by omega⟩));intros))
      exact Zf m ⟨by omega,by rw[hpk,hp]⟩ (by(try simp only[y1,z1]);exact sbB) (by(try simp only[y2,z2,Wf,Wg]);exact suB) (by omega)
     |true=>
      (repeat(refine wkH ?_))
      by_cases g2:(gi cs (i:Int)).From=(gi cs (i:Int)).To
      ·simp only[Wc g2,Bool.not_true]
       (repeat(first|refine wkH ?_|(refine tC rfl rfl ?_ ?_;focus(exact q2))))
       refine Zo ?_
       refine Zq ?_
       cases g3:inB (gi ins (m:Int)) (gi cs (i:Int)).From with
       |false=>
        repeat(refine wkB ?_;intros)
        have hcf:cndS ins (gi cs (i:Int)) m=false:=by unfold cndS;rw[g1,Wc g2,g3];rfl
        have hp:pkS ins (gi cs (i:Int)) (m+1)=pkS ins (gi cs (i:Int)) m:=by rw[pkS,hcf];rfl
        repeat(first|(refine wkB ?_;intros)|(refine wnM ?_ ?_;(focus(exact⟨by omega,by omega⟩));intros))
        exact Zf m ⟨by omega,by rw[hpk,hp]⟩ (by(try simp only[y1,z1]);exact sbB) (by(try simp only[y2,z2,Wf,Wg]);exact suB) (by omega)
       |true=>
        have hct:cndS ins (gi cs (i:Int)) m=true:=by unfold cndS;rw[g1,Wc g2,g3];rfl
        have hp:pkS ins (gi cs (i:Int)) ins.length=some m:=by rw[hpk,pkS,hct];rfl
        have hci:out++[⟨gi cs (i:Int),(gi l (m:Int)).Label % 5⟩]=mv1 l ins (gi cs (i:Int)) out:=by unfold mv1;rw[hp]
        repeat(refine wkB ?_;intros)
        (refine ZE (.v [0,1,2,3,4,5,6,7,8,9,10,11,12] (.e1 13 (.e1 14 (.e1 15 (.fin))))) ([⟨bc,row rI cs spc,37⟩]) (h:=?_);refine wkX ?_)
        (repeat(refine wkH ?_))
        repeat(refine wkT ?_;intros)
        refine eU (k:=21) (enc:=rP) (s:=o) rfl rfl ?_ ?_ ?_ ?_
        ·rfl
        ·rfl
        ·exact⟨by decide,by omega,by omega⟩
        intro s0
        obtain⟨s',f1,f2⟩:=SlS.turn 46 hci s0
        repeat(refine wkT ?_;intros)
        repeat(refine wkB ?_;intros)
        exact Zg s' trivial (by simp only[y1,z1,f1];exact sbB) (by simp only[y2,z2,f2,Wf,Wg];exact suB)
      ·simp only[We g2,Bool.not_false]
       (repeat(refine wkH ?_))
       refine Zo ?_
       refine Zq ?_
       have hct:cndS ins (gi cs (i:Int)) m=true:=by unfold cndS;rw[g1,We g2];rfl
       have hp:pkS ins (gi cs (i:Int)) ins.length=some m:=by rw[hpk,pkS,hct];rfl
       have hci:out++[⟨gi cs (i:Int),(gi l (m:Int)).Label % 5⟩]=mv1 l ins (gi cs (i:Int)) out:=by unfold mv1;rw[hp]
       repeat(refine wkB ?_;intros)
       (refine ZE (.v [0,1,2,3,4,5,6,7,8,9,10,11,12] (.e1 13 (.e1 14 (.e1 15 (.fin))))) ([⟨bc,row rI cs spc,37⟩]) (h:=?_);refine wkX ?_)
       (repeat(refine wkH ?_))
       repeat(refine wkT ?_;intros)
       refine eU (k:=21) (enc:=rP) (s:=o) rfl rfl ?_ ?_ ?_ ?_
       ·rfl
       ·rfl
       ·exact⟨by decide,by omega,by omega⟩
       intro s0
       obtain⟨s',f1,f2⟩:=SlS.turn 46 hci s0
       repeat(refine wkT ?_;intros)
       repeat(refine wkB ?_;intros)
       exact Zg s' trivial (by simp only[y1,z1,f1];exact sbB) (by simp only[y2,z2,f2,Wf,Wg];exact suB)
    ·have hm0:m=0:=by have:=Wb h;omega
     have hci:out=mv1 l ins (gi cs (i:Int)) out:=by unfold mv1;rw[hpk,hm0];rfl
     obtain⟨s',f1,f2⟩:=SlS.turn 46 hci o
     repeat(refine wkB ?_;intros)
     exact Zg s' trivial (by rw[f1];exact sbB) (by rw[f2];exact suB)
   ·repeat(first|(refine wkB ?_;intros)|(refine wnM ?_ ?_;(focus(exact⟨by omega,by omega⟩));intros))
    exact Zf ⟨i+1,_,o'⟩ ⟨hlt,hnxt⟩ sbB suB (by show cs.length-(i+1)<cs.length-i;omega)
  ·have hge:i=cs.length:=by have:=Wb h;omega
   obtain⟨s',f1,f2⟩:=SlS.turn 46 (hend hge) o
   repeat(refine wkB ?_;intros)
   exact Zg s' trivial (by rw[f1];exact sbB) (by rw[f2];exact suB)
 have hul:(mvS l ins cs cs.length).length<=1048576:=by have:=Zef l ins cs cs.length;omega
 repeat(first|(refine wkB ?_;intros)|(refine wnM ?_ ?_;(focus(exact hul));intros))
 rename_i r
 exact ZA rfl rfl (fun w hw=>⟨r,rfl,hw.sub suB⟩)
instance Zu6 (w0:World)(L:List Blk)(v:Value)(l:List St)[h:LstC w0 L v St rSt l]:SpecR prog w0 L 17 [v] (SlS rP 21 (movV l)) (fun q=>vSl q) (fun q=>mS 46 q) (l.length<=9223372036854775807/\∀x∈l,StOk x):=⟨fun hp w hw=>Zil v l w (h.out w hw) hp.1 hp.2⟩
end Go.Vt
namespace Go.Proofs.YtcgkgdgpdpihmaaGreatDoor
open Go.ChangeShapes Go.WideShapes Go.ChangeAt Go.RowKit Go.Deep Go.Vt
theorem rown :ownKnob Tryz.prog.godebug=none:=by kernel_rfl
theorem rlaidOut :laidOutB Tryz.prog=true:=by kernel_rfl
theorem runder23 :Tryz.prog.underlying 23=some (.slice 44):=by kernel_rfl
theorem rc44 :Tryz.prog.cellsOf 44=13:=by kernel_rfl
theorem rc42 :Tryz.prog.cellsOf 42=12:=by kernel_rfl
theorem rc40 :Tryz.prog.cellsOf 40=5:=by kernel_rfl
theorem ru5 :Tryz.prog.underlying 5=some (.int .u8):=by kernel_rfl
theorem ru4 :Tryz.prog.underlying 4=some .bool:=by kernel_rfl
theorem rc5 :Tryz.prog.cellsOf 5=1:=by kernel_rfl
theorem rc4 :Tryz.prog.cellsOf 4=1:=by kernel_rfl
theorem ru40 :∃f0 f1 f2 f3 f4,Tryz.prog.underlying 40=some (.struct #[f0,f1,f2,f3,f4])/\f0.type=5/\f1.type=5/\f2.type=5/\f3.type=5/\f4.type=4/\f0.offset=0/\f1.offset=1/\f2.offset=2/\f3.offset=3/\f4.offset=4:=⟨_,_,_,_,_,Tryz.underlying40,rfl,rfl,rfl,rfl,rfl,rfl,rfl,rfl,rfl,rfl⟩
theorem ru42 :∃f0 f1 f2 f3,Tryz.prog.underlying 42=some (.struct #[f0,f1,f2,f3])/\f0.type=40/\f1.type=40/\f2.type=4/\f3.type=4/\f0.offset=0/\f1.offset=5/\f2.offset=10/\f3.offset=11:=⟨_,_,_,_,Tryz.underlying42,rfl,rfl,rfl,rfl,rfl,rfl,rfl,rfl⟩
theorem ru44 :∃f0 f1,Tryz.prog.underlying 44=some (.struct #[f0,f1])/\f0.type=42/\f1.type=5/\f0.offset=0/\f1.offset=12:=⟨_,_,Tryz.underlying44,rfl,rfl,rfl,rfl⟩
theorem Zfi {n:Int}(h:(Lit.int .u8 n).wf=true):0<=n/\n<=255:=by
 simp only[Lit.wf,Bool.and_eq_true,decide_eq_true_eq] at h
 exact⟨h.1,h.2⟩
section
variable {H : Type} {eH : TypeId × Value -> H} {W : World} {base : Nat} {sp : Nat -> Bool} {held : Bool}
theorem Zgd (n:Nat)(cs:List Value)(y:DataW H×List MemPlace)(h:DataW.trod eH Tryz.prog W base sp held n 40 cs=some y):∃x:WI,cs=(ZG x).toList/\WIOk x:=by
 obtain⟨f0,f1,f2,f3,f4,he,t0,t1,t2,t3,t4,o0,o1,o2,o3,o4⟩:=ru40
 obtain⟨xs,k,hk,hxy,hlen,hxl,hf⟩:=DataW.trod_struct he h
 rw[rc40] at hlen
 match xs,hxl,cs,hlen with
 |[y0,y1,y2,y3,y4],_,[v0,v1,v2,v3,v4],_=>
  have g0:=hf 0 f0 rfl
  have g1:=hf 1 f1 rfl
  have g2:=hf 2 f2 rfl
  have g3:=hf 3 f3 rfl
  have g4:=hf 4 f4 rfl
  simp[o0,o1,o2,o3,o4,t0,t1,t2,t3,t4,rc5,rc4] at g0 g1 g2 g3 g4
  obtain⟨n0,p0,_,q0⟩:=DataW.trod_int ru5 g0
  obtain⟨n1,p1,_,q1⟩:=DataW.trod_int ru5 g1
  obtain⟨n2,p2,_,q2⟩:=DataW.trod_int ru5 g2
  obtain⟨n3,p3,_,q3⟩:=DataW.trod_int ru5 g3
  obtain⟨n4,p4,_⟩:=DataW.trod_bool ru4 g4
  simp only[List.cons.injEq,and_true] at p0 p1 p2 p3 p4
  subst p0 p1 p2 p3 p4
  exact⟨⟨n0,n1,n2,n3,n4⟩,rfl,⟨Zfi q0,Zfi q1,Zfi q2,Zfi q3⟩⟩
theorem ZmM (n:Nat)(cs:List Value)(y:DataW H×List MemPlace)(h:DataW.trod eH Tryz.prog W base sp held n 42 cs=some y):∃x:WS,cs=(ZU x).toList/\WSOk x:=by
 obtain⟨f0,f1,f2,f3,he,t0,t1,t2,t3,o0,o1,o2,o3⟩:=ru42
 obtain⟨xs,k,hk,hxy,hlen,hxl,hf⟩:=DataW.trod_struct he h
 rw[rc42] at hlen
 match xs,hxl,cs,hlen with
 |[y0,y1,y2,y3],_,[v0,v1,v2,v3,v4,v5,v6,v7,v8,v9,v10,v11],_=>
  have g0:=hf 0 f0 rfl
  have g1:=hf 1 f1 rfl
  have g2:=hf 2 f2 rfl
  have g3:=hf 3 f3 rfl
  simp[o0,o1,o2,o3,t0,t1,t2,t3,rc40,rc4] at g0 g1 g2 g3
  obtain⟨a,p0,q0⟩:=Zgd _ _ _ g0
  obtain⟨b,p1,q1⟩:=Zgd _ _ _ g1
  obtain⟨n2,p2,_⟩:=DataW.trod_bool ru4 g2
  obtain⟨n3,p3,_⟩:=DataW.trod_bool ru4 g3
  refine⟨⟨a,b,n2,n3⟩, ?_,⟨q0,q1⟩⟩
  show [v0,v1,v2,v3,v4]++([v5,v6,v7,v8,v9]++([v10]++[v11]))=_
  rw[p0,p1,p2,p3]
  rfl
theorem ZpB (n:Nat)(cs:List Value)(y:DataW H×List MemPlace)(h:DataW.trod eH Tryz.prog W base sp held n 44 cs=some y):∃x:St,cs=(rSt x).toList/\StOk x:=by
 obtain⟨f0,f1,he,t0,t1,o0,o1⟩:=ru44
 obtain⟨xs,k,hk,hxy,hlen,hxl,hf⟩:=DataW.trod_struct he h
 rw[rc44] at hlen
 match xs,hxl,cs,hlen with
 |[y0,y1],_,[v0,v1,v2,v3,v4,v5,v6,v7,v8,v9,v10,v11,v12],_=>
  have g0:=hf 0 f0 rfl
  have g1:=hf 1 f1 rfl
  simp[o0,o1,t0,t1,rc42,rc5] at g0 g1
  obtain⟨a,p0,q0⟩:=ZmM _ _ _ g0
  obtain⟨n1,p1,_,q1⟩:=DataW.trod_int ru5 g1
  refine⟨⟨a,n1⟩, ?_,⟨q0,Zfi q1⟩⟩
  show [v0,v1,v2,v3,v4,v5,v6,v7,v8,v9,v10,v11]++[v12]=_
  rw[p0,p1]
  rfl
theorem Zof {fuel:Nat}{v:Value}{x:DataW H×List MemPlace}(hs:∃a l c,v= .slice a l c)(h:DataW.trod eH Tryz.prog W base sp held fuel 23 v.cells.toList=some x):
  ∃xs:List St,ArgS W v rSt xs/\(∀x∈xs,StOk x)/\xs.length<=9223372036854775807:=by
 obtain⟨a0,l0,c0,rfl⟩:=hs
 rcases open_slice runder23 h with⟨h0,_⟩|⟨a,len,cap,m,n,D,Pl,hcs,hb,hl,hm,hmm,hx,hcl⟩
 ·simp[Value.cells] at h0
  obtain⟨rfl,rfl,rfl⟩:=h0
  exact⟨[],⟨.inl ⟨rfl,rfl⟩⟩,(fun x hx=>by cases hx),by simp⟩
 ·simp[Value.cells] at hcs
  obtain⟨rfl,rfl,rfl⟩:=hcs
  have hlm:l0<=m:=by rw[hmm];split <;> omega
  have each:∀i,i<l0->∃z:St,(∃cs',W.cells? base (a.add (i*13)) 13=some cs'/\cs'=(rSt z).toList)/\StOk z:=fun i hi=>by
   obtain⟨cs',c1,c2⟩:=hcl i (by omega)
   rw[rc44] at c1
   obtain⟨z,z1,z2⟩:=ZpB _ _ _ c2
   exact⟨z,⟨cs',c1,z1⟩,z2⟩
  obtain⟨q,hq⟩:=choose_lt each
  refine⟨(List.range l0).map q,⟨.inr ⟨a,c0,by simp,by simpa using hl,fun i f k' u hi hk hu=>?_⟩⟩,fun z hz=>?_, ?_⟩
  ·simp only[List.length_map,List.length_range] at hi
   obtain rfl:k'=13:=by rw[<-hk default,ZlT.size]
   simp only[List.getElem_map,List.getElem_range] at hu
   obtain⟨cs',c1,c2⟩:=(hq i hi).1
   obtain⟨_,hlen,hcell⟩:=World.cells?_some c1
   have hf:f<13:=by
    have:=(Array.getElem?_eq_some_iff.1 hu).1
    rw[ZlT.size] at this
    exact this
   have h1:=hcell f (by omega)
   rw[add_add] at h1
   rw[h1]
   subst c2
   simpa using hu
  ·obtain⟨i,hi,rfl⟩:=List.mem_map.1 hz
   exact(hq i (List.mem_range.1 hi)).2
  ·simp only[List.length_map,List.length_range]
   have:(maxLen:Nat)=9223372036854775807:=by decide
   omega
end
def cAcc :Array Value:=#[.int .u8 128, .int .u8 191, .int .u8 160, .int .u8 191, .int .u8 128, .int .u8 159, .int .u8 144, .int .u8 191, .int .u8 128, .int .u8 143, .int .u8 0, .int .u8 0, .int .u8 0, .int .u8 0, .int .u8 0, .int .u8 0, .int .u8 0, .int .u8 0, .int .u8 0, .int .u8 0, .int .u8 0, .int .u8 0, .int .u8 0, .int .u8 0, .int .u8 0, .int .u8 0, .int .u8 0, .int .u8 0, .int .u8 0, .int .u8 0, .int .u8 0, .int .u8 0]
def cFirst :Array Value:=(Pinned.utf8FirstZ.map fun(n:Nat)=>Value.int .u8 (n:Int)).toArray
def putCells (cs:Array Value):Obj->Obj
 | .cells _ t frozen=> .cells cs t frozen
 |o=>o
noncomputable def laidWorld (os:Os):World:=
 {World.holding Tryz.prog os ⟨#[],#[],[]⟩ with heap:=((World.holding Tryz.prog os ⟨#[],#[],[]⟩).heap.modify 2 (putCells cFirst)).modify 3 (putCells cAcc)}
end Go.Proofs.YtcgkgdgpdpihmaaGreatDoor
namespace Go.Vt
open Go.RowKit Go.Proofs
open Go.Proofs.Tryz (prog)
def shR (x:Rl)(q:Rat):Rl:=⟨x.P+q,x.R,x.Neg⟩
instance ZuN (x:Zh)(q:Rat):SpecC prog 30 [vR x,vQ q] (vR (shR x q)) (M x.P<=268435456/\M q<=268435456):=⟨fun hp w=>by
 refine Zb Tryz.func30 rfl Tryz.ntmps30 rfl ?_
 repeat(first|(refine wkB ?_;intros)|(refine wnM ?_ ?_;(focus(exact hp));intros))
 exact rtC rfl rfl⟩
end Go.Vt
namespace Go.Proofs.YtcgkgdgpdpihmaaGreatDoor
open Go.ChangeShapes Go.WideShapes Go.ChangeAt Go.RowKit Go.Deep Go.Vt
end Go.Proofs.YtcgkgdgpdpihmaaGreatDoor
namespace Go.Vt
open Go.RowKit Go.Proofs
open Go.Proofs.Tryz (prog)
def RV.sh (x:RV)(s:Rat):RV:=⟨x.p+s,x.r,x.n⟩
theorem RV.sh_ok {x:RV}(h:x.ok)(s:Rat):(x.sh s).ok:=⟨h.1,h.2⟩
theorem ZtW (x:Rl)(s:Rat):rvR (shR x s)=(rvR x).sh s:=rfl
theorem ZoR {k:Nat}{x:Rl}{s:Rat}(h:RlB k x)(hs:M s<=k):RlB (2*k+1) (shR x s):=by
 refine⟨by rw[ZtW];exact RV.sh_ok h.o s, ?_, ?_⟩
 ·have:=ZgO x.P s
  have:=h.p
  show M (x.P+s)<=_
  omega
 ·have:=h.r
  show M x.R<=_
  omega
def LeU (u:PU):Prop:=ri u.In.From<=ri u.In.To
theorem ZdN {l:List St}{ins cs:List Za}:∀i,i<=cs.length->∀u∈mvS l ins cs i,u.In∈cs
 |0,_,u,hu=>by cases hu
 |i+1,hi,u,hu=>by
  rw[mvS] at hu
  unfold mv1 at hu
  split at hu
  ·rw[Wv,Wo] at hu
   rcases hu with hu|rfl
   ·exact ZdN i (by omega) u hu
   ·exact Zt (by omega)
  ·exact ZdN i (by omega) u hu
theorem ZrF {l:List PU}(h:∀u∈l,LeU u):∀i,i<=l.length->∀u∈jnL l i,LeU u
 |0,_,u,hu=>by cases hu
 |i+1,hi,u,hu=>by
  have ih:=ZrF h i (by omega)
  have h1:=h (gi l (i:Int)) (Zt (by omega))
  rw[jnL] at hu
  unfold jn1 at hu
  split at hu
  ·rename_i hc
   rcases List.mem_or_eq_of_mem_set hu with hu|rfl
   ·exact ih u hu
   ·have h2:=ih (lstP (jnL l i)) (Zt (by omega))
    have h3:=hc.2
    unfold jnB at h3
    rw[Wq,Wq] at h3
    have h4:(lstP (jnL l i)).In.To=(gi l (i:Int)).In.From:=Wa h3.2.1
    unfold LeU at h1 h2⊢
    rw[h4] at h2
    show ri (lstP (jnL l i)).In.From<=ri (gi l (i:Int)).In.To
    grind
  ·rw[Wv,Wo] at hu
   rcases hu with hu|rfl
   ·exact ih u hu
   ·exact h1
theorem Zk3 {Pr:Rl->Prop}{l:List PU}(h:∀u∈l,Pr u.In.From/\Pr u.In.To):∀i,i<=l.length->∀u∈jnL l i,Pr u.In.From/\Pr u.In.To
 |0,_,u,hu=>by cases hu
 |i+1,hi,u,hu=>by
  have ih:=Zk3 h i (by omega)
  have h1:=h (gi l (i:Int)) (Zt (by omega))
  rw[jnL] at hu
  unfold jn1 at hu
  split at hu
  ·rename_i hc
   rcases List.mem_or_eq_of_mem_set hu with hu|rfl
   ·exact ih u hu
   ·exact⟨(ih (lstP (jnL l i)) (Zt (by omega))).1,h1.2⟩
  ·rw[Wv,Wo] at hu
   rcases hu with hu|rfl
   ·exact ih u hu
   ·exact h1
theorem Zpj {l:List St}(hk:∀x∈l,StOk x):∀u∈movV l,IvOk 3 u.In:=fun u hu=>by
 have:=Zk3 (Pr:=RlB 3) (fun u hu=>⟨(Zei hk _ (ZdN _ (Wl _) u hu)).a,(Zei hk _ (ZdN _ (Wl _) u hu)).b⟩) _ (Wl _) u hu
 exact⟨this.1,this.2⟩
end Go.Vt
