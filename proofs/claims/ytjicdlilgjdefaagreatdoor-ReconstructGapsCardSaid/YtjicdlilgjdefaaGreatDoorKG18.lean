/- that the gaps between reports are those of the chain (part 18 of 32.) Conditions: those that each statement names. -/
import Derived.Test.YtjicdlilgjdefaaGreatDoorKG11
import Derived.Test.YtjicdlilgjdefaaGreatDoorKG13
import Derived.Test.YtjicdlilgjdefaaGreatDoorKG14
import Derived.Test.YtjicdlilgjdefaaGreatDoorKG16
import Derived.Test.YtjicdlilgjdefaaGreatDoorKG17
set_option linter.unusedSimpArgs false
set_option linter.unusedVariables false
set_option maxHeartbeats 2000000
set_option maxRecDepth 100000
set_option linter.unusedSectionVars false
namespace Go.Vt
open Go.RowKit Go.Proofs
open Go.Proofs.Tryz (prog)
section
open Fv (va red)
section
variable {T F V : Type} [LE T] [LT T] [Std.LawfulOrderLT T] [Std.IsLinearOrder T] [Dns T] [Fv F T V]
theorem NF.gap {xs ys:List (GU T F)}(hx:NF xs)(hy:NF ys)(h:∀u∈xs,∀w∈ys,u.b<w.a):NF (xs++ys):=by
 refine⟨fun u hu=>?_,fun u hu=>?_,List.pairwise_append.2 ⟨hx.pw,hy.pw,fun u hu w hw=>?_⟩⟩
 ·rcases List.mem_append.1 hu with h1|h1
  ·exact hx.ok u h1
  ·exact hy.ok u h1
 ·rcases List.mem_append.1 hu with h1|h1
  ·exact hx.rd u h1
  ·exact hy.rd u h1
 ·have h1:=h u hu w hw
  refine⟨.inl h1,fun e=>?_,fun e=>?_,fun e=>?_⟩ <;> exfalso <;> grind
end
theorem ZqR {l:List (GU Rat ZG)}{a b:Rat}(ho:∀u∈l,u.ok)(h:∀t v,Has l t v->a<=t/\t<=b):∀u∈l,a<=u.a/\u.b<=b:=fun u hu=>by
 have hm:∀t,u.mem t->a<=t/\t<=b:=fun t ht=>h t _ ⟨u,hu,ht,rfl⟩
 rcases ho u hu with h1|⟨h1,h2,h3⟩
 ·refine⟨?_, ?_⟩
  ·rcases Std.le_total (a:=a) (b:=u.a) with h2|h2
   ·exact h2
   ·rcases Classical.em (u.a=a) with h3|h3
    ·grind
    ·obtain⟨t,t1,t2,t3⟩:=dens2 (a:=u.a) (b:=u.b) (c:=a) h1 (by grind)
     have:=hm t ⟨.inl t1, .inl t2⟩
     grind
  ·rcases Std.le_total (a:=u.b) (b:=b) with h2|h2
   ·exact h2
   ·rcases Classical.em (u.b=b) with h3|h3
    ·grind
    ·have hb:b<u.b:=by grind
     rcases Std.le_total (a:=u.a) (b:=b) with h4|h4
     ·obtain⟨t,t1,t2⟩:=Dns.out b u.b hb
      have:=hm t ⟨.inl (by grind), .inl t2⟩
      grind
     ·obtain⟨t,t1,t2⟩:=Dns.out u.a u.b h1
      have:=hm t ⟨.inl t1, .inl t2⟩
      grind
 ·have:=hm u.a ⟨.inr ⟨rfl,h2⟩, .inr ⟨h1,h3⟩⟩
  grind
theorem ZeI {pts:List SS}(h:Inc pts):∀{i j:Nat},i<=j->j<pts.length->(gi pts (i:Int)).T<=(gi pts (j:Int)).T
 |i,0,h1,_=>by
  have:i=0:=by omega
  subst this
  exact Rat.le_refl
 |i,j+1,h1,h2=>by
  rcases Nat.lt_or_ge i (j+1) with h3|h3
  ·have:=ZeI h (i:=i) (j:=j) (by omega) (by omega)
   have:=h j h2
   grind
  ·have:i=j+1:=by omega
   subst this
   exact Rat.le_refl
theorem Zuk (l:List PU):mpN toU l l.length=l.map toU:=ZdJ _ _
abbrev aU (l:List PU):List (GU Rat ZG):=(l.map toU).map absU
theorem ZkL {pts:List SS}(hB:Bnd pts)(hi:Inc pts)(hn:0<pts.length):NF (aU (frS pts))/\(∀u∈frS pts,UOk (toU u))/\∀u∈frS pts,(gi pts ((0:Nat):Int)).T<=u.In.From.P/\u.In.To.P<=(gi pts ((pts.length-1:Nat):Int)).T:=by
 rcases(by omega:pts.length=1\/2<=pts.length) with h1|h1
 ·have e:frS pts=[one1 (gi pts 0)]:=by unfold frS;rw[if_pos h1]
  have hb:=hB 0
  rw[e,h1]
  generalize gi pts 0=p at*
  have hz:M 0<=BQ:=by decide
  refine⟨NF.one (.inr ⟨rfl,rfl,rfl⟩) (fun _=>?_),fun u hu=>?_,fun u hu=>?_⟩
  ·show(⟨p.P.X,0,p.P.Y,0⟩:ZG)=lred ⟨p.P.X,0,p.P.Y,0⟩ p.T
   simp[lred,lin,Rat.mul_zero,Rat.add_zero]
  ·rw[Wo] at hu
   subst hu
   exact⟨⟨rfl,rfl,rfl,rfl,Wi hb.1 (by decide),Wi hb.1 (by decide)⟩,⟨Wi hb.2.1 (by decide),hz,Wi hb.2.2 (by decide),hz⟩⟩
  ·rw[Wo] at hu
   subst hu
   exact⟨Rat.le_refl,Rat.le_refl⟩
 ·obtain⟨-,k1,k2,k3⟩:=Ztz hB hi h1
  rw[Zuk] at k1 k2 k3
  refine⟨k1,fun u hu=>k2 _ (List.mem_map.2 ⟨u,hu,rfl⟩),fun u hu=>?_⟩
  refine ZqR (l:=aU (frS pts)) (a:=(gi pts ((0:Nat):Int)).T) (b:=(gi pts ((pts.length-1:Nat):Int)).T) k1.ok (fun t v hh=>?_) (absU (toU u)) (List.mem_map.2 ⟨toU u,List.mem_map.2 ⟨u,hu,rfl⟩,rfl⟩)
  obtain⟨g,hg,hm, -⟩:=(k3 t v).1 hh
  obtain⟨w,hw,rfl⟩:=List.mem_map.1 hg
  obtain⟨i,hi1,rfl⟩:=Zgl hw
  have q1:=ZeI hi (i:=0) (j:=i) (by omega) (by omega)
  have q2:=ZeI hi (i:=i+1) (j:=pts.length-1) (by omega) (by omega)
  have m1:(gi pts (i:Int)).T<=t:=by
   rcases hm.1 with h|h
   ·exact Rat.le_of_lt h
   ·have e:(gi pts (i:Int)).T=t:=h.1
    rw[e]
    exact Rat.le_refl
  have m2:t<=(gi pts ((i+1:Nat):Int)).T:=by
   rcases hm.2 with h|h
   ·exact Rat.le_of_lt h
   ·have e:t=(gi pts ((i+1:Nat):Int)).T:=h.1
    rw[e]
    exact Rat.le_refl
  exact⟨Rat.le_trans q1 m1,Rat.le_trans m2 q2⟩
def thrC (l:List SS)(g:Rat)(i:Nat):Bool:=decide (i+1<l.length)&& !decide (g<(gi l ((i+1:Nat):Int)).T-(gi l (i:Int)).T)
def thrN (l:List SS)(g:Rat):Nat->List PU×List SS
 |0=>([],[])
 |i+1=>if thrC l g i then((thrN l g i).1,(thrN l g i).2++[gi l (i:Int)]) else((thrN l g i).1++frS ((thrN l g i).2++[gi l (i:Int)]),[])
theorem Zmc {pts:List SS}(hB:Bnd pts)(hi:Inc pts)(hn:0<pts.length):(frS pts).length<=pts.length:=by
 unfold frS
 split
 ·rename_i h;rw[h];simp
 ·have:=ZsI (Zis hB hi (m:=pts.length-1) (by omega))
  rw[ZeW] at this
  have e:(mNorm (sgs pts (pts.length-1))).length=(nrmR (sgW pts (pts.length-1))).length:=by
   have:=congrArg List.length (Zge (sgs pts (pts.length-1)))
   rw[Zcl] at this
   exact this
  omega
structure ThrOk (l:List SS)(i:Nat)(s:List PU×List SS):Prop where
 r:s.2.length<=i
 run:s.2=(l.drop (i-s.2.length)).take s.2.length
 nf:NF (aU s.1)
 k:∀u∈s.1,UOk (toU u)
 hi:∀u∈s.1,∀j,i-s.2.length<=j->j<l.length->u.In.To.P<(gi l (j:Int)).T
 n:s.1.length+s.2.length<=i
theorem Zgk {l:List SS}{a r:Nat}(hB:Bnd l)(hi:Inc l)(h:a+r<=l.length):Bnd ((l.drop a).take r)/\Inc ((l.drop a).take r)/\∀k,k<r->gi ((l.drop a).take r) (k:Int)=gi l ((a+k:Nat):Int):=by
 have hl:((l.drop a).take r).length=r:=by rw[Wt,List.length_drop];omega
 have hg:∀k,k<r->gi ((l.drop a).take r) (k:Int)=gi l ((a+k:Nat):Int):=fun k hk=>by
  rw[Zj (by omega),Zj (by omega),List.getElem_take,List.getElem_drop]
 refine⟨ZoF fun s hs=>?_,fun i h1=>?_,hg⟩
 ·have hm:=List.mem_of_mem_drop (List.mem_of_mem_take hs)
  obtain⟨k,hk,rfl⟩:=List.getElem_of_mem hm
  have:=hB (k:Int)
  rwa [Zj hk] at this
 ·rw[hl] at h1
  rw[hg i (by omega),hg (i+1) h1]
  exact hi (a+i) (by omega)
theorem ZeB {l:List SS}{g:Rat}(hB:Bnd l)(hi:Inc l):∀i,i<=l.length->ThrOk l i (thrN l g i)
 |0,_=>⟨Wl _,rfl,NF.nil,(fun u hu=>by cases hu),(fun u hu=>by cases hu),Wl _⟩
 |i+1,h=>by
  have ih:=ZeB (g:=g) hB hi i (by omega)
  simp only[thrN]
  generalize thrN l g i=s at ih
  obtain⟨out,run⟩:=s
  obtain⟨i1,i2,i3,i4,i5,i6⟩:=ih
  simp only at i1 i2 i3 i4 i5 i6⊢
  have er:run++[gi l (i:Int)]=(l.drop (i-run.length)).take (run.length+1):=by
   rw[Wn (by rw[List.length_drop];omega),<-i2,List.getElem_drop,Zj (by omega)]
   congr 2
   simp only[show i-run.length+run.length=i by omega]
  split
  ·refine⟨by simp only[Wp,List.length_singleton];omega, ?_,i3,i4,fun u hu j h1 h2=>?_,by simp only[Wp,List.length_singleton];omega⟩
   ·simp only[Wp,List.length_singleton,show i+1-(run.length+1)=i-run.length by omega]
    exact er
   ·simp only[Wp,List.length_singleton] at h1
    exact i5 u hu j (by omega) h2
  ·obtain⟨p1,p2,p3⟩:=Zgk (a:=i-run.length) (r:=run.length+1) hB hi (by omega)
   have hl:((l.drop (i-run.length)).take (run.length+1)).length=run.length+1:=by rw[Wt,List.length_drop];omega
   rw[er]
   obtain⟨q1,q2,q3⟩:=ZkL p1 p2 (by omega)
   have q4:=Zmc p1 p2 (by omega)
   rw[hl] at q3 q4
   rw[p3 0 (by omega),p3 (run.length+1-1) (by omega),show i-run.length+(run.length+1-1)=i by omega,Nat.add_zero] at q3
   refine⟨Wm _,by simp, ?_,fun u hu=>?_,fun u hu j h1 h2=>?_, ?_⟩
   ·have e:aU (out++frS ((l.drop (i-run.length)).take (run.length+1)))=aU out++aU (frS ((l.drop (i-run.length)).take (run.length+1))):=by simp[aU]
    rw[e]
    refine i3.gap q1 fun u hu w hw=>?_
    obtain⟨u1,hu1,rfl⟩:=List.mem_map.1 hu
    obtain⟨u2,hu2,rfl⟩:=List.mem_map.1 hu1
    obtain⟨w1,hw1,rfl⟩:=List.mem_map.1 hw
    obtain⟨w2,hw2,rfl⟩:=List.mem_map.1 hw1
    have h1:=i5 u2 hu2 (i-run.length) (Wl _) (by omega)
    have h2:=(q3 w2 hw2).1
    show u2.In.To.P<w2.In.From.P
    grind
   ·rcases List.mem_append.1 hu with h3|h3
    ·exact i4 u h3
    ·exact q2 u h3
   ·simp only[Wx,Nat.sub_zero] at h1
    rcases List.mem_append.1 hu with h3|h3
    ·exact i5 u h3 j (by omega) h2
    ·have h4:=(q3 u h3).2
     have h5:=ZeI hi (i:=i+1) (j:=j) h1 h2
     have h6:=hi i (by omega)
     grind
   ·simp only[Wp,Wx]
    omega
end
section
instance ZCS (w0:World)(L:List Blk)(b n c:Nat)(pts:List SS)(sp:List Value)(T:TypeId)[h:AtC w0 L b (row rS pts sp) T]:SpecR prog w0 L 62 [.slice (some ⟨b,0,none⟩) n c] (SlS rP 36 (frS pts)) (fun s=> .tuple #[vSl s, .int .i64 (frE pts)]) (fun s=>mS 115 s) ((pts.length=n/\1<=n/\n<=19)/\Bnd pts/\Inc pts):=⟨fun hp w hw=>
 ZnP b n c pts sp T hp.1.1 hp.1.2.1 hp.1.2.2 hp.2.1 (fun i hi=>hp.2.2 i (by omega)) w (h.out w hw)⟩
end
section
instance ZGu (w0:World)(L:List Blk)(v:Value)(l:List Zc)(s:ZR)[h:LstC w0 L v Zc Zi l]:SpecR prog w0 L 41 [v, .agg (Zv s)] (SlS (eI .i64) 1 (cI (chainL (cCp s.MaxSpeed l) l.length))) (fun o=>vSl o) (fun o=>mS 3 o) (l.length<=4096/\(∀x∈l,TkOk x)/\(-1048576<=s.MaxSpeed/\s.MaxSpeed<=1048576)):=⟨fun hp w hw=>
 Zon v l s w (h.out w hw) hp.1 hp.2.1 hp.2.2⟩
theorem ZeO {α β:Type}[Inhabited α][Inhabited β]{f:α->β}{xs:List α}{i:Nat}(h:i<xs.length):gi (xs.map f) (i:Int)=f (gi xs (i:Int)):=by
 rw[Zj (by rw[Ws];exact h),Zj h,List.getElem_map]
def smT (x:Zc):SS:=⟨x.T,ptT x⟩
def spL (l:List Zc):List SS:=l.map smT
theorem Zdj (l:List Zc):(spL l).length=l.length:=Ws _
theorem Zik {l:List Zc}(h:∀x∈l,TkOk x):Bnd (spL l):=ZoF fun x hx=>by
 obtain⟨y,hy,rfl⟩:=List.mem_map.1 hx
 have h1:=h y hy
 exact⟨Wi h1.t (by decide),Wi (Zin h1).1 (by decide),Wi (Zin h1).2 (by decide)⟩
theorem Zmx {l:List Zc}{g:Int}{i:Nat}(h:i<l.length):thrC (spL l) (g:Rat) i=(decide (i+1<l.length)&& !farT g (gi l (i:Int)) (gi l ((i+1:Nat):Int))):=by
 unfold thrC farT
 rw[Zdj]
 by_cases h1:i+1<l.length
 ·rw[show gi (spL l) (i:Int)=smT (gi l (i:Int)) from ZeO (f:=smT) h,show gi (spL l) ((i+1:Nat):Int)=smT (gi l ((i+1:Nat):Int)) from ZeO (f:=smT) h1]
  rfl
 ·rw[We h1,Bool.false_and,Bool.false_and]
abbrev thrT (l:List Zc)(g:Int)(i:Nat):List PU×List SS:=thrN (spL l) (g:Rat) i
set_option maxHeartbeats 8000000 in
theorem ZsS (v:Value)(l:List Zc)(s:ZR)(w:World)(hv:ArgS w v Zi l)(hl:l.length<=19)(hok:∀x∈l,TkOk x)(hinc:Inc (spL l))(hs: -2147483648<=s.MaxGap/\s.MaxGap<=2147483648):
  Calls prog 42 [v, .agg (Zv s)].toArray w (RetM (SlS rP 36 (thrT l s.MaxGap l.length).1) (fun o=>vSl o) (fun o=>mS 115 o) w):=by
 obtain⟨p,cp,rfl⟩:=hv.form
 generalize hn:l.length=n at*
 have hgo:∀i:Nat,i<n->TkOk (gi l (i:Int)):=fun i hi=>hok _ (ZI (by omega))
 have hO:=fun i (hi:i<=n)=>ZeB (g:=(s.MaxGap:Rat)) (Zik hok) hinc i (by rw[Zdj];omega)
 refine Zg Tryz.func42 rfl Tryz.ntmps42 rfl ?_
 repeat(refine wkM ?_;intros)
 rename_i b3
 refine Zm (S:=(i:Nat)×(th:List PU×List SS)×SlS rP 36 th.1×SlS rS 12 th.2) (fun q=>q.1<=n/\q.2.1=thrT l s.MaxGap q.1) (fun q=>[(0, .slice p n cp),(3, .pointer (some ⟨b3,0,none⟩)),(5,vSl q.2.2.1),(6,vSl q.2.2.2),(11, .slice p n cp),(12, .int .i64 n),(13, .int .i64 (q.1:Nat))]) (fun q=>mS 143 q.2.2.2++(mS 115 q.2.2.1++[⟨b3,Zv s,32⟩])) (fun q=>n-q.1) ⟨0,([],[]),SlS.no,SlS.no⟩ ⟨Wm _,rfl⟩ sbB suB (fun q hq=>?_)
 obtain⟨i,⟨out,run⟩,o,r⟩:=q
 obtain⟨hq,hth⟩:=hq
 simp only at hq hth o r⊢
 have hi:=hO i hq
 have hnx:thrT l s.MaxGap (i+1)=if thrC (spL l) (s.MaxGap:Rat) i then((thrT l s.MaxGap i).1,(thrT l s.MaxGap i).2++[gi (spL l) (i:Int)]) else((thrT l s.MaxGap i).1++frS ((thrT l s.MaxGap i).2++[gi (spL l) (i:Int)]),[]):=rfl
 rw[show thrN (spL l) (s.MaxGap:Rat) i=(out,run) from hth.symm] at hi
 rw[<-hth] at hnx
 have hrn:run.length<=i:=hi.r
 have hon:out.length+run.length<=i:=hi.n
 repeat(refine wkM ?_;intros)
 refine Zl rfl (fun h=>?_) (fun h=>?_)
 ·have hlt:i<n:=by have:=Wa h;omega
  have hrun:run++[gi (spL l) (i:Int)]=((spL l).drop (i-run.length)).take (run.length+1):=by
   have e:run=((spL l).drop (i-run.length)).take run.length:=hi.run
   rw[Wn (by rw[List.length_drop,Zdj];omega),<-e]
   rw[List.getElem_drop,Zj (by rw[Zdj];omega)]
   congr 2
   simp only[show i-run.length+run.length=i by omega]
  obtain⟨p1,p2, -⟩:=Zgk (a:=i-run.length) (r:=run.length+1) (Zik hok) hinc (by rw[Zdj];omega)
  rw[<-hrun] at p1 p2
  have hCC:=Zmx (g:=s.MaxGap) (i:=i) (l:=l) (by omega)
  have hsm:gi (spL l) (i:Int)=smT (gi l (i:Int)):=ZeO (f:=smT) (by omega)
  rw[hsm] at hnx p1 p2
  have hlen:(run++[smT (gi l (i:Int))]).length=run.length+1:=by simp
  have hfew:=Zmc p1 p2 (by omega)
  have hne:l≠[]:=fun h0=>by rw[h0] at hn;simp at hn;omega
  obtain⟨bw,ow,cw,hvw,hcw,hrow⟩:=hv.blk (k:=11) hne []
  injection hvw with e1 e2 e3
  subst e1
  subst e3
  have hrow':∀L,RowC w L bw ow Zc Zi l:=fun L=>⟨fun w' hw'=>hrow.out w' (hw'.sub (Wk _))⟩
  have k1:=hgo i hlt
  repeat(refine wkM ?_;intros)
  rename_i b8
  (refine ZX (.v [0,1,2,3,4,5] (.e1 6 (.e1 7 (.e1 8 (.fin))))) ([⟨b8,ZL (ZJ (gi l (i:Int))),56⟩]) (h:=?_);refine wkX ?_)
  (repeat(first|refine wkH ?_|(refine tC rfl rfl ?_ ?_;focus(exact k1))))
  repeat(refine wkT ?_;intros)
  refine eU rfl rfl ?_ ?_ ?_ ?_
  ·rfl
  ·rfl
  ·exact⟨by decide,by omega,by omega⟩
  intro r'
  repeat(refine wkT ?_;intros)
  have hr':∃r2:SlS rS 12 (run++[smT (gi l (i:Int))]),vSl r2=vSl r'/\∀T,mS T r2=mS T r':=r'.like rfl
  obtain⟨r2,hr2,hm2⟩:=hr'
  rw[<-hr2]
  simp only[<-hm2]
  clear hr2 hm2
  generalize smT (gi l (i:Int))=x at*
  repeat(refine wkM ?_;intros)
  rename_i bx
  refine Zav (S:=Bool) (fun q=>q=thrC (spL l) (s.MaxGap:Rat) i) (fun q=>[(0, .slice (some ⟨bw,ow,none⟩) n cp),(3, .pointer (some ⟨b3,0,none⟩)),(5,vSl o),(6,vSl r2),(11, .slice (some ⟨bw,ow,none⟩) n cp),(12, .int .i64 n),(13, .int .i64 (i:Nat)),(41, .bool q)]) (fun _=>mS 143 r2++(mS 115 o++[⟨b3,Zv s,32⟩])) ?_ (fun q hq2=>?_)
  ·by_cases c1:i+1<n
   ·rw[Wc (show i+1<l.length by omega),Bool.true_and] at hCC
    have k2:=hgo (i+1) c1
    refine jD 16 16 (h:=?_)
    (repeat(refine wkH ?_))
    simp only[Wc (show(i:Int)+1<(n:Int) by omega)]
    (repeat(first|refine wkH ?_|(refine tC rfl rfl ?_ ?_;focus(exact⟨k1,k2,hs⟩))))
    refine Zn ?_
    refine Zr ?_
    repeat(refine wkM ?_;intros)
    exact Zt _ hCC.symm sbB suB
   ·rw[We (show¬i+1<l.length by omega),Bool.false_and] at hCC
    refine jD 16 16 (h:=?_)
    (repeat(refine wkH ?_))
    simp only[We (show¬(i:Int)+1<(n:Int) by omega)]
    (repeat(refine wkH ?_))
    refine Zn ?_
    refine Zr ?_
    repeat(refine wkM ?_;intros)
    exact Zt false hCC.symm sbB suB
  ·subst hq2
   cases hc:thrC (spL l) (s.MaxGap:Rat) i
   ·rw[hc,if_neg (by decide)] at hnx
    rcases r2.cases 143 with⟨x0,x1,x2⟩|⟨bo,co,sp,hc1,x1,x2,xne⟩
    ·exact absurd (congrArg List.length x0) (by rw[hlen];exact Nat.succ_ne_zero _)
    simp only[x1,x2,Wf,Wg]
    repeat(first|(refine wkM ?_;intros)|(refine wnM ?_ ?_;(focus(exact⟨⟨rfl,by omega,by omega⟩,p1,p2⟩));intros))
    rename_i fs
    refine sV rfl rfl ?_ ?_ ?_
    ·rfl
    ·exact⟨by omega,by omega⟩
    intro o'
    repeat(refine wkO ?_;intros)
    exact Zh ⟨i+1,(out++frS (run++[x]),[]),o',SlS.no⟩ ⟨hlt,hnx.symm⟩ sbB suB (by show n-(i+1)<n-i;omega)
   ·rw[hc,if_pos rfl] at hnx
    repeat(refine wkO ?_;intros)
    exact Zh ⟨i+1,(out,run++[x]),o,r2⟩ ⟨hlt,hnx.symm⟩ sbB suB (by show n-(i+1)<n-i;omega)
 ·have hge:i=n:=by have:=Wb h;omega
  subst hge
  rw[<-hth]
  repeat(refine wkM ?_;intros)
  exact Zy rfl rfl (fun w hw=>⟨o,rfl,hw.sub suB⟩)
instance Zyf (w0:World)(L:List Blk)(v:Value)(l:List Zc)(s:ZR)[h:LstC w0 L v Zc Zi l]:SpecR prog w0 L 42 [v, .agg (Zv s)] (SlS rP 36 (thrT l s.MaxGap l.length).1) (fun o=>vSl o) (fun o=>mS 115 o) (l.length<=19/\(∀x∈l,TkOk x)/\Inc (spL l)/\(-2147483648<=s.MaxGap/\s.MaxGap<=2147483648)):=⟨fun hp w hw=>
 ZsS v l s w (h.out w hw) hp.1 hp.2.1 hp.2.2.1 hp.2.2.2⟩
end
section
def kpT (v:Int)(l:List Zc):List Zc:=(chainL (cCp v l) l.length).map fun k:Nat=>gi l (k:Int)
theorem Zc8 (v:Int)(l:List Zc):(kpT v l).length=(chainL (cCp v l) l.length).length:=Ws _
theorem ZkM (C:Nat->Nat->Bool)(n:Nat):∀i,(outN C n i).1.length<=i
 |0=>Wl _
 |i+1=>by
  have:=ZkM C n i
  rw[show outN C n (i+1)=outS C n (outN C n i) i from rfl]
  unfold outS
  split
  ·rw[Wp,List.length_singleton];omega
  ·omega
theorem Zco (C:Nat->Nat->Bool)(n:Nat):(chainL C n).length<=n:=ZkM C n n
theorem Zff {C:Nat->Nat->Bool}{n:Nat}{k:Nat}(h:k∈chainL C n):k<n:=ZpR C n k h
theorem Zgs {v:Int}{l:List Zc}{x:Zc}(h:x∈kpT v l):x∈l:=by
 obtain⟨k,hk,rfl⟩:=List.mem_map.1 h
 have:=Zff hk
 exact ZI (by omega)
def gapI (a b:Zc):Ze:=⟨⟨a.T,0,false⟩,⟨b.T,0,false⟩,true,true⟩
def gpT (g:Int)(l:List Zc):Nat->List Ze
 |0=>[]
 |m+1=>if farT g (gi l (m:Int)) (gi l ((m+1:Nat):Int)) then gpT g l m++[gapI (gi l (m:Int)) (gi l ((m+1:Nat):Int))] else gpT g l m
theorem Zf9 (g:Int)(l:List Zc):∀m,(gpT g l m).length<=m
 |0=>Wl _
 |m+1=>by
  have:=Zf9 g l m
  simp only[gpT]
  split
  ·rw[Wp,List.length_singleton];omega
  ·omega
end
section
def idxP {α:Type}(p:α->Bool)(xs:List α):Int:=if xs.any p then(xs.findIdx p:Int) else-1
theorem ZhG {α:Type}[Inhabited α]{p:α->Bool}{xs:List α}{m:Nat}(hm:m<xs.length)(h:p (gi xs (m:Int))=true)(hb:∀j:Nat,j<m->p (gi xs (j:Int))=false):idxP p xs=m:=by
 have e:xs.any p=true:=List.any_eq_true.2 ⟨_,ZI (by omega),h⟩
 unfold idxP
 rw[if_pos e]
 congr 1
 refine(List.findIdx_eq hm).2 ⟨by rw[<-Zj hm];exact h,fun j hj=>?_⟩
 rw[<-Zj (by omega)]
 exact hb j hj
theorem Zh1 {α:Type}[Inhabited α]{p:α->Bool}{xs:List α}(hb:∀j:Nat,j<xs.length->p (gi xs (j:Int))=false):idxP p xs= -1:=by
 unfold idxP
 rw[if_neg]
 intro h
 obtain⟨x,hx,hp⟩:=List.any_eq_true.1 h
 obtain⟨j,hj,rfl⟩:=List.getElem_of_mem hx
 have:=hb j hj
 rw[Zj hj,hp] at this
 cases this
theorem Zmm {α:Type}{p:α->Bool}{xs:List α}:decide (0<=idxP p xs)=xs.any p:=by
 unfold idxP
 cases h:xs.any p
 ·rw[if_neg (by decide)]
  rfl
 ·rw[if_pos rfl]
  exact Wc (Int.natCast_nonneg _)
instance ZzV :CallC prog 160:=⟨by kernel_rfl⟩
instance ZyJ :CallC prog 101:=⟨by kernel_rfl⟩
set_option maxHeartbeats 4000000 in
theorem Zol (v:Value)(rs:List Zb)(r:Zb)(w:World)(hv:ArgS w v Zd rs)(hl:rs.length<=1048576):
  Calls prog 160 [v, .agg (Zd r)].toArray w (Ret (.int .i64 (idxP (fun x=>decide (r=x)) rs)) w):=by
 obtain⟨p,cp,rfl⟩:=hv.form
 refine Zg Tryz.func160 rfl Tryz.ntmps160 rfl ?_
 repeat(refine wkM ?_;intros)
 rename_i b3
 refine Zm (S:=Nat) (fun m=>m<=rs.length/\∀j:Nat,j<m->decide (r=gi rs (j:Int))=false) (fun m=>[(0, .slice p rs.length cp),(3, .pointer (some ⟨b3,0,none⟩)),(7, .int .i64 rs.length),(8, .int .i64 (m:Nat))]) (fun _=>[⟨b3,Zd r,35⟩]) (fun m=>rs.length-m) 0 ⟨Wm _,fun j hj=>absurd hj (Nat.not_lt_zero _)⟩ sbB slB (fun m hm=>?_)
 obtain⟨hm,hb⟩:=hm
 repeat(refine wkM ?_;intros)
 refine Zl rfl (fun h=>?_) (fun h=>?_)
 ·have hlt:m<rs.length:=by have:=Wa h;omega
  obtain⟨bw,ow,rfl,hrow'⟩:=hv.opn (k:=7) hlt
  repeat(refine wkM ?_;intros)
  (refine jD 6 6 (h:=?_);(repeat(refine wkH ?_));refine Zn ?_;(repeat(refine Z4 ?_;intro _));refine Zr ?_)
  cases hd:decide (r=gi rs (m:Int))
  ·repeat(refine wkM ?_;intros)
   exact Zh (m+1) ⟨hlt,fun j hj=>by
    rcases Nat.lt_or_ge j m with h1|h1
    ·exact hb j h1
    ·rw[show j=m by omega]
     exact hd⟩ sbB slB (by omega)
  ·rw[ZhG hlt hd hb]
   repeat(refine wkM ?_;intros)
   exact rtT rfl rfl
 ·have hge:m=rs.length:=by have:=Wb h;omega
  subst hge
  rw[Zh1 hb]
  repeat(refine wkM ?_;intros)
  exact rtT rfl rfl
instance ZFY (w0:World)(L:List Blk)(v:Value)(rs:List Zb)(r:Zb)[h:LstC w0 L v Zb Zd rs]:SpecM prog w0 L 160 [v, .agg (Zd r)] (.int .i64 (idxP (fun x=>decide (r=x)) rs)) (rs.length<=1048576):=⟨fun hp w hw=>Zol v rs r w (h.out w hw) hp⟩
theorem ArgS.lst {α:Type}{w:World}{v:Value}{enc:α->Array Value}{xs:List α}(h:ArgS w v enc xs)(L:List Blk):LstC w L v α enc xs:=⟨fun w' hw'=>h.to hw'.ext⟩
instance ZEe (w0:World)(L:List Blk)(v:Value)(rs:List Zb)(r:Zb)[h:LstC w0 L v Zb Zd rs]:SpecM prog w0 L 101 [v, .agg (Zd r)] (.bool (rs.any fun x=>decide (r=x))) (rs.length<=1048576):=⟨fun hp w hw=>by
 have hv:=fun L=>(h.out w hw).lst L
 refine Zg Tryz.func101 rfl Tryz.ntmps101 rfl ?_
 repeat(first|(refine wkM ?_;intros)|(refine wnM ?_ ?_;(focus(exact hp));intros))
 simp only[Zmm]
 repeat(refine wkM ?_;intros)
 exact rtT rfl rfl⟩
instance ZHF (w0:World)(L:List Blk)(v:Value)(rs:List Zb)(r:Zb)[h:LstC w0 L v Zb Zd rs]:SpecM prog w0 L 53 [v, .agg (Zd r)] (.bool (rs.any fun x=>decide (r=x))) (rs.length<=1048576):=⟨fun hp w hw=>by
 have hv:=fun L=>(h.out w hw).lst L
 refine Zg Tryz.func53 rfl Tryz.ntmps53 rfl ?_
 repeat(first|(refine wkM ?_;intros)|(refine wnM ?_ ?_;(focus(exact hp));intros))
 exact rtT rfl rfl⟩
def statR (rs:List Zb)(r:Zb):Int:=
 if(rs.any fun x=>decide (r=x))=false then 0 else if(mget (winR rs) (idR r)).getD Zat=r then(if r.Cancel then 3 else 1) else 2
instance ZCG (w0:World)(L:List Blk)(v:Value)(rs:List Zb)(r:Zb)[h:LstC w0 L v Zb Zd rs]:SpecM prog w0 L 18 [v, .agg (Zd r)] (.int .i64 (statR rs r)) (rs.length<=1048576):=⟨fun hp w hw=>by
 have hv:=fun L=>(h.out w hw).lst L
 have hd:statR rs r=if(rs.any fun x=>decide (r=x))=false then 0 else if(mget (winR rs) (idR r)).getD Zat=r then(if r.Cancel then 3 else 1) else 2:=rfl
 refine Zg Tryz.func18 rfl Tryz.ntmps18 rfl ?_
 repeat(refine wkM ?_;intros)
 rename_i b3
 refine Zav (S:=Nat) (fun _=>True) (fun b5=>[(0,v),(3, .pointer (some ⟨b3,0,none⟩)),(5, .pointer (some ⟨b5,0,none⟩))]) (fun b5=>[⟨b5,Zd ((mget (winR rs) (idR r)).getD Zat),35⟩,⟨b3,Zd r,35⟩]) ?_ (fun b5 _=>?_)
 ·(refine ZX (.v [0,2] (.e2 1 (.v [3] (.e2 4 (.e1 5 (.e1 6 (.fin))) 5 (.e1 4 (.e1 6 (.fin))))) 5 (.e1 1 (.v [3] (.e1 4 (.e1 6 (.fin))))))) ([⟨b3,Zd r,35⟩]) (h:=?_);refine wkX ?_)
  (repeat(refine wkH ?_))
  refine And.intro ?_ ?_
  all_goals
   repeat(first|(refine wkT ?_;intros)|(refine tC rfl rfl ?_ ?_;focus(first|exact hp|exact trivial))|(refine uC rfl rfl ?_ ?_;focus(first|exact hp|exact trivial))|(refine eN rfl rfl ?_ ?_;(focus(first|exact hp|exact trivial));intro _;(try simp only[Wf,Wg,Wh])))
  all_goals try refine And.intro ?_ ?_
  all_goals
   repeat(first|(refine wkT ?_;intros)|(refine tC rfl rfl ?_ ?_;focus(first|exact hp|exact trivial))|(refine uC rfl rfl ?_ ?_;focus(first|exact hp|exact trivial))|(refine eN rfl rfl ?_ ?_;(focus(first|exact hp|exact trivial));intro _;(try simp only[Wf,Wg,Wh])))
   exact Zt _ trivial sbB suB
 ·generalize (mget (winR rs) (idR r)).getD Zat=x at*
  repeat(first|(refine wkM ?_;intros)|(refine wnM ?_ ?_;(focus(exact hp));intros))
  cases hc:rs.any fun x=>decide (r=x)
  ·rw[hc,if_pos rfl] at hd
   rw[hd]
   repeat(refine wkM ?_;intros)
   exact rtT rfl rfl
  rw[hc,if_neg (by decide)] at hd
  repeat(refine wkM ?_;intros)
  by_cases he:x=r
  ·rw[if_pos he] at hd
   subst he
   simp only[Wc (show x=x from rfl),Bool.not_true,Bool.not_false]
   repeat(refine wkM ?_;intros)
   cases hx:x.Cancel
   ·rw[hx] at hd
    rw[hd]
    repeat(refine wkM ?_;intros)
    exact rtT rfl rfl
   ·rw[hx] at hd
    rw[hd]
    repeat(refine wkM ?_;intros)
    exact rtT rfl rfl
  ·rw[if_neg he] at hd
   simp only[We he,Bool.not_true,Bool.not_false]
   rw[hd]
   repeat(refine wkM ?_;intros)
   exact rtT rfl rfl⟩
instance ZDS (w0:World)(L:List Blk)(x:Zc)(b:Nat)(r:Zb)(T:TypeId)[k:AtC w0 L b (Zd r) T]:SpecM prog w0 L 48 [vTm x, .pointer (some ⟨b,0,none⟩)] (.bool (decide (x.Report=r))) True:=⟨fun _ w hw=>by
 have f:=FoC.mk (k.out w hw)
 refine Zg Tryz.func48 rfl Tryz.ntmps48 rfl ?_
 repeat(refine wkM ?_;intros)
 exact rtT rfl rfl⟩
abbrev vEx (b:Nat):Value:= .func (.func 48) #[] [.pointer (some ⟨b,0,none⟩)].toArray
abbrev isT (r:Zb)(x:Zc):Bool:=decide (x.Report=r)
instance ZzE :CallC prog 99:=⟨by kernel_rfl⟩
instance Zyo :CallC prog 49:=⟨by kernel_rfl⟩
set_option maxHeartbeats 4000000 in
theorem ZnM (v:Value)(rs:List Zc)(b:Nat)(r:Zb)(T:TypeId)(w:World)(hv:ArgS w v Zi rs)(hl:rs.length<=1048576)(hb:∃fz,w.heap[b]? =some (.cells (Zd r) T fz)):
  Calls prog 99 [v,vEx b].toArray w (Ret (.int .i64 (idxP (isT r) rs)) w):=by
 have f:=FoC.mk hb
 obtain⟨p,cp,rfl⟩:=hv.form
 refine Zg Tryz.func99 rfl Tryz.ntmps99 rfl ?_
 repeat(refine wkM ?_;intros)
 refine Zm (S:=Nat) (fun m=>m<=rs.length/\∀j:Nat,j<m->isT r (gi rs (j:Int))=false) (fun m=>[(0, .slice p rs.length cp),(1,vEx b),(7, .int .i64 rs.length),(8, .int .i64 (m:Nat))]) (fun _=>[]) (fun m=>rs.length-m) 0 ⟨Wm _,fun j hj=>absurd hj (Nat.not_lt_zero _)⟩ sbB slB (fun m hm=>?_)
 obtain⟨hm,hb⟩:=hm
 repeat(refine wkM ?_;intros)
 refine Zl rfl (fun h=>?_) (fun h=>?_)
 ·have hlt:m<rs.length:=by have:=Wa h;omega
  obtain⟨bw,ow,rfl,hrow'⟩:=hv.opn (k:=11) hlt
  have hi:isT r (gi rs (m:Int))=decide ((gi rs (m:Int)).Report=r):=rfl
  repeat(refine wkM ?_;intros)
  rw[<-hi]
  cases hd:isT r (gi rs (m:Int))
  ·repeat(refine wkM ?_;intros)
   exact Zh (m+1) ⟨hlt,fun j hj=>by
    rcases Nat.lt_or_ge j m with h1|h1
    ·exact hb j h1
    ·rw[show j=m by omega]
     exact hd⟩ sbB slB (by omega)
  ·rw[ZhG hlt hd hb]
   repeat(refine wkM ?_;intros)
   exact rtT rfl rfl
 ·have hge:m=rs.length:=by have:=Wb h;omega
  subst hge
  rw[Zh1 hb]
  repeat(refine wkM ?_;intros)
  exact rtT rfl rfl
instance ZGe (w0:World)(L:List Blk)(v:Value)(rs:List Zc)(b:Nat)(r:Zb)(T:TypeId)[h:LstC w0 L v Zc Zi rs][k:AtC w0 L b (Zd r) T]:SpecM prog w0 L 99 [v,vEx b] (.int .i64 (idxP (isT r) rs)) (rs.length<=1048576):=⟨fun hp w hw=>ZnM v rs b r T w (h.out w hw) hp (k.out w hw)⟩
instance ZDB (w0:World)(L:List Blk)(v:Value)(rs:List Zc)(b:Nat)(r:Zb)(T:TypeId)[h:LstC w0 L v Zc Zi rs][k:AtC w0 L b (Zd r) T]:SpecM prog w0 L 49 [v,vEx b] (.bool (rs.any (isT r))) (rs.length<=1048576):=⟨fun hp w hw=>by
 have hv:=fun L=>(h.out w hw).lst L
 have f:=FoC.mk (k.out w hw)
 refine Zg Tryz.func49 rfl Tryz.ntmps49 rfl ?_
 repeat(first|(refine wkM ?_;intros)|(refine wnM ?_ ?_;(focus(exact hp));intros))
 simp only[Zmm]
 repeat(refine wkM ?_;intros)
 exact rtT rfl rfl⟩
end
section
def tmd (t q x y:Int):Zc:=⟨(t:Rat),⟨1,q,0,0,t,x,y,false⟩⟩
instance ZE0 (t q x y:Int):SpecC prog 90 [.int .i64 t, .int .i64 q, .int .i64 x, .int .i64 y] (vTm (tmd t q x y)) (-9223372036854775808<=t/\t<=9223372036854775807):=⟨fun hp w=>by
 refine Zg Tryz.func90 rfl Tryz.ntmps90 rfl ?_
 repeat(first|(refine wkM ?_;intros)|(refine wnM ?_ ?_;(focus(exact hp));intros))
 exact rtC rfl rfl⟩
def exL :List Zc:=[tmd 0 0 0 0,tmd 1 1 9 0,tmd 2 2 4 0,tmd 9 3 4 0]
instance ZyD (w0:World)(L:List Blk):SpecR prog w0 L 40 [] (SlS Zi 12 exL) (fun s=>vSl s) (fun s=>mS 56 s) True:=⟨fun _ w hw=>by
 refine Zg Tryz.func40 rfl Tryz.ntmps40 rfl ?_
 repeat(first|(refine wkM ?_;intros)|(refine wnM ?_ ?_;(focus(exact⟨by decide,by decide⟩));intros))
 rename_i b
 obtain⟨s',hv',hm'⟩:=SlS.put (enc:=Zi) (k:=12) (b:=b) (sp:=[]) (c:=4) (ys:=exL) 56 rfl ⟨Wl _,rfl⟩ (by decide)
 refine Zy rfl rfl (fun w hw=>⟨s', ?_, ?_⟩)
 ·show Ending.returned _=Ending.returned (vSl s')
  rw[hv']
  rfl
 ·dsimp only
  rw[hm']
  exact hw.sub suB⟩
def setT (a b:Int):ZR:=⟨1+a % 24,1+b % 30⟩
instance Zxr (p:Sl)(a b:Int):SpecC prog 13 [.agg (ZK ⟨p,a,b⟩)] (.agg (Zv (setT a b))) ((0<=a/\a<=255)/\(0<=b/\b<=255)):=⟨fun hp w=>by
 obtain⟨h1,h2⟩:=hp
 refine Zg Tryz.func13 rfl Tryz.ntmps13 rfl ?_
 repeat(refine wkO ?_;intros)
 dsimp only
 repeat(refine wkO ?_;intros)
 dsimp only
 repeat(refine wkO ?_;intros)
 exact rtC rfl rfl⟩
instance Zz1 (a b:Zc)(s:ZR):SpecC prog 107 [vTm a,vTm b, .agg (Zv s)] (.bool (cpt s.MaxSpeed a b)) (TkOk a/\TkOk b/\(-1048576<=s.MaxSpeed/\s.MaxSpeed<=1048576)):=⟨fun hp w=>by
 obtain⟨ha,hb,hv⟩:=hp
 have h1:M b.T<=LQ/\M a.T<=LQ:=⟨Wi hb.t (by decide),Wi ha.t (by decide)⟩
 have g1:=MB.mk ha.t
 have g2:=MB.mk hb.t
 have g3:=MB.mk (ZdR (n:=s.MaxSpeed) (by omega))
 have h2:M (s.MaxSpeed:Rat)<=LQ/\M (b.T-a.T)<=LQ:=⟨MB.lt rfl,MB.lt rfl⟩
 have h3:M ((s.MaxSpeed:Rat)*(b.T-a.T))<=LQ/\M ((s.MaxSpeed:Rat)*(b.T-a.T))<=LQ:=⟨MB.lt rfl,MB.lt rfl⟩
 have h6: -9223372036854775808<=s.MaxSpeed/\s.MaxSpeed<=9223372036854775807:=by omega
 have hax:=ha.x
 have hay:=ha.y
 have hbx:=hb.x
 have hby:=hb.y
 have sq:∀z:Int, -2097152<=z/\z<=2097152->0<=z*z/\z*z<=4398046511104:=fun z hz=>by
  refine⟨?_, ?_⟩
  ·rcases Int.le_total 0 z with h|h
   ·exact Int.mul_nonneg h h
   ·exact Int.mul_nonneg_of_nonpos_of_nonpos h h
  ·rcases Int.le_total 0 z with h|h
   ·have:=Int.mul_le_mul hz.2 hz.2 h (by decide)
    omega
   ·have e:z*z=(-z)*(-z):=by rw[Int.neg_mul_neg]
    have:=Int.mul_le_mul (a:= -z) (b:= -z) (c:=2097152) (d:=2097152) (by omega) (by omega) (by omega) (by omega)
    rw[e]
    exact Int.le_trans this (by decide)
 have s1:=sq (b.Report.X-a.Report.X) (by omega)
 have s2:=sq (b.Report.Y-a.Report.Y) (by omega)
 have hd:(((b.Report.X-a.Report.X)*(b.Report.X-a.Report.X)+(b.Report.Y-a.Report.Y)*(b.Report.Y-a.Report.Y):Int):Rat)=d2 (ptT a) (ptT b):=by
  simp only[d2,ptT,Rat.intCast_add,Rat.intCast_mul,Rat.intCast_sub]
  grind
 have h4:M (((b.Report.X-a.Report.X)*(b.Report.X-a.Report.X)+(b.Report.Y-a.Report.Y)*(b.Report.Y-a.Report.Y):Int):Rat)<=LQ/\M (((s.MaxSpeed:Rat)*(b.T-a.T))*((s.MaxSpeed:Rat)*(b.T-a.T)))<=LQ:=by
  refine⟨?_,MB.lt rfl⟩
  rw[Znx]
  have:=Zc3 (n:=(b.Report.X-a.Report.X)*(b.Report.X-a.Report.X)+(b.Report.Y-a.Report.Y)*(b.Report.Y-a.Report.Y)) (k:=8) (by omega)
  exact Nat.max_le.2 ⟨Wi this (by decide),by decide⟩
 refine Zg Tryz.func107 rfl Tryz.ntmps107 rfl ?_
 repeat(first|(refine wkM ?_;intros)|(refine wnM ?_ ?_;(focus(exact h1));intros))
 unfold cpt
 by_cases h0:0<b.T-a.T
 ·have h0':=(ZcW b.T a.T).2 h0
  simp only[We (show¬(b.T-a.T).num.sign<=0 by omega)]
  repeat(refine wkM ?_;intros)
  (refine ZX (.v [0,1,2,3,4,5,6,7,8,9,10,11,12,13] (.e1 14 (.e1 15 (.fin)))) (_) (h:=?_);refine wkX ?_)
  (repeat(refine wkH ?_))
  repeat(refine wkT ?_;intros)
  repeat(refine wkM ?_;intros)
  (refine Zdi [0,1,2,3,4] [5] [6] (_) (h:=?_);refine wkI ?_)
  (repeat(first|refine wkH ?_|(refine tC rfl rfl ?_ ?_;focus(first|exact h6|exact h2))))
  repeat(refine wkT ?_;intros)
  repeat(refine wkM ?_;intros)
  refine jD 14 14 (h:=?_)
  (repeat(first|refine wkH ?_|(refine tC rfl rfl ?_ ?_;focus(first|exact h3|exact⟨by omega,by omega⟩))))
  refine Zn ?_
  refine Zr ?_
  repeat(refine wkM ?_;intros)
  rw[hd,Wc h0,Bool.true_and,show decide (d2 (ptT a) (ptT b)<=((s.MaxSpeed:Rat)*(b.T-a.T))*((s.MaxSpeed:Rat)*(b.T-a.T)))=decide (cq (d2 (ptT a) (ptT b)) (((s.MaxSpeed:Rat)*(b.T-a.T))*((s.MaxSpeed:Rat)*(b.T-a.T)))<=0) from decide_eq_decide.2 Zjt.symm]
  exact rtT rfl rfl
 ·have h0':¬0<(b.T-a.T).num.sign:=fun h=>h0 ((ZcW b.T a.T).1 h)
  simp only[Wc (show(b.T-a.T).num.sign<=0 by omega)]
  rw[We h0,Bool.false_and]
  repeat(refine wkM ?_;intros)
  exact rtT rfl rfl⟩
end
section
open Go.ChangeMaps (setBlock)
abbrev mIn (l:List (Int×Bool)):Obj:=mapO (Value.int .i64) Value.bool l
abbrev pKI (l:List (Int×Bool)):List Int:=l.map (·.1)
theorem Zq5 {l:List (Int×Bool)}{s:List Nat}{i:Nat}(h:i<l.length):seenL (pKI l) (s++[i])=seenL (pKI l) s++[(gi l (i:Int)).1]:=by
 rw[ZbS _ _ _ (by rw[Ws];exact h),List.getElem_map,Zj h]
set_option maxHeartbeats 4000000 in
theorem Zkd (wc w0:World)(Bm b N:Nat)(TB:TypeId)(l:List (Int×Bool))(hwc:Below wc.heap.size wc w0)(hB:∃fz,wc.heap[Bm]? =some (.cells #[.map (some b)] TB fz))(hb:wc.heap[b]? =some (mIn l)):
  SeqStopsK (Fr none) N prog 307 #[.pointer (some ⟨Bm,0,none⟩)] (fun x:Int=>#[.int .i64 x]) (KpK wc) (fun ys=>ys.Perm (pKI l)) (fun _=>True) (l.length+1) w0:=by
 intro lp Jp Jx W hW hJ hJx hY h0
 have hBW:Below wc.heap.size wc W:=hwc.trans (hW.mono hwc.size)
 have hB1:∃fz,W.heap[Bm]? =some (.cells #[.map (some b)] TB fz):=by
  obtain⟨fz,h⟩:=hB
  exact⟨fz,(hBW.block Bm (Zq h)).trans h⟩
 have hb1:W.heap[b]? =some (mIn l):=(hBW.block b (Zq hb)).trans hb
 have fB:=FoC.mk (w0:=W) hB1
 have fb:=FoO.mk hb1
 have hgo:=Zfx (N:=N) (P:=prog) (l:=[Value.func (.yield lp) #[] #[],Value.pointer (some ⟨Bm,0,none⟩)]) (w:=W) (R:=fun e W'=>(∃v,e=Ending.returned v)/\((∃xs,xs.Perm (pKI l)/\Jp xs W')\/∃pre,True/\Jx pre W')) Tryz.func307 rfl Tryz.ntmps307 rfl
 refine hgo ?_
 clear hgo
 refine Zay ?_
 refine ZcB ?_
 repeat(refine wkM ?_;intros)
 refine Zad ?_
 rename_i r
 refine Za6 ?_
 refine ZhN (S:=List Nat) (fun s W1=>SeenOk l.length s/\Jp (seenL (pKI l) s) W1/\Below wc.heap.size wc W1/\W1.heap[r]? =some (itO b l.length s)/\W.heap.size<=r) (fun _=>[(0, .func (.yield lp) #[] #[]),(5, .pointer (some ⟨r,0,none⟩))]) (fun s=>l.length-s.length) [] (fun w hw=>⟨⟨List.nodup_nil,fun i hi=>by cases hi⟩,hJ _ W w none h0 (Z6 hw.ext) (fun _ e=>by cases e),hBW.trans (hw.ext.bel.mono hBW.size),(hw.mem _ (.head _)).2,(hw.mem _ (.head _)).1⟩) sbB (fun s W1 hI=>?_)
 obtain⟨hs,hJp,hB0,hr1,hrW⟩:=hI
 have hbb:W1.heap[b]? =some (mIn l):=(hB0.block b (Zq hb)).trans hb
 have hlen:=ZaR hs.nd hs.lt
 refine Zay ?_
 refine ZaX ?_
 refine ZgZ rfl rfl (fun w hw=>(hw.ext.block _ (Zq hr1)).trans hr1) (fun w hw=>(hw.ext.block _ (Zq hbb)).trans hbb) (fun hall=>?h0) (fun w w1 hw hw1 i hi hni=>?h1)
 case h0=>
  refine Zbn (fun _ _ h=>by obtain⟨⟨v,h⟩,_⟩:=h;cases h) rfl ?_
  repeat(refine wkM ?_;intros)
  refine Zad ?_
  refine Zay ?_
  refine Zbs rfl (fun h=>by cases h) (fun _=>?_)
  refine Zip ?_
  refine Zdy ?_
  refine Zdw ?_
  refine ZcA ?_
  exact Zaj rfl (fun w hw=>⟨⟨_,rfl⟩, .inl ⟨_,Zci hs.nd (by rw[Ws];exact hs.lt) (by rw[Ws];exact hall),hJ _ W1 w none hJp (Z6 hw.ext) (fun _ e=>by cases e)⟩⟩)
 case h1=>
  have hs':=hs.snoc hi hni
  have hlen':=ZaR hs'.nd hs'.lt
  rw[Wp,List.length_singleton] at hlen'
  have hrw:w.heap[r]? =some (itO b l.length s):=(hw.ext.block _ (Zq hr1)).trans hr1
  have hg:=Zfi (r:=r) (o:=itO b l.length (s++[i])) hw1
  have hJ2:=hJ _ w _ (some r) (hJ _ W1 w none hJp (Z6 hw.ext) (fun _ e=>by cases e)) hg (fun r' e=>by cases e;exact⟨hrW,_,hrw,Zc5 _ _ _⟩)
  have hB2:=(hB0.trans (hw.ext.bel.mono hB0.size)).grown hg (Wi hB0.size hw.ext.size) (fun j e=>by cases e;exact Wi hBW.size hrW)
  have hr2:=ZfE (o:=itO b l.length (s++[i])) hw1 hrw
  generalize setBlock w1 r (itO b l.length (s++[i]))=W2 at*
  have hb2:W2.heap[b]? =some (mIn l):=(hB2.block b (Zq hb)).trans hb
  have f2:=FoO.mk hr2
  have f3:=FoO.mk hb2
  refine Zbn (fun _ _ h=>by obtain⟨⟨v,h⟩,_⟩:=h;cases h) rfl ?_
  repeat(refine wkM ?_;intros)
  refine Zad ?_
  refine Zay ?_
  refine Zbs rfl (fun _=>?_) (fun h=>by cases h)
  refine ZdL ?_
  refine Zad ?_
  refine Za6 ?_
  refine Zay ?_
  refine ZcB ?_
  repeat(refine wkM ?_;intros)
  refine Zad ?_
  refine Zay ?_
  refine ZaX ?_
  refine⟨fun a2 w2 ha2 hw2=>Zbg [_,_] a2 w2 rfl (JO.out ?_ a2 w2 ha2 hw2)⟩
  repeat(refine wkM ?_;intros)
  refine ZdG (fun a3 w3 ha3 hw3=>(ZfB (l:=lp) (args:=#[.int .i64 (gi l (i:Int)).1]) (R:=fun e W'=>(e= .returned (.bool true)/\Jp (seenL (pKI l) (s++[i])) W'/\KpK wc W2 W')\/(e= .returned (.bool false)/\Jx (seenL (pKI l) (s++[i])) W')) rfl rfl rfl (fun a w ha=>ZfA ha rfl rfl) (fun w hw=>?_) ?_).out a3 w3 ha3 hw3)
  ·obtain⟨fn,tmps,asg,bd,y1,y2⟩:=hY (seenL (pKI l) s) (gi l (i:Int)).1 w (hJ _ W2 w none hJ2 (Z6 hw.ext) (fun _ e=>by cases e)) (by rw[Zek _ (by rw[Ws];exact hs.lt)];omega)
   refine⟨fn,tmps,asg,bd,y1,y2.mono fun e W' h=>?_⟩
   rw[Zq5 hi]
   rcases h with⟨e1,e2,e3⟩|⟨e1,e2⟩
   ·exact .inl ⟨e1,e2,(hw.ext.bel.mono hB2.size).trans e3.1,fun k o hk hwk=>e3.2 k o ((hw.ext.block k (Zq hk)).trans hk) hwk⟩
   ·exact .inr ⟨e1,e2⟩
  ·rintro e W' (⟨rfl,hJ',hk⟩|⟨rfl,hx'⟩)
   ·refine⟨_,rfl, ?_⟩
    refine Zbn (E:=(12, .bool true)::_) (fun _ _ h=>by obtain⟨⟨v,h⟩,_⟩:=h;cases h) rfl ?_
    repeat(refine wkM ?_;intros)
    refine Zad ?_
    refine Zbs rfl (fun h=>by cases h) (fun _=>?_)
    refine ZdL ?_
    refine Zfp ?_
    refine Zg3 (s++[i]) (fun w hw=>⟨hs',hJ _ W' w none hJ' (Z6 hw.ext) (fun _ e=>by cases e),hB2.trans ((hk.1.mono (Wl _)).trans (hw.ext.bel.mono (Wi hB2.size hk.1.size))), ?_,hrW⟩) sbB (by simp only[Wp,List.length_singleton];omega)
    have h3:=hk.2 r _ hr2 (Zc5 _ _ _)
    exact(hw.ext.block _ (Zq h3)).trans h3
   ·refine⟨_,rfl, ?_⟩
    refine Zbn (E:=(12, .bool false)::_) (fun _ _ h=>by obtain⟨⟨v,h⟩,_⟩:=h;cases h) rfl ?_
    repeat(refine wkM ?_;intros)
    refine Zad ?_
    refine Zbs rfl (fun _=>?_) (fun h=>by cases h)
    refine ZjN ?_
    refine Zbq ?_
    refine ZdZ ?_
    refine Zbq ?_
    exact ZcG rfl (fun w hw=>⟨⟨_,rfl⟩, .inr ⟨_,trivial,hJx _ W' w none hx' (Z6 hw.ext) (fun _ e=>by cases e)⟩⟩)
end
section
def SeqIN (w:World)(b2:Nat)(pre:List Int)(W:World):Prop:=
 (∃v',Boxed W b2 106 v'/\W.ownsRow w.heap.size 3 1 v' pre.length (rowL (eI .i64) pre)/\(pre=[]->v'= .slice none 0 0))/\Below w.heap.size w W
theorem ZiD {w:World}{b2 B:Nat}(hB:w.heap.size<=B):OwnFrom B (SeqIN w b2):=
 OwnFrom.and (Own.from (holdsRow_own w.heap.size b2 106 3 1 (fun pre=>pre.length) (fun pre=>rowL (eI .i64) pre) (fun pre v'=>pre=[]->v'= .slice none 0 0)) _) (ownFrom_below (Wl _) hB)
def SeqAI (b2:Nat)(x:Int)(a':Act)(_:World):Prop:=Rep 13 [(2, .pointer (some ⟨b2,0,none⟩)),(5, .int .i64 x)] a'
theorem ZoX {w W w3 w4:World}{b2 B:Nat}{v' v2:Value}{pre:List Int}{x:Int}(hw:w.heap.size<=W.heap.size)(hBe:Below w.heap.size w W)(h5:Boxed W b2 106 v')(hrow:W.ownsRow w.heap.size 3 1 v' pre.length (rowL (eI .i64) pre))
  (hx:Ext W w3) (hown:w4.ownsRow w.heap.size 3 1 v2 (pre.length+1) (rowL (eI .i64) pre++rowL (eI .i64) [x])) (hg:w3.grownBy w4 v'.ownBlock) (hb2:w.heap.size<=b2):
  Boxed w4 b2 106 v'/\KeepsFrom B W (w4.setCell ⟨b2,0,none⟩ v2)/\KpK w W (w4.setCell ⟨b2,0,none⟩ v2)/\SeqIN w b2 (pre++[x]) (w4.setCell ⟨b2,0,none⟩ v2):=by
 have hrow3:w3.ownsRow w.heap.size 3 1 v' pre.length (rowL (eI .i64) pre):=hrow.kept (Z6 hx) (by cases v' with
  |slice p n c=>cases p with
   |none=>exact .inl rfl
   |some p=>exact .inr (fun h=>by cases h)
  |_=>exact .inl rfl)
 have q5:=Boxed.kept (Zc6 h5 hx) hg (Boxed.not_row (Zc6 h5 hx) (by decide) hrow3)
 have own:∀j,v'.ownBlock=some j->w.heap.size<=j/\∃cs T,w3.heap[j]? =some (.cells cs T (0,0)):=fun j hj=>by
  rcases hrow3.2 with⟨rfl,_⟩|⟨g,cap,cur,rfl,hb,hgb,_⟩
  ·cases hj
  ·obtain rfl:g=j:=by simpa [Value.ownBlock] using hj
   exact⟨hb,_,_,hgb⟩
 have keep:∀(k:Nat)(o:Obj),W.heap[k]? =some o->o.isCells=false->(w4.setCell ⟨b2,0,none⟩ v2).heap[k]? =some o:=fun k o hk ho=>by
  have e3:w3.heap[k]? =some o:=(hx.block k (Zq hk)).trans hk
  have e4:w4.heap[k]? =some o:=(hg.block k (Zq e3) (fun e=>by obtain⟨-,cs,T,hc⟩:=own k e.symm;rw[e3] at hc;cases hc;cases ho)).trans e3
  refine((grownBy_setCell' w4 b2 v2).block k (Zq e4) (fun e=>?_)).trans e4
  obtain rfl:k=b2:=by simpa using e
  rw[show w4.heap[k]? =_ from q5] at e4
  cases e4
  cases ho
 have hbel:=((hx.bel.mono hw).grown hg (Wi hw hx.size) (fun j e=>(own j e).1)).setCell (p:=⟨b2,0,none⟩) hb2 v2
 refine⟨q5,⟨Wi hx.size (Wi hg.size (grownBy_setCell' w4 b2 v2).size),fun k o _ hk ho=>keep k o hk ho⟩,⟨hbel,fun k o hk ho=>keep k o hk (Obj.not_cells_of_walk ho)⟩,⟨⟨v2,Boxed.set v2 q5, ?_,fun h=>?_⟩,hBe.trans hbel⟩⟩
 ·have e:=hown.kept (grownBy_setCell' w4 b2 v2) (.inr (Boxed.not_row q5 (by decide) hown).symm)
  rw[Wp,List.length_singleton,Zbf]
  exact e
 ·simp at h
set_option maxHeartbeats 4000000 in
theorem ZnF (Bm b:Nat)(TB:TypeId)(l:List (Int×Bool))(w:World)(hl:l.length<=1048576)(hB:∃fz,w.heap[Bm]? =some (.cells #[.map (some b)] TB fz))(hb:w.heap[b]? =some (mIn l)):
  Calls prog 333 [.slice none 0 0, .func (.func 307) #[] [.pointer (some ⟨Bm,0,none⟩)].toArray].toArray w (RetM ((ys:{ys:List Int // ys.Perm (pKI l)})×SlS (eI .i64) 1 ys.1) (fun s=>vSl s.2) (fun s=>mS 3 s.2) w):=by
 have hgo:=ZfG (N:=5) (P:=prog) (l:=[Value.slice none 0 0, .func (.func 307) #[] [.pointer (some ⟨Bm,0,none⟩)].toArray]) (w:=w) (R:=RetM ((ys:{ys:List Int // ys.Perm (pKI l)})×SlS (eI .i64) 1 ys.1) (fun s=>vSl s.2) (fun s=>mS 3 s.2) w) Tryz.func333 rfl Tryz.ntmps333 rfl
 refine hgo ?_
 clear hgo
 refine Zay ?_
 refine ZcB ?_
 repeat(refine wkM ?_;intros)
 refine Zad ?_
 refine Zay ?_
 refine Zay ?_
 refine ZcB ?_
 repeat(refine wkM ?_;intros)
 refine Zad ?_
 refine Za6 ?_
 rename_i b2
 refine⟨fun a w1 ha hw1=>?_⟩
 have hb2:=hw1.mem _ (.head _)
 have hwd:=hw1.ext.size
 refine wpIn_rangeFunc_ownH (F:=Fr none) (n:=5) (P:=prog) (w0:=w1) (N:=l.length+1) (α:=Int) (encs:=fun x=>#[.int .i64 x]) (S:=fun ys=>ys.Perm (pKI l)) (Sp:=fun _=>True) (Kp:=KpK w) rfl (by omega) (gf:=307) (lb:=#[.pointer (some ⟨Bm,0,none⟩)]) (ha.ev (x:= .tmp 6) rfl) trivial (fun args w=>ZbH (by kernel_rfl) args w)
  (Zkd w w1 Bm b 4 TB l hw1.ext.bel hB hb) (fun h k=>⟨h.1.trans k.1,fun i o ho hw=>k.2 i o (h.2 i o ho hw) hw⟩) (fun W lo o o' hl h hc hk=>⟨belowK_b (w:=w1) hwd W lo o o' hl h hc hk,fun k o2 h2 hw2=>(World.putObj_heap_other (fun e=>by rw[e,h] at h2;cases h2;rw[hk] at hw2;cases hw2)).trans h2⟩) (Below.refl _ _) (fun _=>rfl)
  (SeqIN w b2) (fun _ _ _=>False) (ZiD hwd) (fun _ _ _ _ _ hs _ _=>hs) ⟨⟨_,hb2.2,World.ownsRow_nil _ _ _ _,fun _=>rfl⟩,hw1.ext.bel⟩
  (SeqAI b2) (fun _ _ _ _ _ _ h _ _=>h) ?assign ?body ?done ?stop
 case stop=>
  rintro D c pre W _ _ h _
  exact h.elim
 case assign=>
  intro lo pre x W K hi hK
  have hact:∀a0:Act,a0.defers=[]->({tmps:=((#[7]:Array Tmp).zip #[Value.int .i64 x]).foldl (fun t (p,v)=>t.setIfInBounds p v) a0.tmps,defers:=[]}:Act)=a0.put (some 7) (.int .i64 x):=fun a0 h=>by
   cases a0
   simp only at h
   subst h
   simp[Act.put]
  rw[hact a ha.defers]
  have hrep:=ha.put (some 7) (.int .i64 x) rfl
  refine JI.out (r:=some lo) (N:=3) (P:=prog) (w0:=W) (n:=13) (E:=[(7, .int .i64 x),(2, .pointer (some ⟨b2,0,none⟩))]) (L:=[]) ?_ _ W (hrep.sub sbB) (Own.start W)
  refine ZaX ?_
  refine Zbn (fun _ _ h=>h) rfl ?_
  repeat(refine wkM ?_;intros)
  refine⟨fun a' W' ha' hw'=>hK a' W' ⟨hw'.ext.size,fun k o _ hk _=>(hw'.ext.block k (Zq hk)).trans hk⟩ ⟨hw'.ext.bel.mono hi.2.size,fun k o ho _=>(hw'.ext.block _ (Zq ho)).trans ho⟩ (ZiD (Wl _) _ W W' none hi (Z6 hw'.ext) (fun r e=>by cases e)) (ha'.sub sbB)⟩
 case body=>
  rintro lo pre x a' W hlw hr hi hra hlt
  obtain⟨⟨v',hv',hrow,hnil⟩,hBe⟩:=hi
  obtain⟨o,m,c,hvs⟩:∃o m c,v'= .slice o m c:=by
   rcases hrow.2 with⟨h,_⟩|⟨g,cap,_,h,_⟩
   ·exact⟨_,_,_,h⟩
   ·exact⟨_,_,_,h⟩
  have f2:=FoC.mk ⟨(0,0),hv'⟩
  rw[hvs] at f2
  refine JI.out (r:=some lo) (N:=3) (P:=prog) (w0:=W) (n:=13) (E:=[(2, .pointer (some ⟨b2,0,none⟩)),(5, .int .i64 x)]) (L:=[]) ?_ _ W hra (Own.start W)
  refine Za6 ?_
  refine ZaX ?_
  refine⟨fun a2 w2 ha2 hw2=>?_⟩
  refine Zbg [_,_,_] a2 w2 rfl (JO.out (w0:=W) (n:=13) (L:=[]) ?_ a2 w2 ha2 hw2)
  repeat(refine wkM ?_;intros)
  refine ZdG (fun a3 w3 ha3 hw3=>?_)
  have hbn:=(hw3.mem _ (.head _)).2
  refine Zf6 (size:=1) (k:=pre.length) (m:=1) (base:=w.heap.size) (v:=v') (xs:=rowL (eI .i64) pre) (news:=rowL (eI .i64) [x]) ha3 (by rw[hvs];rfl) rfl rfl (by decide) (hrow.kept (Z6 hw3.ext) (by rw[hvs];cases o with|none=>exact .inl rfl|some p=>exact .inr (fun h=>by cases h))) (Z9 (k:=1) [x]) (fun j u hu=>by rw[ZaG,Zaw hbn,Nat.zero_add];simpa [row] using hu) (ZcI [x]) (by simp only[maxLen];omega) ?_ (Wi hBe.size hw3.ext.size) (fun v2 w4 hown hgrow=>?_)
  ·omega
  ·obtain⟨g',cap',hv2⟩:=ownsRow_succ hown
   subst hv2
   obtain⟨q5,k1,k2,k3⟩:=ZoX (x:=x) (B:=w1.heap.size) hBe.size hBe hv' hrow hw3.ext hown hgrow hb2.1
   refine Zex (b:=b2) (ha3.put (some 11) _ rfl) rfl rfl q5 (by kernel_rfl) rfl rfl ?_
   exact wpListIn_nil ⟨k1,k2,k3⟩
 case done=>
  rintro D ys W hD hp hi hK
  obtain⟨⟨v',hv',hrow,hnil⟩,hBe⟩:=hi
  obtain⟨s,hs1,hs2,hs3⟩:=ZkW hnil hrow
  obtain⟨o,m,c,hvs⟩:∃o m c,v'= .slice o m c:=by
   rcases hrow.2 with⟨h,_⟩|⟨g,cap,_,h,_⟩
   ·exact⟨_,_,_,h⟩
   ·exact⟨_,_,_,h⟩
  have f5:=FoC.mk ⟨(0,0),hv'⟩
  rw[hvs] at f5 hs1
  have hra:Rep 13 [(2, .pointer (some ⟨b2,0,none⟩))] a:=ha.sub sbB
  have hl:YlC prog W 13 [] [(2, .pointer (some ⟨b2,0,none⟩))] (.load 106 (.tmp 2)) (.slice o m c):=inferInstance
  show Code.wpIn (Fr none) 5 _ _ _ _ W
  refine wpIn_seq (wpIn_region_lit ?_)
  refine ZdI (a:=a) (L:=[]) (w0:=W) (hl.out _ _ _ _ _) hra (Own.start W) rfl rfl (fun W2 hx2=>?_)
  refine ZdI (a:=a.put (some 12) (.slice o m c)) (L:=[]) (w0:=W2) (E:=Env.put [(2, .pointer (some ⟨b2,0,none⟩))] (some 12) (.slice o m c)) (Zes rfl) (hra.put (some 12) _ rfl) (Own.start W2) rfl rfl (fun W3 hx3=>?_)
  refine wpListIn_nil ?_
  have hx:=hx2.tr hx3
  have hK3:W3.heap[D]? =some (.deferred (some [])):=(hx.block D (Zq hK)).trans hK
  have hr4:((a.put (some 12) (.slice o m c)).put (some 4) (.slice o m c)).tmps[4]? =some (.slice o m c):=((hra.put (some 12) _ rfl).put (some 4) (.slice o m c) rfl).val 4 _ rfl
  refine wpIn_ret ?_
  refine⟨by simp, .inl ⟨_,_,rfl,run_takeDeferred hK3, ?_⟩⟩
  rw[ha.defers]
  refine⟨.slice o m c, ?_,⟨⟨ys,hp⟩,s⟩,by rw[hs1],⟨⟨?_,trivial⟩,fun e he=>?_,hs2⟩⟩
  ·rw[results_tmp rfl]
   show Result.ok (Array.getD _ 4 undef) _=_
   rw[Array.getD_eq_getD_getElem?,hr4]
   rfl
  ·exact(hBe.trans (hx.bel.mono hBe.size)).trans (belowK_b (w:=w1) hwd W3 D _ _ hD hK3 rfl rfl)
  ·obtain⟨h1,h2⟩:=hs3 e he
   have h3:=(hx.block _ (Zq h2)).trans h2
   refine⟨h1,(World.putObj_heap_other (fun hd=>?_)).trans h3⟩
   rw[hd,hK3] at h3
   simp only at he
   rcases s.cases 3 with⟨-, -,x2⟩|⟨bs,cs,sp, -, -,x2, -⟩
   ·rw[x2] at he
    cases he
   ·rw[x2,Wo] at he
    subst he
    cases h3
end
end Go.Vt
