/- For any two moving labels and any label, Is, Same and Less are the lifted comparisons. Conditions: none. (part 27 of 29.) Conditions: those that each statement names. -/
import Derived.Test.YtcgkgdgpdpihmaaGreatDoorProg
import Derived.Test.YtcgkgdgpdpihmaaGreatDoorKY9
import Derived.Test.YtcgkgdgpdpihmaaGreatDoorKY20
import Derived.Test.YtcgkgdgpdpihmaaGreatDoorKY21
import Derived.Test.YtcgkgdgpdpihmaaGreatDoorKY22
import Derived.Test.YtcgkgdgpdpihmaaGreatDoorKY23
import Derived.Test.YtcgkgdgpdpihmaaGreatDoorKY24
import Derived.Test.YtcgkgdgpdpihmaaGreatDoorKY26
set_option linter.unusedSimpArgs false
set_option linter.unusedVariables false
set_option maxHeartbeats 2000000
set_option maxRecDepth 100000
namespace Go.Vt
open Go.RowKit Go.Proofs
open Go.Proofs.Tryz (prog)
section
def icb (x:ZS):Bool:=if x.Mag=ByteArray.empty then !x.Neg else !decide (x.Mag[0]? =some 0)
theorem ZoA {l:List UInt8}(h:l[0]? ≠some 0):Top l.reverse:=by
 intro b hb
 rw[List.getLast?_reverse] at hb
 intro h0
 subst h0
 refine h ?_
 cases l with
 |nil=>cases hb
 |cons x r=>simpa using hb
theorem bget (s:ByteArray)(i:Nat):s[i]? =s.data.toList[i]? :=by
 by_cases h:i<s.size
 ·have h':i<s.data.toList.length:=h
  rw[getElem?_pos s i h,getElem?_pos s.data.toList i h']
  rfl
 ·have h':¬i<s.data.toList.length:=h
  rw[getElem?_neg s i h,getElem?_neg s.data.toList i h']
theorem Zds {x:ZS}:icb x=true↔∃a:Int,x=I a:=by
 obtain⟨n,s⟩:=x
 unfold icb
 simp only
 constructor
 ·intro h
  have hc:Can s:=by
   split at h
   ·rename_i h0
    subst h0
    exact Zki 0
   ·rename_i h0
    simp only[Bool.not_eq_true',decide_eq_false_iff_not] at h
    exact ZoA (by rw[<-bget];exact h)
  have hm:=Zn6 hc
  refine⟨if n=true then-(vmag s:Int) else(vmag s:Int), ?_⟩
  unfold I
  cases n
  ·simp only[Bool.false_eq_true,if_false,Int.natAbs_natCast,hm]
   rw[We (by omega)]
  ·simp only[if_true,Int.natAbs_neg,Int.natAbs_natCast,hm]
   congr 1
   have hne:vmag s≠0:=fun h0=>by
    rw[h0] at hm
    split at h
    ·cases h
    ·rename_i h1
     exact h1 (hm.symm.trans ZdM)
   simp
   omega
 ·rintro⟨a,h⟩
  unfold I at h
  injection h with h1 h2
  subst h1
  subst h2
  split
  ·rename_i h0
   have:=Zam.1 h0
   simp
   omega
  ·rename_i h0
   simp only[Bool.not_eq_true',decide_eq_false_iff_not]
   intro h1
   have hc:=Zki a.natAbs
   rw[bget] at h1
   cases hl:(mag a.natAbs).data.toList with
   |nil=>rw[hl] at h1;cases h1
   |cons y r=>
    rw[hl] at h1
    simp only[List.getElem?_cons_zero,Option.some.injEq] at h1
    unfold Can Top at hc
    rw[hl] at hc
    exact hc y (by simp) h1
theorem ZpT (a:Int):icb (I a)=true:=Zds.2 ⟨a,rfl⟩
instance Zuq (x:ZS):SpecC prog 218 [.agg (Zq x)] (.int .i64 (if icb x=true then 0 else 5)) True:=⟨fun _ w=>by
 refine Zb Tryz.func218 rfl Tryz.ntmps218 rfl ?_
 repeat(refine wkB ?_;intros)
 by_cases h:x.Mag=ByteArray.empty
 ·have e:icb x= !x.Neg:=by unfold icb;rw[if_pos h]
  have hd:=Wc (show x.Mag=⟨#[]⟩ from h)
  rw[e]
  simp only[hd]
  repeat(refine wkB ?_;intros)
  rcases hN:x.Neg with _|_
  ·repeat(refine wkB ?_;intros)
   simp only[hd,Bool.not_true]
   repeat(refine wkB ?_;intros)
   exact rtT rfl rfl
  ·repeat(refine wkB ?_;intros)
   exact rtT rfl rfl
 ·have e:icb x= !decide (x.Mag[0]? =some 0):=by unfold icb;rw[if_neg h]
  have hd:=We (show¬x.Mag=⟨#[]⟩ from h)
  rw[e]
  simp only[hd]
  repeat(refine wkB ?_;intros)
  simp only[hd,Bool.not_false]
  repeat(refine wkB ?_;intros)
  obtain⟨u,hu⟩:∃u,x.Mag[0]? =some u:=by
   rw[bget]
   cases hl:x.Mag.data.toList with
   |nil=>
    refine absurd ?_ h
    have h2:x.Mag.data=#[]:=by rw[<-Array.toArray_toList (xs:=x.Mag.data),hl]
    cases hx:x.Mag with
    |mk d=>
     rw[hx] at h2
     simp only at h2
     subst h2
     rfl
   |cons y r=>exact⟨y,rfl⟩
  refine jq (Zb3 rfl rfl (by omega) (show x.Mag[(0:Int).toNat]? =some u from hu)) rfl rfl ?_
  repeat(refine wkB ?_;intros)
  have hd:decide (((u.toNat:Nat):Int)=0)=decide (x.Mag[0]? =some 0):=by
   rw[hu,decide_eq_decide]
   simp only[Option.some.injEq]
   constructor
   ·intro h0
    exact UInt8.toNat_inj.1 (by simpa using h0)
   ·intro h0
    subst h0
    rfl
  rw[hd]
  rcases hq:decide (x.Mag[0]? =some 0) with _|_
  ·repeat(refine wkB ?_;intros)
   exact rtT rfl rfl
  ·repeat(refine wkB ?_;intros)
   exact rtT rfl rfl⟩
def rcb (x:ZX):Bool:=icb x.Num&&(icb x.Den&&(decide (x.Den=I 0)||(!decide (Lib.compareInt (ival x.Den) 1<=0)&&decide ((Int.gcd (ival x.Num) (ival x.Den):Int)=1))))
where ival (x:ZS):Int:=if x.Neg=true then-(vmag x.Mag:Int) else vmag x.Mag
theorem Zdv (a:Int):rcb.ival (I a)=a:=by
 unfold rcb.ival I
 simp only[Zb9,decide_eq_true_eq]
 split <;> omega
theorem ZqL {x:ZX}:rcb x=true↔∃q:Rat,x=Q q:=by
 obtain⟨n,d⟩:=x
 unfold rcb
 simp only[Wq,Bool.or_eq_true,Bool.not_eq_true',decide_eq_true_eq,decide_eq_false_iff_not]
 constructor
 ·rintro⟨h1,h2,h3⟩
  obtain⟨a,rfl⟩:=Zds.1 h1
  obtain⟨b,rfl⟩:=Zds.1 h2
  rw[Zdv,Zdv,ZcA] at h3
  rcases h3 with rfl|⟨h3,h4⟩
  ·exact⟨(a:Rat),(ZpU a)⟩
  ·have hb:1<b:=by
    unfold Lib.compareInt at h3
    split at h3
    ·omega
    ·split at h3 <;> omega
   have hc:Nat.Coprime a.natAbs b.natAbs:=by
    have:Int.gcd a b=1:=by omega
    exact this
   refine⟨⟨a,b.natAbs,by omega,hc⟩, ?_⟩
   unfold Q dn
   simp only
   rw[if_neg (by omega)]
   congr 2
   omega
 ·rintro⟨q,h⟩
  unfold Q at h
  injection h with h1 h2
  subst h1
  subst h2
  refine⟨ZpT _,ZpT _, ?_⟩
  rw[Zdv,Zdv,ZcA]
  have hp:=q.den_pos
  by_cases hd:q.den=1
  ·exact .inl (Zf5.2 hd)
  ·have e:dn q=q.den:=by unfold dn;rw[if_neg hd]
   refine .inr ⟨?_, ?_⟩
   ·rw[e]
    unfold Lib.compareInt
    rw[if_neg (by omega),if_pos (by omega)]
    omega
   ·rw[e]
    have hc:=q.reduced
    have h0:Int.gcd q.num (q.den:Int)=1:=hc
    omega
theorem ZtZ (q:Rat):rcb (Q q)=true:=ZqL.2 ⟨q,rfl⟩
theorem Zso {n d:ZS}:rcb ⟨n,d⟩=(icb n&&(icb d&&(decide (d=I 0)||(!decide (Lib.compareInt (rcb.ival d) 1<=0)&&decide ((Int.gcd (rcb.ival n) (rcb.ival d):Int)=1))))):=rfl
instance ZkW (x:ZX):SpecC prog 196 [.agg (Zl x)] (.int .i64 (if rcb x=true then 0 else 5)) (x.Num.Mag.size<=LIM/\x.Den.Mag.size<=LIM):=⟨fun hp w=>by
 obtain⟨p1,p2⟩:=hp
 refine Zb Tryz.func196 rfl Tryz.ntmps196 rfl ?_
 repeat(refine wkB ?_;intros)
 rcases hn:icb x.Num with _|_
 ·rw[show rcb x=false by unfold rcb;rw[hn];rfl]
  repeat(refine wkB ?_;intros)
  exact rtT rfl rfl
 repeat(refine wkB ?_;intros)
 rcases hd:icb x.Den with _|_
 ·rw[show rcb x=false by unfold rcb;rw[hn,hd];rfl]
  repeat(refine wkB ?_;intros)
  exact rtT rfl rfl
 obtain⟨a,ha⟩:=Zds.1 hn
 obtain⟨b,hb⟩:=Zds.1 hd
 obtain⟨n,d⟩:=x
 simp only at ha hb p1 p2 hn hd⊢
 subst ha
 subst hb
 rw[Zso,hn,hd,Zdv,Zdv,Bool.true_and,Bool.true_and]
 have hz:decide (I b=I 0)=decide (b=0):=by rw[decide_eq_decide];exact ZcA
 rw[hz]
 repeat(refine wkB ?_;intros)
 by_cases hb:b=0
 ·simp only[Wc hb]
  repeat(refine wkB ?_;intros)
  exact rtT rfl rfl
 ·simp only[We hb]
  repeat(refine wkB ?_;intros)
  refine jD 14 14 (h:=?_)
  (repeat(refine wkH ?_))
  rcases hc:decide (Lib.compareInt b 1<=0) with _|_
  ·(repeat(first|refine wkH ?_|(refine tC rfl rfl ?_ ?_;focus(first|exact trivial|exact⟨p1,p2⟩))))
   refine Zn ?_
   refine Zp ?_
   repeat(refine wkB ?_;intros)
   rcases hg:decide (((Int.gcd a b:Nat):Int)=1) with _|_
   ·repeat(refine wkB ?_;intros)
    exact rtT rfl rfl
   ·repeat(refine wkB ?_;intros)
    exact rtT rfl rfl
  ·(repeat(refine wkH ?_))
   refine Zn ?_
   refine Zp ?_
   repeat(refine wkB ?_;intros)
   exact rtT rfl rfl⟩
instance (priority :=high) ZvQ (q:Rat):SpecC prog 196 [vQ q] (.int .i64 0) (M q<=LQ):=⟨fun hp w=>by
 have h:=(ZkW (Q q)).out ⟨?_, ?_⟩ w
 ·rw[ZtZ] at h
  exact h
 ·have:=Wi (Zbq q) hp
  exact Wi this (by decide)
 ·show(mag (dn q).natAbs).size<=LIM
  have h1:=Wi (Zbd q) hp
  unfold dn
  split
  ·decide
  ·exact Wi h1 (by decide)⟩
end
section
theorem Zmy :(0:Rat).num.sign=0:=by decide
instance Zrq (x:Zj):SpecC prog 150 [vR x] (.int .i64 0) (RlB KR x/\x.R=0):=⟨fun hp w=>by
 obtain⟨p,r,n⟩:=x
 obtain⟨h1,h2⟩:=hp
 simp only at h2
 subst h2
 obtain rfl:n=false:=h1.o.z rfl
 have h3:M p<=LQ:=Wi h1.p (by decide)
 have h0:M 0<=LQ:=by decide
 refine Zb Tryz.func150 rfl Tryz.ntmps150 rfl ?_
 repeat(refine wkB ?_;intros)
 simp only[Zmy]
 repeat(refine wkB ?_;intros)
 exact rtT rfl rfl⟩
instance Zt9 (i:Za):SpecC prog 107 [vIv i] (.int .i64 0) ((IvOk KR i/\i.From.R=0/\i.To.R=0)/\okI i):=⟨fun hp w=>by
 obtain⟨⟨h1,hr1,hr2⟩,h2⟩:=hp
 have hlt:=ZcK.1 h2
 have hn:¬0<=cmpB (bdF i) (bdL i):=fun h=>(Zmk.1 hlt) (Zgk (by omega))
 refine Zb Tryz.func107 rfl Tryz.ntmps107 rfl ?_
 repeat(first|(refine wkB ?_;intros)|(refine wnM ?_ ?_;(focus(first|exact⟨h1.a,hr1⟩|exact⟨h1.b,hr2⟩));intros))
 (refine jD 6 6 (h:=?_);(repeat(first|refine wkH ?_|(refine tC rfl rfl ?_ ?_;focus(first|exact trivial|exact⟨⟨h1.a⟩,⟨h1.b⟩⟩))));refine Zn ?_;(repeat(refine Z6 ?_;intro _));refine Zp ?_)
 simp only[We hn]
 repeat(refine wkB ?_;intros)
 exact rtT rfl rfl⟩
instance ZwC (f:Int)(z:Array Value):SpecC prog 298 [.agg z, .int .i64 f] (.int .i64 0) True:=⟨fun _ w=>by
 refine Zb Tryz.func298 rfl Tryz.ntmps298 rfl ?_
 repeat(refine wkB ?_;intros)
 exact rtT rfl rfl⟩
instance Zuh :MethC prog 109 (.agg #[]) "Check" 298 (.agg #[]):=⟨fun w=>by kernel_rfl⟩
instance Zxr :LdC prog 107 #[vLabels] 0 vLabels:=⟨ZE (by kernel_rfl) rfl⟩
instance ZAQ {E:Env}{T:TypeId}{x:Operand}{d:TypeId}{v:Value}[h:IsC (evl E x) (.iface d v)]:AlC prog E (.box T x) #[.iface d v] T:=⟨fun hg hd h=>Zhq isE hg hd h⟩
theorem ZoN (x y:UL)(b:Nat)(w:World)(hb:∃T fz,w.heap[b]? =some (.cells #[vLabels] T fz)):Calls prog 155 [vUL x,vUL y, .pointer (some ⟨b,0,none⟩)].toArray w (Ret (.bool (decide (x=y))) w):=by
 obtain⟨T,hb⟩:=hb
 have:=FoC.mk hb
 refine Zb Tryz.func155 rfl Tryz.ntmps155 rfl ?_
 repeat(refine wkB ?_;intros)
 by_cases h:x.In=y.In
 ·simp only[Wc h]
  repeat(refine wkB ?_;intros)
  have e:decide (x.F=y.F)=decide (x=y):=by
   rw[decide_eq_decide]
   obtain⟨I,F⟩:=x
   obtain⟨I',F'⟩:=y
   simp only at h
   subst h
   simp
  rw[e]
  exact rtT rfl rfl
 ·simp only[We h]
  repeat(refine wkB ?_;intros)
  rw[We (show¬x=y from fun e=>h (by rw[e]))]
  exact rtT rfl rfl
instance ZBt (w0:World)(L:List Blk)(x y:UL)(b:Nat)(T:TypeId)[h:AtC w0 L b #[vLabels] T]:SpecM prog w0 L 155 [vUL x,vUL y, .pointer (some ⟨b,0,none⟩)] (.bool (decide (x=y))) True:=⟨fun _ w hw=>ZoN x y b w ⟨T,h.out w hw⟩⟩
theorem Zos (v1 v2:Value)(us:List UL)(b:Nat)(w:World)(h1:ArgS w v1 rU us)(h2:ArgS w v2 rU us)(hb:∃T fz,w.heap[b]? =some (.cells #[vLabels] T fz))(hl:us.length<=1048576):
  Calls prog 154 [v1,v2, .func (.func 155) #[] [.pointer (some ⟨b,0,none⟩)].toArray].toArray w (Ret (.bool true) w):=by
 obtain⟨T,hb⟩:=hb
 have:=FoC.mk hb
 refine Zb Tryz.func154 rfl Tryz.ntmps154 rfl ?_
 obtain⟨p1,c1,rfl⟩:=h1.form
 obtain⟨p2,c2,rfl⟩:=h2.form
 repeat(refine wkB ?_;intros)
 simp only[Wc (rfl:(us.length:Int)=(us.length:Int)),Bool.not_true]
 repeat(refine wkB ?_;intros)
 refine Zm (S:=Nat) (fun m=>m<=us.length) (fun m=>[(1, .slice p2 us.length c2),(2, .func (.func 155) #[] [.pointer (some ⟨b,0,none⟩)].toArray),(15, .slice p1 us.length c1),(16, .int .i64 us.length),(17, .int .i64 (m:Nat))]) (fun _=>[]) (fun m=>us.length-m) 0 (Wm _) sbB slB (fun m hm=>?_)
 repeat(refine wkB ?_;intros)
 refine Zk rfl (fun h=>?_) (fun h=>?_)
 ·have hlt:m<us.length:=by have:=Wa h;omega
  have hne:us≠[]:=fun h0=>by rw[h0] at hlt;simp at hlt
  obtain⟨b1,o1,c1',hv1,hc1,hr1⟩:=h1.blk (k:=20) hne []
  injection hv1 with e1 e2 e3
  subst e1
  subst e3
  obtain⟨b2,o2,c2',hv2,hc2,hr2⟩:=h2.blk (k:=20) hne []
  injection hv2 with e1 e2 e3
  subst e1
  subst e3
  have hr1':∀L,RowC w L b1 o1 UL rU us:=fun L=>⟨fun w' hw'=>hr1.out w' (hw'.sub (Wk _))⟩
  have hr2':∀L,RowC w L b2 o2 UL rU us:=fun L=>⟨fun w' hw'=>hr2.out w' (hw'.sub (Wk _))⟩
  repeat(refine wkB ?_;intros)
  simp only[Wc (rfl:gi us (m:Int)=gi us (m:Int)),Bool.not_true]
  repeat(refine wkB ?_;intros)
  exact Zc (m+1) hlt sbB slB (by omega)
 ·repeat(refine wkB ?_;intros)
  exact rtT rfl rfl
instance ZBG (w0:World)(L:List Blk)(v1 v2:Value)(us:List UL)(b:Nat)(T:TypeId)[h1:LstC w0 L v1 UL rU us][h2:LstC w0 L v2 UL rU us][h:AtC w0 L b #[vLabels] T]:SpecM prog w0 L 154 [v1,v2, .func (.func 155) #[] [.pointer (some ⟨b,0,none⟩)].toArray] (.bool true) (us.length<=1048576):=⟨fun hp w hw=>Zos v1 v2 us b w (h1.out w hw) (h2.out w hw) ⟨T,h.out w hw⟩ hp⟩
theorem Zog (v1 v2:Value)(us:List UL)(w:World)(h1:ArgS w v1 rU us)(h2:ArgS w v2 rU us)(hl:us.length<=1048576):
  Calls prog 109 [vLabels,v1,v2].toArray w (Ret (.bool true) w):=by
 have:=ArgC.mk h1
 have:=ArgC.mk h2
 refine Zb Tryz.func109 rfl Tryz.ntmps109 rfl ?_
 repeat(first|(refine wkB ?_;intros)|(refine wnM ?_ ?_;(focus(exact hl));intros))
 exact rtT rfl rfl
instance ZCm (w0:World)(L:List Blk)(v1 v2:Value)(us:List UL)[h1:LstC w0 L v1 UL rU us][h2:LstC w0 L v2 UL rU us]:SpecM prog w0 L 109 [vLabels,v1,v2] (.bool true) (us.length<=1048576):=⟨fun hp w hw=>Zog v1 v2 us w (h1.out w hw) (h2.out w hw) hp⟩
theorem ZvH {R:List UL}(h:NF (R.map absU)){i j:Nat}(hij:i<j)(hj:j<R.length):(absU (gi R (i:Int))).bfr (absU (gi R (j:Int))):=by
 have h1:=List.pairwise_iff_getElem.1 h.pw i j (by rw[Ws];omega) (by rw[Ws];omega) hij
 rw[List.getElem_map,List.getElem_map,<-Zr (by omega),<-Zr hj] at h1
 exact h1.bf
theorem Zn5 {us:List UL}(h:NF (us.map absU))(hk:∀u∈us,UIn u):nrmR us=us/\nrmE us=0/\∀i,i+1<us.length->aprt (gi us (i:Int)).In (gi us ((i+1:Nat):Int)).In=true:=by
 have hd:(us.map absU).Pairwise Dis:=h.pw.imp fun h=>h.bf.Dis
 have hv:UVal us:=⟨hk,fun u hu=>h.ok _ (List.mem_map.2 ⟨u,hu,rfl⟩)⟩
 obtain⟨h1,h2⟩:=Zis hv hd
 refine⟨ZeS (fun u hu=>(Zky hk u hu).i) (fun u hu=>(hk u hu).i) (NF.uniq h1 h h2),(ZlN hv).2 hd,fun i hi=>?_⟩
 exact Ze1.2 (ZvH h (i:=i) (j:=i+1) (by omega) hi)
theorem Zja (v:Value)(us:List UL)(w:World)(hv:ArgS w v rU us)(hnil:us=[]->v= .slice none 0 0)(h:NF (us.map absU))(hk:∀u∈us,UIn u)(hr:∀u∈us,u.In.From.R=0/\u.In.To.R=0)(hl:us.length<=19):
  Calls prog 62 [vLabels,v].toArray w (Ret (.int .i64 0) w):=by
 obtain⟨n1,n2,n3⟩:=Zn5 h hk
 have:=ArgC.mk hv
 obtain⟨p,cp,rfl⟩:=hv.form
 have:∀L,LstN w L (.slice p us.length cp) UL rU us:=fun L=>⟨fun w' hw'=>hv.to hw'.ext,hnil⟩
 refine Zb Tryz.func62 rfl Tryz.ntmps62 rfl ?_
 repeat(refine wkB ?_;intros)
 simp only[We (show¬(256:Int)<us.length by omega)]
 repeat(refine wkB ?_;intros)
 refine Zm (S:=Nat) (fun m=>m<=us.length) (fun m=>[(0,vLabels),(1, .slice p us.length cp),(14, .slice p us.length cp),(15, .int .i64 us.length),(16, .int .i64 (m:Nat))]) (fun _=>[]) (fun m=>us.length-m) 0 (Wm _) sbB slB (fun m hm=>?_)
 repeat(refine wkB ?_;intros)
 refine Zk rfl (fun hc=>?_) (fun hc=>?_)
 ·have hlt:m<us.length:=by have:=Wa hc;omega
  have hne:us≠[]:=fun h0=>by rw[h0] at hlt;simp at hlt
  obtain⟨b1,o1,c1',hv1,hc1,hr1⟩:=hv.blk (k:=20) hne []
  injection hv1 with e1 e2 e3
  subst e1
  subst e3
  have hr1':∀L,RowC w L b1 o1 UL rU us:=fun L=>⟨fun w' hw'=>hr1.out w' (hw'.sub (Wk _))⟩
  have hu:=hk _ (Zs (i:=(m:Int)) (xs:=us) (by omega))
  have ho:=h.ok _ (List.mem_map.2 ⟨_,Zs (i:=(m:Int)) (xs:=us) (by omega),rfl⟩)
  have p1:(IvOk KR (gi us (m:Int)).In/\(gi us (m:Int)).In.From.R=0/\(gi us (m:Int)).In.To.R=0)/\okI (gi us (m:Int)).In:=⟨⟨hu.i,hr _ (Zs (i:=(m:Int)) (xs:=us) (by omega))⟩,ho⟩
  repeat(first|(refine wkB ?_;intros)|(refine wnM ?_ ?_;(focus(first|exact p1|exact trivial));intros))
  rename_i b6
  rcases Nat.eq_zero_or_pos m with h0|h0
  ·subst h0
   refine jD 14 14 (h:=?_)
   (repeat(refine wkH ?_))
   simp only[We (show¬(0:Int)<((0:Nat):Int) by decide)]
   (repeat(refine wkH ?_))
   refine Zn ?_
   refine Zp ?_
   repeat(refine wkB ?_;intros)
   exact Zc 1 hlt sbB slB (by omega)
  ·have hu0:=hk _ (Zs (i:=(m:Int)-1) (xs:=us) (by omega))
   have ha:aprt (gi us ((m:Int)-1)).In (gi us (m:Int)).In=true:=by
    have:=n3 (m-1) (by omega)
    rw[show((m-1:Nat):Int)=(m:Int)-1 by omega,show((m-1+1:Nat):Int)=(m:Int) by omega] at this
    exact this
   refine jD 14 14 (h:=?_)
   (repeat(refine wkH ?_))
   simp only[Wc (show(0:Int)<(m:Int) by omega)]
   (repeat(first|refine wkH ?_|(refine tC rfl rfl ?_ ?_;focus(exact⟨hu0.i.b,hu.i.a⟩))))
   simp only[ha,Bool.not_true]
   (repeat(refine wkH ?_))
   refine Zn ?_
   refine Zp ?_
   repeat(refine wkB ?_;intros)
   exact Zc (m+1) hlt sbB slB (by omega)
 ·repeat(first|(refine wkB ?_;intros)|(refine wnM ?_ ?_;(focus(first|exact⟨.inl hl,hk⟩));intros))
  rename_i s
  obtain⟨s',e1,e2⟩:=SlS.turn 145 n1 s
  simp only[<-e1,<-e2,n2,Wc (rfl:(0:Int)=0),Bool.not_true]
  repeat(first|(refine wkB ?_;intros)|(refine wnM ?_ ?_;(focus(exact(show us.length<=1048576 by omega)));intros))
  exact rtT rfl rfl
instance ZwS (w0:World)(L:List Blk)(v:Value)(us:List UL)[h:LstN w0 L v UL rU us]:SpecM prog w0 L 62 [vLabels,v] (.int .i64 0) (NF (us.map absU)/\(∀u∈us,UIn u)/\(∀u∈us,u.In.From.R=0/\u.In.To.R=0)/\us.length<=19):=⟨fun hp w hw=>Zja v us w (h.out w hw) h.nil hp.1 hp.2.1 hp.2.2.1 hp.2.2.2⟩
theorem Zrj {α β:Type}[Inhabited α](f:α->β)(xs:List α):mpN f xs xs.length=xs.map f:=by
 apply List.ext_getElem
 ·rw[ZK,Ws]
 ·intro i h1 h2
  rw[List.getElem_map]
  have key:∀m,m<=xs.length->mpN f xs m=(xs.take m).map f:=fun m=>by
   induction m with
   |zero=>intro _;rfl
   |succ m ih=>intro hm;rw[mpN,ih (by omega),Wn (by omega),List.map_append,Zr (by omega)];rfl
  have:=key xs.length (Wl _)
  rw[List.take_length] at this
  simp[this]
noncomputable def absP (u:PU):GU Ri Int:=⟨ri u.In.From,ri u.In.To,u.In.OpenFrom,u.In.OpenTo,u.Label⟩
theorem ZnK (us:List PU):(us.map toU).map absU=us.map absP:=by rw[List.map_map];rfl
structure PFine (us:List PU):Prop where
 nf:NF (us.map absP)
 k:∀u∈us,UIn (toU u)
 r:∀u∈us,u.In.From.R=0/\u.In.To.R=0
 l:us.length<=19
theorem Zi7 (v:Value)(us:List PU)(w:World)(hv:ArgS w v rP us)(h:PFine us):Calls prog 15 [v].toArray w (Ret (.int .i64 0) w):=by
 have hl:=h.l
 have hml:=Zrj toU us
 have p1:NF ((mpN toU us us.length).map absU)/\(∀u∈mpN toU us us.length,UIn u)/\(∀u∈mpN toU us us.length,u.In.From.R=0/\u.In.To.R=0)/\(mpN toU us us.length).length<=19:=by
  rw[hml,ZnK,Ws]
  refine⟨h.nf,fun u hu=>?_,fun u hu=>?_,hl⟩
  ·obtain⟨x,hx,rfl⟩:=List.mem_map.1 hu
   exact h.k x hx
  ·obtain⟨x,hx,rfl⟩:=List.mem_map.1 hu
   exact h.r x hx
 have:=ArgC.mk hv
 refine Zb Tryz.func15 rfl Tryz.ntmps15 rfl ?_
 have hl1:us.length<=1048576:=by omega
 repeat(refine wkB ?_;intros)
 (refine ZB (.v [0,1,2] (.e1 3 (.e1 4 (.e1 5 (.fin))))) (([]:List Blk)) (h:=?_);refine wkX ?_)
 (repeat(refine wkH ?_))
 repeat(first|(refine wkT ?_;intros)|(refine tC rfl rfl ?_ ?_;focus(first|exact hl1|exact p1))|(refine uC rfl rfl ?_ ?_;focus(first|exact hl1|exact p1))|(refine eN rfl rfl ?_ ?_;(focus(first|exact hl1|exact p1));intro _;(try simp only[Wf,Wg,Wh])))
 repeat(refine wkB ?_;intros)
 exact rtT rfl rfl
instance ZvP (w0:World)(L:List Blk)(v:Value)(us:List PU)[h:LstC w0 L v PU rP us]:SpecM prog w0 L 15 [v] (.int .i64 0) (PFine us):=⟨fun hp w hw=>Zi7 v us w (h.out w hw) hp⟩
end
section
def flB (a b:PU)(x y:Int):Bool:= !decide (a.In.From=a.In.To)&&(!decide (b.In.From=b.In.To)&&(decide (a.In.To=b.In.From)&&(!(a.In.OpenTo&&b.In.OpenFrom)&&(decide (a.Label=x)&&decide (b.Label=y)))))
theorem Zbm {a b:PU}{x y:Int}:flB a b x y=true↔True/\¬a.In.From=a.In.To/\¬b.In.From=b.In.To/\a.In.To=b.In.From/\¬(a.In.OpenTo=true/\b.In.OpenFrom=true)/\a.Label=x/\b.Label=y:=by
 unfold flB
 simp only[Wq,Bool.not_eq_true',decide_eq_true_eq,decide_eq_false_iff_not,true_and,<-Bool.not_eq_true]
def flL (l:List PU)(x y:Int):Nat->List Rl
 |0=>[]
 |i+1=>if flB (gi l (i:Int)) (gi l ((i+1:Nat):Int)) x y=true then flL l x y i++[(gi l ((i+1:Nat):Int)).In.From] else flL l x y i
theorem ZjS (l:List PU)(x y:Int):∀i,(flL l x y i).length<=i
 |0=>Wl _
 |i+1=>by
  have h1:=ZjS l x y i
  rw[flL]
  split
  ·rw[Wp];simp;exact h1
  ·omega
instance ZA2 (u:PU):SpecC prog 78 [vPU u] (.bool (!decide (u.In.From=u.In.To))) True:=⟨fun _ w=>by
 refine Zb Tryz.func78 rfl Tryz.ntmps78 rfl ?_
 repeat(refine wkB ?_;intros)
 exact rtT rfl rfl⟩
set_option maxHeartbeats 16000000 in
theorem Zig (v:Value)(l:List PU)(x y:Int)(w:World)(hv:ArgS w v rP l)(hl:l.length<=1048576):
  Calls prog 26 [v, .int .i64 x, .int .i64 y].toArray w (RetM (SlS Zv 9 (flL l x y (l.length-1))) (fun q=>vSl q) (fun q=>mS 35 q) w):=by
 obtain⟨p,cp,rfl⟩:=hv.form
 refine Zb Tryz.func26 rfl Tryz.ntmps26 rfl ?_
 repeat(refine wkB ?_;intros)
 refine Z4 (S:=SlS Zv 9 (flL l x y (l.length-1))) (fun _=>True) (fun q=>[(7,vSl q)]) (fun q=>mS 35 q) ?_ (fun q _=>?_)
 ·refine Zm (S:=(_:Nat)×(o:List Rl)×SlS Zv 9 o) (fun q=>q.1<=l.length-1/\q.2.1=flL l x y q.1) (fun q=>[(0, .slice p l.length cp),(1, .int .i64 x),(2, .int .i64 y),(7,vSl q.2.2),(8, .int .i64 ((q.1+1:Nat):Int))]) (fun q=>mS 35 q.2.2) (fun q=>l.length-q.1) ⟨0,[],SlS.no⟩ ⟨Wm _,rfl⟩ sbB suB (fun q hq=>?_)
  obtain⟨i,out,o⟩:=q
  obtain⟨hq,ho⟩:=hq
  dsimp only at hq ho⊢
  have hln:out.length<=i:=by rw[ho];exact ZjS l x y i
  have hend:i=l.length-1->out=flL l x y (l.length-1):=fun h=>by rw[ho,h]
  have hnxt:(if flB (gi l (i:Int)) (gi l ((i+1:Nat):Int)) x y=true then out++[(gi l ((i+1:Nat):Int)).In.From] else out)=flL l x y (i+1):=by rw[ho];rfl
  clear ho
  have e2:((i+1:Nat):Int)-1=(i:Int):=by omega
  have e3:((i+1:Nat):Int)+1=((i+1+1:Nat):Int):=by omega
  repeat(refine wkB ?_;intros)
  refine Zk rfl (fun h=>?_) (fun h=>?_)
  ·have hlt:i+1<l.length:=by have:=Wa h;omega
   obtain⟨bw,ow,rfl,hrow'⟩:=hv.opn (k:=20) hlt
   repeat(refine wkB ?_;intros)
   (refine Zb6 [0,1,2,3,4,5,6,7,8] [9,10] [11,12] (([]:List Blk)) (h:=?_);refine wkI ?_)
   (repeat(refine wkH ?_))
   repeat(refine wkT ?_;intros)
   repeat(refine wkB ?_;intros)
   simp only[e2]
   repeat(refine wkB ?_;intros)
   by_cases c1:(gi l (i:Int)).In.From=(gi l (i:Int)).In.To
   ·simp only[Wc c1,Bool.not_true]
    repeat(refine wkB ?_;intros)
    have hf:flB (gi l (i:Int)) (gi l ((i+1:Nat):Int)) x y=false:=Bool.eq_false_iff.2 fun g=>by
     obtain⟨g0,g1,g2,g3,g4,g5,g6⟩:=Zbm.1 g
     first|exact g0 c0|exact g1 c1|exact g2 c2|exact c3 g3|exact g4 ⟨c4,c4b⟩|exact c5 g5|exact c6 g6
    rw[hf] at hnxt
    simp only[Bool.false_eq_true,if_false] at hnxt
    repeat(first|(refine wkB ?_;intros)|(refine wnM ?_ ?_;(focus(exact⟨by omega,by omega⟩));intros))
    simp only[e3]
    exact Zc ⟨i+1,_,o⟩ ⟨by show i+1<=l.length-1;omega,hnxt⟩ sbB suB (by show l.length-(i+1)<l.length-i;omega)
   ·simp only[We c1,Bool.not_false]
    repeat(refine wkB ?_;intros)
    by_cases c2:(gi l ((i+1:Nat):Int)).In.From=(gi l ((i+1:Nat):Int)).In.To
    ·simp only[Wc c2,Bool.not_true]
     repeat(refine wkB ?_;intros)
     have hf:flB (gi l (i:Int)) (gi l ((i+1:Nat):Int)) x y=false:=Bool.eq_false_iff.2 fun g=>by
      obtain⟨g0,g1,g2,g3,g4,g5,g6⟩:=Zbm.1 g
      first|exact g0 c0|exact g1 c1|exact g2 c2|exact c3 g3|exact g4 ⟨c4,c4b⟩|exact c5 g5|exact c6 g6
     rw[hf] at hnxt
     simp only[Bool.false_eq_true,if_false] at hnxt
     repeat(first|(refine wkB ?_;intros)|(refine wnM ?_ ?_;(focus(exact⟨by omega,by omega⟩));intros))
     simp only[e3]
     exact Zc ⟨i+1,_,o⟩ ⟨by show i+1<=l.length-1;omega,hnxt⟩ sbB suB (by show l.length-(i+1)<l.length-i;omega)
    ·simp only[We c2,Bool.not_false]
     repeat(refine wkB ?_;intros)
     by_cases c3:(gi l (i:Int)).In.To=(gi l ((i+1:Nat):Int)).In.From
     ·simp only[Wc c3]
      repeat(refine wkB ?_;intros)
      cases c4:(gi l (i:Int)).In.OpenTo with
      |false=>
       repeat(refine wkB ?_;intros)
       by_cases c5:(gi l (i:Int)).Label=x
       ·simp only[Wc c5]
        repeat(refine wkB ?_;intros)
        by_cases c6:(gi l ((i+1:Nat):Int)).Label=y
        ·simp only[Wc c6]
         repeat(refine wkB ?_;intros)
         have hf:flB (gi l (i:Int)) (gi l ((i+1:Nat):Int)) x y=true:=Zbm.2 ⟨trivial,c1,c2,c3,(fun g=>by first|exact Bool.noConfusion (g.1.symm.trans c4)|exact Bool.noConfusion (g.2.symm.trans c4b)),c5,c6⟩
         rw[hf] at hnxt
         simp only[if_true] at hnxt
         repeat(refine wkB ?_;intros)
         refine sU (k:=9) (enc:=Zv) (s:=o) rfl rfl ?_ ?_ ?_ ?_
         ·rfl
         ·rfl
         ·exact⟨by decide,by omega,by omega⟩
         intro s'
         repeat(first|(refine wkB ?_;intros)|(refine wnM ?_ ?_;(focus(exact⟨by omega,by omega⟩));intros))
         simp only[e3]
         exact Zc ⟨i+1,_,s'⟩ ⟨by show i+1<=l.length-1;omega,hnxt⟩ sbB suB (by show l.length-(i+1)<l.length-i;omega)
        ·simp only[We c6]
         repeat(refine wkB ?_;intros)
         have hf:flB (gi l (i:Int)) (gi l ((i+1:Nat):Int)) x y=false:=Bool.eq_false_iff.2 fun g=>by
          obtain⟨g0,g1,g2,g3,g4,g5,g6⟩:=Zbm.1 g
          first|exact g0 c0|exact g1 c1|exact g2 c2|exact c3 g3|exact g4 ⟨c4,c4b⟩|exact c5 g5|exact c6 g6
         rw[hf] at hnxt
         simp only[Bool.false_eq_true,if_false] at hnxt
         repeat(first|(refine wkB ?_;intros)|(refine wnM ?_ ?_;(focus(exact⟨by omega,by omega⟩));intros))
         simp only[e3]
         exact Zc ⟨i+1,_,o⟩ ⟨by show i+1<=l.length-1;omega,hnxt⟩ sbB suB (by show l.length-(i+1)<l.length-i;omega)
       ·simp only[We c5]
        repeat(refine wkB ?_;intros)
        have hf:flB (gi l (i:Int)) (gi l ((i+1:Nat):Int)) x y=false:=Bool.eq_false_iff.2 fun g=>by
         obtain⟨g0,g1,g2,g3,g4,g5,g6⟩:=Zbm.1 g
         first|exact g0 c0|exact g1 c1|exact g2 c2|exact c3 g3|exact g4 ⟨c4,c4b⟩|exact c5 g5|exact c6 g6
        rw[hf] at hnxt
        simp only[Bool.false_eq_true,if_false] at hnxt
        repeat(first|(refine wkB ?_;intros)|(refine wnM ?_ ?_;(focus(exact⟨by omega,by omega⟩));intros))
        simp only[e3]
        exact Zc ⟨i+1,_,o⟩ ⟨by show i+1<=l.length-1;omega,hnxt⟩ sbB suB (by show l.length-(i+1)<l.length-i;omega)
      |true=>
       repeat(refine wkB ?_;intros)
       cases c4b:(gi l ((i+1:Nat):Int)).In.OpenFrom with
       |false=>
        repeat(refine wkB ?_;intros)
        by_cases c5:(gi l (i:Int)).Label=x
        ·simp only[Wc c5]
         repeat(refine wkB ?_;intros)
         by_cases c6:(gi l ((i+1:Nat):Int)).Label=y
         ·simp only[Wc c6]
          repeat(refine wkB ?_;intros)
          have hf:flB (gi l (i:Int)) (gi l ((i+1:Nat):Int)) x y=true:=Zbm.2 ⟨trivial,c1,c2,c3,(fun g=>by first|exact Bool.noConfusion (g.1.symm.trans c4)|exact Bool.noConfusion (g.2.symm.trans c4b)),c5,c6⟩
          rw[hf] at hnxt
          simp only[if_true] at hnxt
          repeat(refine wkB ?_;intros)
          refine sU (k:=9) (enc:=Zv) (s:=o) rfl rfl ?_ ?_ ?_ ?_
          ·rfl
          ·rfl
          ·exact⟨by decide,by omega,by omega⟩
          intro s'
          repeat(first|(refine wkB ?_;intros)|(refine wnM ?_ ?_;(focus(exact⟨by omega,by omega⟩));intros))
          simp only[e3]
          exact Zc ⟨i+1,_,s'⟩ ⟨by show i+1<=l.length-1;omega,hnxt⟩ sbB suB (by show l.length-(i+1)<l.length-i;omega)
         ·simp only[We c6]
          repeat(refine wkB ?_;intros)
          have hf:flB (gi l (i:Int)) (gi l ((i+1:Nat):Int)) x y=false:=Bool.eq_false_iff.2 fun g=>by
           obtain⟨g0,g1,g2,g3,g4,g5,g6⟩:=Zbm.1 g
           first|exact g0 c0|exact g1 c1|exact g2 c2|exact c3 g3|exact g4 ⟨c4,c4b⟩|exact c5 g5|exact c6 g6
          rw[hf] at hnxt
          simp only[Bool.false_eq_true,if_false] at hnxt
          repeat(first|(refine wkB ?_;intros)|(refine wnM ?_ ?_;(focus(exact⟨by omega,by omega⟩));intros))
          simp only[e3]
          exact Zc ⟨i+1,_,o⟩ ⟨by show i+1<=l.length-1;omega,hnxt⟩ sbB suB (by show l.length-(i+1)<l.length-i;omega)
        ·simp only[We c5]
         repeat(refine wkB ?_;intros)
         have hf:flB (gi l (i:Int)) (gi l ((i+1:Nat):Int)) x y=false:=Bool.eq_false_iff.2 fun g=>by
          obtain⟨g0,g1,g2,g3,g4,g5,g6⟩:=Zbm.1 g
          first|exact g0 c0|exact g1 c1|exact g2 c2|exact c3 g3|exact g4 ⟨c4,c4b⟩|exact c5 g5|exact c6 g6
         rw[hf] at hnxt
         simp only[Bool.false_eq_true,if_false] at hnxt
         repeat(first|(refine wkB ?_;intros)|(refine wnM ?_ ?_;(focus(exact⟨by omega,by omega⟩));intros))
         simp only[e3]
         exact Zc ⟨i+1,_,o⟩ ⟨by show i+1<=l.length-1;omega,hnxt⟩ sbB suB (by show l.length-(i+1)<l.length-i;omega)
       |true=>
        repeat(refine wkB ?_;intros)
        have hf:flB (gi l (i:Int)) (gi l ((i+1:Nat):Int)) x y=false:=Bool.eq_false_iff.2 fun g=>by
         obtain⟨g0,g1,g2,g3,g4,g5,g6⟩:=Zbm.1 g
         first|exact g0 c0|exact g1 c1|exact g2 c2|exact c3 g3|exact g4 ⟨c4,c4b⟩|exact c5 g5|exact c6 g6
        rw[hf] at hnxt
        simp only[Bool.false_eq_true,if_false] at hnxt
        repeat(first|(refine wkB ?_;intros)|(refine wnM ?_ ?_;(focus(exact⟨by omega,by omega⟩));intros))
        simp only[e3]
        exact Zc ⟨i+1,_,o⟩ ⟨by show i+1<=l.length-1;omega,hnxt⟩ sbB suB (by show l.length-(i+1)<l.length-i;omega)
     ·simp only[We c3]
      repeat(refine wkB ?_;intros)
      have hf:flB (gi l (i:Int)) (gi l ((i+1:Nat):Int)) x y=false:=Bool.eq_false_iff.2 fun g=>by
       obtain⟨g0,g1,g2,g3,g4,g5,g6⟩:=Zbm.1 g
       first|exact g0 c0|exact g1 c1|exact g2 c2|exact c3 g3|exact g4 ⟨c4,c4b⟩|exact c5 g5|exact c6 g6
      rw[hf] at hnxt
      simp only[Bool.false_eq_true,if_false] at hnxt
      repeat(first|(refine wkB ?_;intros)|(refine wnM ?_ ?_;(focus(exact⟨by omega,by omega⟩));intros))
      simp only[e3]
      exact Zc ⟨i+1,_,o⟩ ⟨by show i+1<=l.length-1;omega,hnxt⟩ sbB suB (by show l.length-(i+1)<l.length-i;omega)
  ·have hge:i=l.length-1:=by have:=Wb h;omega
   obtain⟨s',f1,f2⟩:=SlS.turn 35 (hend hge) o
   repeat(refine wkB ?_;intros)
   exact Zh s' trivial (by rw[f1];exact sbB) (by rw[f2];exact suB)
 ·repeat(refine wkB ?_;intros)
  exact Zo rfl rfl (fun w hw=>⟨q,rfl,hw.sub suB⟩)
instance Zvo (w0:World)(L:List Blk)(v:Value)(l:List PU)(x y:Int)[h:LstC w0 L v PU rP l]:SpecR prog w0 L 26 [v, .int .i64 x, .int .i64 y] (SlS Zv 9 (flL l x y (l.length-1))) (fun q=>vSl q) (fun q=>mS 35 q) (l.length<=1048576):=⟨fun hp w hw=>Zig v l x y w (h.out w hw) hp⟩
end
section
def wl (n:Int):Rl:=rl (n:Rat)
theorem ZuA {a b:Int}:ri (wl a)<ri (wl b)↔a<b:=by
 unfold wl
 rw[Zt3]
 exact Rat.intCast_lt_intCast
theorem ZcW {n:Int}(h:M (n:Rat)<=1):RlB KR (wl n):=(Zs0 h (Wl _)).mono (by decide)
def kI0 :Za:=⟨wl 0,wl 4,false,true⟩
def kI1 :Za:=⟨wl 4,wl 6,false,false⟩
def kI2 :Za:=⟨wl 6,wl 9,true,false⟩
def exU :List PU:=[⟨kI0,1⟩,⟨kI1,2⟩,⟨kI2,1⟩]
def exT :List UL:=[⟨kI0,1⟩,⟨kI1,2⟩,⟨kI2,1⟩]
theorem Zsq :mpN toU exU exU.length=exT:=rfl
theorem Zc9 :IvOk KR kI0/\IvOk KR kI1/\IvOk KR kI2:=⟨⟨ZcW (by decide),ZcW (by decide)⟩,⟨ZcW (by decide),ZcW (by decide)⟩,⟨ZcW (by decide),ZcW (by decide)⟩⟩
theorem kx :ri (wl 0)<ri (wl 2)/\ri (wl 2)<ri (wl 3)/\ri (wl 3)<ri (wl 4)/\ri (wl 4)<ri (wl 6)/\ri (wl 6)<ri (wl 9):=by
 simp only[ZuA]
 decide
theorem ZrY :Cut exT (wl 4) 0:=by
 obtain⟨h1,h2,h3,h4,h5⟩:=kx
 refine⟨Wm _,fun j hj=>by omega,fun j _ hj=>?_⟩
 have hj':j<3:=hj
 rcases(by omega:j=0\/j=1\/j=2) with rfl|rfl|rfl
 ·show ri (wl 4)<=ri (wl 4);grind
 ·show ri (wl 4)<=ri (wl 6);grind
 ·show ri (wl 4)<=ri (wl 9);grind
theorem ZuM :AtR exT (ri (wl 4)) (some 2):=by
 obtain⟨h1,h2,h3,h4,h5⟩:=kx
 refine⟨.inl ⟨1,by decide, ?_,fun j hj=>?_,fun j hj=>?_,rfl⟩⟩
 ·show(ri (wl 4)<ri (wl 4)\/(ri (wl 4)=ri (wl 4)/\false=false))/\(ri (wl 4)<ri (wl 6)\/_)
  exact⟨.inr ⟨rfl,rfl⟩, .inl h4⟩
 ·obtain rfl:j=0:=by omega
  rintro⟨-,h|h⟩
  ·exact absurd (show ri (wl 4)<ri (wl 4) from h) (by grind)
  ·cases (show true=false from h.2)
 ·rcases(by omega:j=0\/j=1) with rfl|rfl
  ·show ri (wl 0)<=ri (wl 4);grind
  ·show ri (wl 4)<=ri (wl 4);grind
theorem ZuL :flL exU 1 2 2=[wl 4]:=by decide
theorem ZuU :cmI' (lbL exU)=[1,2,1]:=by decide
theorem ZpL :whL exU 1 exU.length=[kI0,kI2]:=by decide
theorem Zji {i:Za}(h:IvOk KR i):BdOk (bdF i)/\BdOk (bdL i):=⟨⟨h.a⟩,⟨h.b⟩⟩
theorem ZuZ :SwOk [kI0,kI2] []:=⟨by decide,fun i hi=>by
 simp only[Ww,List.not_mem_nil,or_false] at hi
 rcases hi with rfl|rfl
 ·exact Zji Zc9.1
 ·exact Zji Zc9.2.2,fun i hi=>by cases hi⟩
theorem ZmY :Sep [kI0,kI2]:=by
 obtain⟨h1,h2,h3,h4,h5⟩:=kx
 refine⟨List.pairwise_cons.2 ⟨fun j hj=>?_,List.pairwise_singleton _ _⟩,fun i hi=>?_⟩
 ·rw[Wo] at hj
  rw[hj]
  exact .inl h4
 ·simp only[Ww,List.not_mem_nil,or_false] at hi
  rcases hi with rfl|rfl
  ·exact .inl (show ri (wl 0)<ri (wl 4) by grind)
  ·exact .inl h5
theorem ivEq {i j:Za}(hi:IvOk KR i)(hj:IvOk KR j)(h:absI i=absI j):i=j:=by
 obtain⟨a,b,c,d⟩:=i
 obtain⟨a',b',c',d'⟩:=j
 injection h with e1 e2 e3 e4
 have e1':=(Zcv hi.a.o hj.a.o).1 e1
 have e2':=(Zcv hi.b.o hj.b.o).1 e2
 simp only at e1' e2' e3 e4
 rw[e1',e2',e3,e4]
theorem sepEq {l m:List Za}(hl:Sep l)(hm:Sep m)(kl:∀i∈l,IvOk KR i)(km:∀i∈m,IvOk KR i)(H:∀t,HoldP l t↔HoldP m t):l=m:=by
 have h:=hl.uniq hm H
 have hlen:l.length=m.length:=by
  have:=congrArg List.length h
  simpa using this
 refine List.ext_getElem hlen fun j h1 h2=>ivEq (kl _ (List.getElem_mem h1)) (km _ (List.getElem_mem h2)) ?_
 have:=congrArg (fun z:List (GU Ri Unit)=>z[j]?) h
 simpa [List.getElem?_eq_getElem h1,List.getElem?_eq_getElem h2] using this
theorem ZqR :swpR kpU [kI0,kI2] []=[kI0,kI2]:=by
 have hle:∀i∈[kI0,kI2],bLe (bdF i) (bdL i):=fun i hi=>(ZmY.v i hi).le
 obtain⟨h1,h2,h3⟩:=Zir (kp:=kpU) rfl hle (fun i (hi:i∈[])=>by cases hi)
 have hk:∀i∈[kI0,kI2],IvOk KR i:=fun i hi=>by
  simp only[Ww,List.not_mem_nil,or_false] at hi
  rcases hi with rfl|rfl
  ·exact Zc9.1
  ·exact Zc9.2.2
 have hb:=ZjJ (Pb:=fun b=>RlB KR b.at_) kpU (is:=[kI0,kI2]) (js:=[]) (fun i hi=>⟨(hk i hi).a,(hk i hi).b⟩) (fun i hi=>by cases hi)
 refine sepEq ⟨h2,h3⟩ ZmY (fun i hi=>⟨(hb i hi).1,(hb i hi).2⟩) hk (fun t=>?_)
 unfold HoldP
 rw[h1 t]
 simp[kpU]
def nmU :List PU:=[⟨⟨wl 2,wl 3,true,true⟩,5⟩,⟨⟨wl 0,wl 2,false,false⟩,5⟩]
def nmT :List UL:=[⟨⟨wl 2,wl 3,true,true⟩,5⟩,⟨⟨wl 0,wl 2,false,false⟩,5⟩]
theorem ZpG :∀u∈nmT,UIn u:=fun u hu=>by
 simp only[nmT,Ww,List.not_mem_nil,or_false] at hu
 rcases hu with rfl|rfl
 ·exact⟨⟨ZcW (by decide),ZcW (by decide)⟩⟩
 ·exact⟨⟨ZcW (by decide),ZcW (by decide)⟩⟩
theorem Znh :UVal nmT:=⟨ZpG,fun u hu=>by
 obtain⟨h1,h2,h3,h4,h5⟩:=kx
 simp only[nmT,Ww,List.not_mem_nil,or_false] at hu
 rcases hu with rfl|rfl
 ·exact .inl h2
 ·exact .inl h1⟩
theorem ZlH :(nmT.map absU).Pairwise Dis:=by
 refine List.pairwise_cons.2 ⟨fun j hj=>?_,List.pairwise_singleton _ _⟩
 rw[List.map_cons,List.map_nil,Wo] at hj
 subst hj
 rintro t ⟨⟨h1, -⟩, -,h2⟩
 have h1':ri (wl 2)<t:=h1.elim id (fun h=>by cases (show true=false from h.2))
 have h2':t<ri (wl 2)\/t=ri (wl 2):=h2.imp id (·.1)
 grind
theorem ZsU :(nrmR nmT).map absU=[⟨ri (wl 0),ri (wl 3),false,true,5⟩]:=by
 obtain⟨h1,h2,h3,h4,h5⟩:=kx
 obtain⟨k1,k2⟩:=Zis Znh ZlH
 refine k1.uniq (NF.one (.inl (show ri (wl 0)<ri (wl 3) by grind)) (fun h=>absurd (show ri (wl 0)=ri (wl 3) from h) (by grind))) (fun t v=>?_)
 rw[k2 t v]
 show Has [absU _,absU _] t v↔_
 rw[Zan,ZcE,ZcE]
 show((((ri (wl 2)<t\/(ri (wl 2)=t/\true=false))/\(t<ri (wl 3)\/(t=ri (wl 3)/\true=false)))/\(5:Int)=v)\/(((ri (wl 0)<t\/(ri (wl 0)=t/\false=false))/\(t<ri (wl 2)\/(t=ri (wl 2)/\false=false)))/\(5:Int)=v))↔((ri (wl 0)<t\/(ri (wl 0)=t/\false=false))/\(t<ri (wl 3)\/(t=ri (wl 3)/\true=false)))/\(5:Int)=v
 grind
theorem Zr5 :nrmE nmT=0:=(ZlN Znh).2 ZlH
theorem ZsK :∃u:PU,mNorm nmU=[u]/\u.In.OpenTo=true:=by
 have h:=ZsU
 have hn:mNorm nmU=mpN ofU (nrmR nmT) (nrmR nmT).length:=rfl
 rw[hn]
 generalize nrmR nmT=l at h
 have hlen:l.length=1:=by
  have:=congrArg List.length h
  simpa using this
 obtain⟨u,rfl⟩:=List.length_eq_one_iff.1 hlen
 have h1:absU u=_:=(List.cons.inj h).1
 exact⟨ofU u,rfl,congrArg GU.ob h1⟩
theorem ZqK :PFine exU:=by
 obtain⟨h1,h2,h3,h4,h5⟩:=kx
 have a4:ri (wl 0)<ri (wl 4):=by grind
 refine⟨⟨fun u hu=>?_,fun u _ _=>rfl, ?_⟩,fun u hu=>?_,fun u hu=>?_,by decide⟩
 ·simp only[exU,List.map_cons,List.map_nil,Ww,List.not_mem_nil,or_false] at hu
  rcases hu with rfl|rfl|rfl
  ·exact .inl a4
  ·exact .inl h4
  ·exact .inl h5
 ·refine List.pairwise_cons.2 ⟨fun j hj=>?_,List.pairwise_cons.2 ⟨fun j hj=>?_,List.pairwise_singleton _ _⟩⟩
  ·simp only[List.map_cons,List.map_nil,Ww,List.not_mem_nil,or_false] at hj
   rcases hj with rfl|rfl
   ·exact⟨.inr ⟨rfl, .inl rfl⟩,fun _ _ _=>(by decide:(1:Int)≠2),fun _ _=>(by decide:(1:Int)≠2),fun _ _=>(by decide:(1:Int)≠2)⟩
   ·exact⟨.inl h4,fun h=>absurd (show ri (wl 4)=ri (wl 6) from h) (by grind),fun h=>absurd (show ri (wl 4)=ri (wl 6) from h) (by grind),fun h=>absurd (show ri (wl 4)=ri (wl 6) from h) (by grind)⟩
  ·simp only[List.map_cons,List.map_nil,Ww,List.not_mem_nil,or_false] at hj
   subst hj
   exact⟨.inr ⟨rfl, .inr rfl⟩,fun _ _ _=>(by decide:(2:Int)≠1),fun _ _=>(by decide:(2:Int)≠1),fun _ _=>(by decide:(2:Int)≠1)⟩
 ·simp only[exU,Ww,List.not_mem_nil,or_false] at hu
  rcases hu with rfl|rfl|rfl
  ·exact⟨Zc9.1⟩
  ·exact⟨Zc9.2.1⟩
  ·exact⟨Zc9.2.2⟩
 ·simp only[exU,Ww,List.not_mem_nil,or_false] at hu
  rcases hu with rfl|rfl|rfl <;> exact⟨rfl,rfl⟩
end
section
theorem divInt1 (n:Int):Rat.divInt n 1=(n:Rat):=by
 rw[Rat.divInt_eq_div]
 have h:((1:Int):Rat)=1:=rfl
 rw[h]
 grind
instance ZvK (n:Int):SpecC prog 61 [.int .i64 n] (vR (wl n)) (-9223372036854775808<=n/\n<=9223372036854775807):=⟨fun hp w=>by
 have p1:(1:Int)≠0/\(-9223372036854775808<=n/\n<=9223372036854775807)/\(-9223372036854775808<=(1:Int)/\(1:Int)<=9223372036854775807):=by omega
 refine Zb Tryz.func61 rfl Tryz.ntmps61 rfl ?_
 repeat(first|(refine wkB ?_;intros)|(refine wnM ?_ ?_;(focus(exact p1));intros))
 simp only[divInt1]
 exact rtC rfl rfl⟩
set_option maxHeartbeats 8000000 in
theorem Zh5 (w:World):Calls prog 60 [].toArray w (RetM (SlS rP 21 exU) (fun s=>vSl s) (fun s=>mS 46 s) w):=by
 refine Zb Tryz.func60 rfl Tryz.ntmps60 rfl ?_
 repeat(first|(refine wkB ?_;intros)|(refine wnM ?_ ?_;(focus(decide));intros))
 rename_i b
 exact Zo rfl rfl (fun w hw=>⟨SlS.at_ b 3 [] ⟨Wl _,rfl⟩ (by decide),rfl,hw⟩)
instance Zun (w0:World)(L:List Blk):SpecR prog w0 L 60 [] (SlS rP 21 exU) (fun s=>vSl s) (fun s=>mS 46 s) True:=⟨fun _ w _=>Zh5 w⟩
instance lst2 {α:Type}{enc:α->Array Value}{k:Nat}{x y:α}{sp:List Value}[he:EncC enc k](w0:World)(L:List Blk)(b c:Nat)(T:TypeId)[h:AtC w0 L b (row enc [x,y] sp) T]:LstC w0 L (.slice (some ⟨b,0,none⟩) 2 (c+2)) α enc [x,y]:=⟨fun w hw=>by
 obtain⟨fz,hb⟩:=h.out w hw
 exact ZbL (c:=c+2) hb (Nat.le_add_left 2 c)⟩
set_option maxHeartbeats 16000000 in
theorem Zhd (w:World):Calls prog 13 [].toArray w (Ret (.bool true) w):=by
 have i1:CtC (mpN toU exU exU.length) (wl 4) 0:=⟨ZrY⟩
 have i2:AtC' (mpN toU exU exU.length) (ri (wl 4)) (some 2):=⟨ZuM⟩
 have hk:=Zc9
 have p1:exU.length<=1048576/\RlB KR (wl 4)/\∀u∈mpN toU exU exU.length,IvOk BQ u.In:=⟨by decide,ZcW (by decide),fun u hu=>by
  rw[Zsq] at hu
  simp only[exT,Ww,List.not_mem_nil,or_false] at hu
  rcases hu with rfl|rfl|rfl
  ·exact hk.1
  ·exact hk.2.1
  ·exact hk.2.2⟩
 have p2:exU.length<=1048576/\SwOk (whL exU 1 exU.length) []:=⟨by decide,by rw[ZpL];exact ZuZ⟩
 have p3:exU.length<=1048576:=by decide
 have p4:NrP (mpN toU nmU nmU.length)/\∀u∈mpN toU nmU nmU.length,UIn u:=⟨.inl (by rw[ZK];decide),ZpG⟩
 have p5:=ZqK
 refine Zb Tryz.func13 rfl Tryz.ntmps13 rfl ?_
 repeat(first|(refine wkB ?_;intros)|(refine wnM ?_ ?_;(focus(first|exact p1|exact p2|exact p3|exact p4|exact p5|decide));intros))
 rename_i sx sw sf bn sn
 obtain⟨u,hu,ho⟩:=ZsK
 have hwh:swpR kpU (whL exU 1 exU.length) []=[kI0,kI2]:=by rw[ZpL,ZqR]
 obtain⟨sn',f1,f2⟩:=SlS.turn 46 hu sn
 obtain⟨sw',f3,f4⟩:=SlS.turn 37 hwh sw
 obtain⟨sf',f5,f6⟩:=SlS.turn 35 (show flL exU 1 2 (exU.length-1)=[wl 4] from ZuL) sf
 have he:nrmE (mpN toU nmU nmU.length)=0:=Zr5
 rw[show vSl sn=vSl sn' from f1.symm,show mS 46 sn=mS 46 sn' from f2.symm]
 simp only[show nrmE (mpN toU [⟨⟨wl 2,wl 3,true,true⟩,5⟩,⟨⟨Zah,wl 2,false,false⟩,5⟩] ([⟨⟨wl 2,wl 3,true,true⟩,5⟩,⟨⟨Zah,wl 2,false,false⟩,5⟩]:List PU).length)=0 from Zr5,<-f3,<-f4,<-f5,<-f6,Option.getD_some,Option.isSome_some]
 rcases sx.cases 46 with⟨y0,y1,y2⟩|⟨bx,cx,spx,hcx,y1,y2,yne⟩
 ·cases y0
 rcases sw'.cases 37 with⟨z0,z1,z2⟩|⟨bw,cw,spw,hcw,z1,z2,zne⟩
 ·cases z0
 rcases sf'.cases 35 with⟨x0,x1,x2⟩|⟨bf,cf,spf,hcf,x1,x2,xne⟩
 ·cases x0
 rcases sn'.cases 46 with⟨v0,v1,v2⟩|⟨bm,cm,spm,hcm,v1,v2,vne⟩
 ·cases v0
 simp only[y1,y2,z1,z2,x1,x2,v1,v2,Wf,Wg]
 have hLx:∀L [h:AtC w L bx (row rP exU spx) 46],LstC w L (.slice (some ⟨bx,0,none⟩) exU.length cx) PU rP exU:=fun L h=>⟨fun w' hw'=>by
  obtain⟨fz,hb⟩:=h.out w' hw'
  exact ZbL (c:=cx) hb hcx.1⟩
 have g1:(1:Int)<([kI0,kI2].length:Nat):=by decide
 have g2:(2:Int)<(exU.length:Nat):=by decide
 have g3:(0:Int)<([wl 4].length:Nat):=by decide
 have g4:(0:Int)<([u].length:Nat):=by simp
 have d1:((([kI0,kI2]:List Za).length:Nat):Int)=2:=rfl
 have d2:gi [kI0,kI2] 1=(gi exU 2).In:=rfl
 have d3:((([wl 4]:List Rl).length:Nat):Int)=1:=rfl
 have d4:gi [wl 4] 0=wl 4:=rfl
 have d5:((([u]:List PU).length:Nat):Int)=1:=rfl
 have d6:(gi [u] 0).In.OpenTo=true:=ho
 have d7:(((cmI' (lbL exU)).length:Nat):Int)=3:=by rw[ZuU];rfl
 (refine ZB (.v [0,1,2,3,4,5,6,7,8,9,10,11,12,13,14,15,16,17,18,19,20,21,22,23,24,25,26,27,28,29,30,31,32,33,34,35,36,37,38,39,40,41,42,43,44,45,46,47,48,49,50,51,52,53,54] (.e1 55 (.v [56,57,58] (.e1 59 (.fin))))) ([⟨bm,row rP [u] spm,46⟩,⟨bf,row Zv [wl 4] spf,35⟩,⟨bw,row rI [kI0,kI2] spw,37⟩,⟨bx,row rP exU spx,46⟩]) (h:=?_);refine wkX ?_)
 (repeat(first|refine wkH ?_|(refine tC rfl rfl ?_ ?_;focus(first|exact p5|decide))))
 try simp only[Wc (rfl:(0:Int)=0)]
 (repeat(first|refine wkH ?_|(refine tC rfl rfl ?_ ?_;focus(first|exact p5|decide))))
 try simp only[Wc (rfl:(2:Int)=2)]
 (repeat(first|refine wkH ?_|(refine tC rfl rfl ?_ ?_;focus(first|exact p5|decide))))
 try simp only[Wc d1]
 (repeat(first|refine wkH ?_|(refine tC rfl rfl ?_ ?_;focus(first|exact p5|decide))))
 try simp only[Wc d2]
 (repeat(first|refine wkH ?_|(refine tC rfl rfl ?_ ?_;focus(first|exact p5|decide))))
 try simp only[Wc d3]
 (repeat(first|refine wkH ?_|(refine tC rfl rfl ?_ ?_;focus(first|exact p5|decide))))
 try simp only[Wc d4]
 (repeat(first|refine wkH ?_|(refine tC rfl rfl ?_ ?_;focus(first|exact p5|decide))))
 try simp only[Wc d5]
 (repeat(first|refine wkH ?_|(refine tC rfl rfl ?_ ?_;focus(first|exact p5|decide))))
 try simp only[d6]
 (repeat(first|refine wkH ?_|(refine tC rfl rfl ?_ ?_;focus(first|exact p5|decide))))
 repeat(first|(refine wkT ?_;intros)|(refine tC rfl rfl ?_ ?_;focus(exact p3))|(refine uC rfl rfl ?_ ?_;focus(exact p3))|(refine eN rfl rfl ?_ ?_;(focus(exact p3));intro _;(try simp only[Wf,Wg,Wh])))
 try simp only[Wc d7]
 repeat(refine wkT ?_;intros)
 repeat(refine wkB ?_;intros)
 exact rtT rfl rfl
instance Zuf :SpecC prog 13 [] (.bool true) True:=⟨fun _ w=>Zhd w⟩
end
section
structure LifP (op:Int)(a b:List PU):Prop where
 o:op=1\/op=2\/op=3\/op=4\/op=5
 a:MvP a
 b:MvP b
instance ZwT (w0:World)(L:List Blk)(op:Int)(v1 v2:Value)(a b:List PU)[h1:LstC w0 L v1 PU rP a][h2:LstC w0 L v2 PU rP b]:SpecR prog w0 L 46 [.int .i64 op,v1,v2] (SlS rP 21 (lfR op a b)) (fun q=>vSl q) (fun q=>mS 46 q) (LifP op a b):=⟨fun hp w hw=>ZiR op v1 v2 a b w hp.o (h1.out w hw) (h2.out w hw) hp.a.sh hp.b.sh (ZhU hp.a.sh hp.b.sh) hp.a.f hp.b.f⟩
end
end Go.Vt
namespace Go.Vt
open Go.RowKit Go.Proofs
open Go.Proofs.Tryz (prog)
attribute [local irreducible] movV
set_option maxHeartbeats 32000000 in
theorem lcompares_spec (v1 v2:Value)(l1 l2:List St)(y:Int)(w:World)(hy:0<=y/\y<=255)(hv1:ArgS w v1 rSt l1)(hv2:ArgS w v2 rSt l2)(hl1:l1.length<=9223372036854775807)(hl2:l2.length<=9223372036854775807)(hk1:∀x∈l1,StOk x)(hk2:∀x∈l2,StOk x):
  Calls prog 9 [v1,v2, .int .u8 y].toArray w (Ret (.bool true) w):=by
 have:=ArgC.mk hv1
 have:=ArgC.mk hv2
 have ha:=ZjC hk1
 have hb:=ZjC hk2
 refine Zb Tryz.func9 rfl Tryz.ntmps9 rfl ?_
 repeat(first|(refine wkB ?_;intros)|(refine wnM ?_ ?_;(focus(first|exact⟨hl1,hk1⟩|exact⟨hl2,hk2⟩));intros))
 rename_i r1 r2
 generalize movV l1=a at*
 generalize movV l2=b at*
 have na:=ha.nf.len
 have nb:=hb.nf.len
 have pI:a.length<=1048576/\SwOk (pIv a) []/\SwOk (whL a (y % 6) a.length) []:=⟨by omega,ZrT ha.nf,Zrg ha.nf _⟩
 repeat(first|(refine wkB ?_;intros)|(refine wnM ?_ ?_;(focus(exact pI));intros))
 rename_i s9 b9
 obtain⟨d9,t9⟩:=s9
 dsimp only
 simp only[List.append_assoc]
 have p3:LifP 3 a b:=⟨by decide,ha,hb⟩
 have p4:LifP 4 a b:=⟨by decide,ha,hb⟩
 obtain⟨pC,pB⟩:=ZqW ha hb
 obtain⟨pD,pE⟩:=ZqH ha hb
 have hio:=ZhA ha.nf
 have hwo:=Zhl ha.nf (y % 6)
 have hwl:=ZbE a (y % 6) a.length
 have n1:a.length<=1048576:=by omega
 have q1:(inL a).length<=1024/\∀i∈inL a,IvOk B28 i:=⟨by omega,fun i hi=>(hio.1 i hi).mono (by decide)⟩
 have q2:a.length<=1024/\∀i∈whL a (y % 6) a.length,IvOk B28 i:=⟨by omega,fun i hi=>(hwo.1 i hi).mono (by decide)⟩
 have e1:=ZrE ha.nf
 have e2:whR a (y % 6)=nrmS (whL a (y % 6) a.length):=Zqy ha.nf _
 have l1:(nrmS (inL a)).length<=1048576:=by have:=ZbO (inL a);omega
 have l2:(nrmS (whL a (y % 6) a.length)).length<=1048576:=by have:=ZbO (whL a (y % 6) a.length);omega
 have q3:(pDom a).length<=1048576/\(nrmS (inL a)).length<=1048576:=⟨by rw[e1];exact l1,l1⟩
 have q4:(whR a (y % 6)).length<=1048576/\(nrmS (whL a (y % 6) a.length)).length<=1048576:=⟨by rw[e2];exact l2,l2⟩
 (refine ZB (.v [0,1,2,3,5,6] (.e1 4 (.e1 7 (.e1 8 (.v [9,10,11,12,14,15] (.e1 13 (.e1 16 (.e1 17 (.v [18,19,20,21,22] (.e1 23 (.e1 24 (.e1 25 (.v [26,27,28,29,30,31,32,33] (.e1 34 (.e1 35 (.v [36] (.e1 37 (.fin)))))))))))))))))) ([⟨b9,ZM ⟨slOf d9,slOf t9⟩,80⟩]) (h:=?_);refine wkX ?_)
 (repeat(refine wkH ?_))
 repeat(first|(refine wkT ?_;intros)|(refine tC rfl rfl ?_ ?_;focus(first|exact pC|exact p3))|(refine uC rfl rfl ?_ ?_;focus(first|exact pC|exact p3))|(refine eN rfl rfl ?_ ?_;(focus(first|exact pC|exact p3));intro _;(try simp only[Wf,Wg,Wh])))
 rename_i s u
 obtain⟨s1,s2⟩:=s
 dsimp only
 simp only[List.append_assoc,Wf]
 repeat(first|(refine wkT ?_;intros)|(refine tC rfl rfl ?_ ?_;focus(first|exact pB|exact pD|exact p4))|(refine uC rfl rfl ?_ ?_;focus(first|exact pB|exact pD|exact p4))|(refine eN rfl rfl ?_ ?_;(focus(first|exact pB|exact pD|exact p4));intro _;(try simp only[Wf,Wg,Wh])))
 rename_i s u'
 obtain⟨s3,s4⟩:=s
 dsimp only
 simp only[List.append_assoc,Wf]
 repeat(first|(refine wkT ?_;intros)|(refine tC rfl rfl ?_ ?_;focus(first|exact pE|exact n1|exact q1|exact q3))|(refine uC rfl rfl ?_ ?_;focus(first|exact pE|exact n1|exact q1|exact q3))|(refine eN rfl rfl ?_ ?_;(focus(first|exact pE|exact n1|exact q1|exact q3));intro _;(try simp only[Wf,Wg,Wh])))
 simp only[Wc e1]
 repeat(first|(refine wkT ?_;intros)|(refine tC rfl rfl ?_ ?_;focus(first|exact q2|exact q4|exact⟨by omega,by omega⟩))|(refine uC rfl rfl ?_ ?_;focus(first|exact q2|exact q4|exact⟨by omega,by omega⟩))|(refine eN rfl rfl ?_ ?_;(focus(first|exact q2|exact q4|exact⟨by omega,by omega⟩));intro _;(try simp only[Wf,Wg,Wh])))
 simp only[Wc e2]
 repeat(refine wkB ?_;intros)
 exact rtT rfl rfl
end Go.Vt
namespace Go.Proofs.YtcgkgdgpdpihmaaGreatDoor
open Go.ChangeShapes Go.WideShapes Go.ChangeAt Go.RowKit Go.Deep
def cpsArgs :Array Value:=#[.slice none 0 0, .slice none 0 0, .int .u8 0]
theorem Zqm (os:Os)(args:Array Value):laidMet Tryz.prog Rows.movinglabelComparesRow.laid ((laidWorld os).forCall (fun _ _=>0) ⟨#[],args,[]⟩).memory:=
 laidMet_of_run3 8 (by kernel_rfl) (by kernel_rfl) (by kernel_rfl)
theorem ZlF (os:Os){H:Type}(enc:TypeId×Value->H):∃places,DataW.whole enc Tryz.prog ((laidWorld os).forCall (fun _ _=>0) ⟨#[],cpsArgs,[]⟩).memory Tryz.f9.params.toList Rows.movinglabelComparesSpec.vars false cpsArgs.toList 8=some ([.nil, .nil, .lit (.int .u8 0)],[],places):=
 ⟨[],by kernel_rfl⟩
theorem ZhY (H:Type)(enc:TypeId×Value->H)(W:World)(base:Nat)(args:Array Value)(ds gs:List (DataW H))(before:List MemPlace)
  (hval:∀(j:Nat) t v,Tryz.f9.params[j]? =some t->args[j]? =some v->Value.okWide Tryz.prog W .any base t v)
  (hW:DataW.Whole enc Tryz.prog Tryz.f9.params.toList Rows.movinglabelComparesSpec.vars false W args.toList ds gs before):
  Calls Tryz.prog 9 args W fun e W'=>∃v,e= .returned v/\Rows.movinglabelComparesSpec.post enc Tryz.prog Tryz.f9 false true false false W args v W':=by
 have hW':=hW
 obtain⟨p,q,hA0,hV,rfl,hfz,hnd⟩:=hW
 have hA:DataW.TrodAll enc Tryz.prog W 0 (fun _=>true) true Tryz.f9.params.toList args.toList ds p:=hA0
 rw[Tryz.params9] at hA hval
 obtain⟨v0,vs0,d0,ds0,p0,q0,hargs0,rfl,rfl,h0,r0⟩:=trodAll_cons hA
 obtain⟨v1,vs1,d1,ds1,p1,q1,hargs1,rfl,rfl,h1,r1⟩:=trodAll_cons r0
 obtain⟨v2,vs2,d2,ds2,p2,q2,hargs2,rfl,rfl,h2,r2⟩:=trodAll_cons r1
 subst hargs2
 subst hargs1
 obtain⟨rfl,rfl,rfl⟩:=trodAll_nil r2
 obtain rfl:args=#[v0,v1,v2]:=by cases args;simp_all
 obtain⟨rfl,rfl⟩:=trodVars_none hV
 clear hA0
 simp only[List.append_nil] at hW'
 have hlt:∀x∈p0++(p1++(p2)),x.block<W.heap.size:=fun x hx=>by simpa using hW'.lt x hx
 have h0k:=h0
 have h1k:=h1
 have h2k:=h2
 obtain⟨fuel0,hf0⟩:=h0
 obtain⟨ws0,hws0,hok0,hlen0⟩:=Zhi (okWide_slice Tryz.underlying23 (hval 0 23 v0 rfl rfl)) hf0
 obtain⟨fuel1,hf1⟩:=h1
 obtain⟨ws1,hws1,hok1,hlen1⟩:=Zhi (okWide_slice Tryz.underlying23 (hval 1 23 v1 rfl rfl)) hf1
 obtain⟨x2,rfl,g2⟩:=ZoU (hval 2 5 v2 rfl rfl) h2
 refine(Go.Vt.lcompares_spec v0 v1 ws0 ws1 x2 W g2 hws0 hws1 hlen0 hlen1 hok0 hok1).mono fun e' W' ⟨he',⟨hb,_⟩⟩=>?_
 subst he'
 exact⟨_,rfl,⟨_,_,_,[],_,[],hW',trodAll_mk1 (shut_bool Tryz.underlying4 _),trodAll_mk3 (Below.trod rlaidOut (by kernel_rfl) (of_decide_eq_true (by kernel_rfl)) h0k hb (fun x hx=>hlt x (List.mem_append_left _ hx))) (Below.trod rlaidOut (by kernel_rfl) (of_decide_eq_true (by kernel_rfl)) h1k hb (fun x hx=>hlt x (List.mem_append_right _ (List.mem_append_left _ hx)))) (Below.trod rlaidOut (by kernel_rfl) (of_decide_eq_true (by kernel_rfl)) h2k hb (fun x hx=>hlt x (List.mem_append_right _ (List.mem_append_right _ (hx))))),(by first|rfl|(simp;done)),hb.frame _,fun h=>by cases h⟩⟩
theorem cps_lifted (os:Os)(started:os.Started)(H:Type)(enc:TypeId×Value->H)(F:Stop.Interp):
  ReturnsInHanded {} Tryz.checked os 9 .any ((OpenSpec.ofChange Rows.movinglabelComparesSpec).preRow enc Tryz.prog Tryz.f9 Rows.movinglabelComparesRow.domain false Rows.movinglabelComparesRow.laid) (((OpenSpec.ofChange Rows.movinglabelComparesSpec).at F).post enc Tryz.prog Tryz.f9 false true false false):=by
 obtain⟨places,hx⟩:=ZlF os enc
 refine returnsInHanded_of_row (C:=Tryz.checked) (s:=OpenSpec.ofChange Rows.movinglabelComparesSpec) rown started (by kernel_rfl) Tryz.func9
  (witness_row_at (enc:=enc) (C:=Tryz.checked) false (laidWorld os) cpsArgs rfl (by kernel_rfl) (by kernel_rfl) (by kernel_rfl)
   (OpenSpec.preRow_of_cond 8 hx (by kernel_rfl) (fun k hk=>by cases hk) (by kernel_rfl) (Zqm os _))) ?_
 intro W base args ds gs before hval hW _ _ _ _ _ _
 exact ZhY H enc W base args ds gs before hval hW
end Go.Proofs.YtcgkgdgpdpihmaaGreatDoor
