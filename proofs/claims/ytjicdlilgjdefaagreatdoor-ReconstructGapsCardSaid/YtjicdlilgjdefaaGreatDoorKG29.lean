/- that the gaps between reports are those of the chain (part 29 of 32.) Conditions: those that each statement names. -/
import Derived.Test.YtjicdlilgjdefaaGreatDoorKG12
import Derived.Test.YtjicdlilgjdefaaGreatDoorKG26
import Derived.Test.YtjicdlilgjdefaaGreatDoorKG28
set_option linter.unusedSimpArgs false
set_option linter.unusedVariables false
set_option maxHeartbeats 2000000
set_option maxRecDepth 100000
namespace Go.Vt
open Go.RowKit Go.Proofs
open Go.Proofs.Tryz (prog)
section
structure PtC (v1 v2:Value)(m n k:Nat) where
 v:Value
 mm:List Blk
 fm:∃p c,v= .slice p (dI k).length c
 r:∀{w0 w':World},ArgS w' v1 (eI .i64) (dI m)->ArgS w' v2 (eI .i64) (dI n)->Own w0 mm w'->ArgS w' v (eI .i64) (dI k)
instance (priority :=low) ptcLst {w0:World}{L:List Blk}{v1 v2:Value}{m n k:Nat}(s:PtC v1 v2 m n k)[h1:LstC w0 L v1 Int (eI .i64) (dI m)][h2:LstC w0 L v2 Int (eI .i64) (dI n)][h:SblC s.mm L]:LstC w0 L s.v Int (eI .i64) (dI k):=⟨fun w hw=>s.r (h1.out w hw) (h2.out w hw) (hw.sub h.out)⟩
theorem ZuQ {α:Type}{enc:α->Array Value}{k:Nat}{xs:List α}(s:FlS enc k xs):∃p c,vF s= .slice p xs.length c:=by
 rcases s.cases 0 with⟨rfl,h1, -⟩|⟨b,c,sp,hc,h1, -⟩
 ·exact⟨none,0,h1⟩
 ·exact⟨_,_,h1⟩
def PtC.fl (v1 v2:Value)(m n:Nat){k:Nat}(f:FlS (eI .i64) 1 (dI k)):PtC v1 v2 m n k:=⟨vF f,mF 3 f,ZuQ f,fun _ _ hw=>f.reads 3 hw⟩
set_option maxHeartbeats 8000000 in
theorem ZjJ (v1 v2:Value)(m n:Nat)(w:World)(h1:ArgS w v1 (eI .i64) (dI m))(h2:ArgS w v2 (eI .i64) (dI n))(hl:(dI m).length<=1073741824/\(dI n).length<=1073741824):
  Calls prog 313 [v1,v2].toArray w (RetM (PtC v1 v2 m n (Nat.gcd m n)) (fun s=>s.v) (fun s=>s.mm) w):=by
 have hc1:=fun L=>h1.lst L
 have hc2:=fun L=>h2.lst L
 refine Zg Tryz.func313 rfl Tryz.ntmps313 rfl ?_
 repeat(refine wkM ?_;intros)
 refine Zm (S:=(m':Nat)×(n':Nat)×PtC v1 v2 m n m'×PtC v1 v2 m n n') (fun s=>Nat.gcd s.1 s.2.1=Nat.gcd m n/\(dI s.1).length<=1073741824/\(dI s.2.1).length<=1073741824) (fun s=>[(0,s.2.2.1.v),(1,s.2.2.2.v)]) (fun s=>s.2.2.1.mm++s.2.2.2.mm) (fun s=>s.2.1) ⟨m,n,⟨v1,[],by obtain⟨p,c,e⟩:=h1.form;exact⟨p,c,e⟩,fun h _ _=>h⟩,⟨v2,[],by obtain⟨p,c,e⟩:=h2.form;exact⟨p,c,e⟩,fun _ h _=>h⟩⟩ ⟨rfl,hl.1,hl.2⟩ sbB slB (fun s hs=>?_)
 obtain⟨m',n',a,b⟩:=s
 obtain⟨hg,hlm,hln⟩:=hs
 simp only at hg hlm hln⊢
 have hb:∀L,[SblC b.mm L]->LstC w L b.v Int (eI .i64) (dI n'):=fun L i=>inferInstance
 have hpre:0<n'->(((dI m').length<=1073741824/\(dI n').length<=1073741824)/\0<n'):=fun h=>⟨⟨hlm,hln⟩,h⟩
 obtain⟨pb,cb,eb⟩:=b.fm
 rw[eb] at hb
 simp only[eb]
 repeat(refine wkM ?_;intros)
 refine Zl rfl (fun h=>?_) (fun h=>?_)
 ·have hn0:0<n':=by
   have h3:=Wa h
   rcases Nat.eq_zero_or_pos n' with h0|h0
   ·subst h0
    simp[Zia] at h3
   ·exact h0
  have hpr:=hpre hn0
  repeat(first|(refine wkM ?_;intros)|(refine wnM ?_ ?_;(focus(exact hpr));intros))
  rename_i d
  obtain⟨dq,dr,dal⟩:=d
  have hr1:=Nat.mod_lt m' hn0
  cases dr with
  |none=>
   have hlt:=dal rfl
   simp only[DvR.rv,DvR.rm,Wh,Wg]
   rw[<-eb]
   refine Zjy (M:=b.mm++a.mm) (L':=a.mm++b.mm) suB List.perm_append_comm ?_
   exact Zh ⟨n',m',b,a⟩ ⟨by rw[<-hg];exact Nat.gcd_comm _ _,hln,hlm⟩ sbB (Wj _) hlt
  |some f=>
   simp only[DvR.rv,DvR.rm]
   rw[<-eb]
   refine Zjy (M:=b.mm++mF 3 f) (L':=mF 3 f++b.mm) (by simp only[List.append_assoc];exact suB) List.perm_append_comm ?_
   exact Zh ⟨n',m' % n',b,PtC.fl v1 v2 m n f⟩ ⟨by rw[<-hg,Nat.gcd_comm m' n',Nat.gcd_rec n' m'];exact Nat.gcd_comm _ _,hln,Wi (Zar.2 (Nat.lt_trans hr1 (Zar.1 (Wl _)))) hln⟩ sbB (Wj _) hr1
 ·have hn0:n'=0:=by
   have h3:=Wb h
   rcases Nat.eq_zero_or_pos n' with h0|h0
   ·exact h0
   ·have:=List.length_pos_iff.2 (fun e=>(Nat.pos_iff_ne_zero.1 h0) (ZeX.1 e))
    omega
  subst hn0
  rw[Nat.gcd_zero_right] at hg
  subst hg
  repeat(refine wkM ?_;intros)
  exact Zy rfl rfl (fun w hw=>⟨a,rfl,hw.sub suB⟩)
instance ZzB (w0:World)(L:List Blk)(v1 v2:Value)(m n:Nat)[h1:LstC w0 L v1 Int (eI .i64) (dI m)][h2:LstC w0 L v2 Int (eI .i64) (dI n)]:SpecR prog w0 L 313 [v1,v2] (PtC v1 v2 m n (Nat.gcd m n)) (fun s=>s.v) (fun s=>s.mm) ((dI m).length<=1073741824/\(dI n).length<=1073741824):=⟨fun hl w hw=>ZjJ v1 v2 m n w (h1.out w hw) (h2.out w hw) hl⟩
theorem ZAe (n:Nat):tzN (dI n) (dI n).length=(dI n).length:=by
 have h1:=Zmg (Zcj n)
 rw[Zbk,Int.toNat_natCast] at h1
 have h2:=Zhp (dI n) (dI n).length
 have h3:=congrArg List.length h1
 rw[Wt] at h3
 omega
def whB (xs:List Int)(m:Nat):List Int:=List.replicate (xs.length-m) 0++(xs.take m).reverse
theorem Zua (xs:List Int){m:Nat}(h:m<=xs.length):(whB xs m).length=xs.length:=by
 unfold whB
 rw[Wp,List.length_replicate,List.length_reverse,Wt]
 omega
theorem ZrH {xs:List Int}{m:Nat}(h:m<xs.length):(whB xs m).set (xs.length-1-m) (gi xs (m:Int))=whB xs (m+1):=by
 unfold whB
 have e:List.replicate (xs.length-m) (0:Int)=List.replicate (xs.length-(m+1)) 0++[0]:=by
  rw[<-List.replicate_succ']
  congr 1
  omega
 have e2:xs.length-1-m=(List.replicate (xs.length-(m+1)) (0:Int)).length:=by rw[List.length_replicate];omega
 rw[e,e2,List.append_assoc,List.set_append_right _ _ (Wl _),Nat.sub_self,List.singleton_append,List.set_cons_zero,Wn h,List.reverse_append,Zj h]
 rfl
set_option maxHeartbeats 8000000 in
theorem ZlX (v:Value)(n:Nat)(b:Bool)(w:World)(hv:ArgS w v (eI .i64) (dI n))(hl:(dI n).length<=1099511627776):
  Calls prog 315 [v, .bool b].toArray w (Ret (.agg (ZM ⟨b&&decide (n≠0),mag n⟩)) w):=by
 have hc1:=fun L=>hv.lst L
 have h8:=Zcj n
 have htz:=ZAe n
 obtain⟨p,cp,rfl⟩:=hv.form
 have hl':(dI n).length<=1125899906842624:=by omega
 have htk:tkV (tzN (dI n) (dI n).length) (.slice p (dI n).length cp)= .slice p (dI n).length cp:=by rw[htz];rfl
 refine Zg Tryz.func315 rfl Tryz.ntmps315 rfl ?_
 repeat(first|(refine wkM ?_;intros)|(refine wnM ?_ ?_;(focus(exact hl'));intros))
 simp only[htk]
 repeat(refine wkM ?_;intros)
 refine sM rfl rfl ⟨by omega,by omega⟩ (fun b5=>?_)
 repeat(refine wkM ?_;intros)
 rename_i b4
 have hw0:whB (dI n) 0=List.replicate (dI n).length 0:=by unfold whB;simp
 refine Zm (S:=Nat) (fun m=>m<=(dI n).length) (fun m=>[(0, .slice p (dI n).length cp),(1, .bool b),(4, .pointer (some ⟨b4,0,none⟩)),(5, .slice (some ⟨b5,0,none⟩) (dI n).length (dI n).length),(6, .int .i64 (m:Nat))]) (fun m=>[⟨b5,row (eI .u8) (whB (dI n) m) [],5⟩,⟨b4,ZM (I 0),52⟩]) (fun m=>(dI n).length-m) 0 (Wm _) sbB (by rw[hw0];exact slB) (fun m hm=>?_)
 have hwl:=Zua (dI n) hm
 repeat(refine wkM ?_;intros)
 refine Zl rfl (fun h=>?_) (fun h=>?_)
 ·have hlt:m<(dI n).length:=by have:=Wa h;omega
  have hne:dI n≠[]:=fun h0=>by rw[h0] at hlt;simp at hlt
  obtain⟨bw,ow,cw,hvw,hcw,hrow⟩:=hv.blk (k:=0) hne []
  injection hvw with x1 x2 x3
  subst x1 x3
  have hr1:∀L,RowC w L bw ow Int (eI .i64) (dI n):=fun L=>⟨fun w' hw'=>hrow.out w' (hw'.sub (Wk _))⟩
  have hg:=h8.gi (i:=(m:Int))
  have hst:=ZrH hlt
  have e1:((dI n).length:Int)-1-(m:Nat)=(((dI n).length-1-m:Nat):Int):=by omega
  repeat(refine wkM ?_;intros)
  simp only[e1]
  repeat(refine wkM ?_;intros)
  simp only[Int.toNat_natCast,hst]
  repeat(refine wkO ?_;intros)
  exact Zh (m+1) hlt sbB slB (by omega)
 ·obtain rfl:m=(dI n).length:=by have:=Wb h;omega
  have hfin:whB (dI n) (dI n).length=(dI n).reverse:=by unfold whB;simp
  rw[hfin]
  have hneg:(b&&decide (n≠0))=(b&&decide ((0:Int)<((dI n).length:Nat))):=by
   congr 1
   refine decide_eq_decide.2 ⟨fun h0=>?_,fun h0 h1=>?_⟩
   ·have:=List.length_pos_iff.2 (fun e=>h0 (ZeX.1 e))
    omega
   ·rw[ZeX.2 h1] at h0
    simp at h0
  have hcv:∀(i:Nat)(u:UInt8),(le n).reverse[i]? =some u->(row (eI .u8) (dI n).reverse [])[0+i]? =some (.int .u8 u.toNat):=fun i u hu=>by
   have e:row (eI .u8) (dI n).reverse []=((le n).reverse.map fun x:UInt8=>Value.int .u8 (x.toNat:Int)).toArray:=by
    unfold row dI
    rw[<-List.map_reverse,Wh]
    congr 1
    generalize (le n).reverse=l
    induction l with
    |nil=>rfl
    |cons x l ih=>rw[List.map_cons,List.map_cons,<-ih];rfl
   rw[e,Nat.zero_add,List.getElem?_toArray,List.getElem?_map,hu]
   rfl
  have hbl:(le n).reverse.length=(dI n).length:=by unfold dI;simp
  cases b
  ·repeat(refine wkM ?_;intros)
   refine jq (ZcL (bs:=(le n).reverse) rfl hbl hcv) rfl rfl ?_
   repeat(refine wkM ?_;intros)
   exact rtC rfl rfl
  ·rw[hneg]
   repeat(refine wkM ?_;intros)
   refine jq (ZcL (bs:=(le n).reverse) rfl hbl hcv) rfl rfl ?_
   repeat(refine wkM ?_;intros)
   exact rtC rfl rfl
instance ZCl (w0:World)(L:List Blk)(v:Value)(n:Nat)(b:Bool)[h:LstC w0 L v Int (eI .i64) (dI n)]:SpecM prog w0 L 315 [v, .bool b] (.agg (ZM ⟨b&&decide (n≠0),mag n⟩)) ((dI n).length<=1099511627776):=⟨fun hl w hw=>ZlX v n b w (h.out w hw) hl⟩
end
section
def flH {α:Type}{enc:α->Array Value}{k:Nat}{xs:List α}(s:FlS enc k xs):Sl:=match s.s with
 |none=>⟨none,0,0⟩
 |some t=>⟨some ⟨t.1,0,none⟩,xs.length,t.2.1⟩
theorem Zec {α:Type}{enc:α->Array Value}{k:Nat}{xs:List α}(s:FlS enc k xs):vF s= .slice (flH s).a (flH s).len (flH s).cap:=by
 obtain⟨s,h1,h2⟩:=s
 cases s with
 |none=>
  have:=h1 rfl
  subst this
  rfl
 |some t=>rfl
theorem Zv9 {α:Type}{enc:α->Array Value}{k:Nat}{xs ys:List α}{s:FlS enc k xs}{t:FlS enc k ys}(h:vF s=vF t):flH s=flH t:=by
 rw[Zec,Zec] at h
 injection h with e1 e2 e3
 rcases hs:flH s with⟨a,l,c⟩
 rcases ht:flH t with⟨a',l',c'⟩
 rw[hs,ht] at e1 e2 e3
 dsimp only at e1 e2 e3
 rw[e1,e2,e3]
instance (priority :=low) lstFH {α:Type}{enc:α->Array Value}{k:Nat}{xs:List α}(w0:World)(L:List Blk)(s:FlS enc k xs)[h:LstC w0 L (vF s) α enc xs]:LstC w0 L (.slice (flH s).a (flH s).len (flH s).cap) α enc xs:=by
 rw[<-Zec]
 exact h
instance (priority :=30000) ZHY {xs ys:List Int}(b:Bool)(f:FlS (eI .i64) 1 xs)(g:FlS (eI .i64) 1 ys):BdC prog 396 [(0, .bool b),(1,vF f),(2,vF g)] (.agg (Zo ⟨b,flH f,flH g⟩)):=by
 rw[Zec,Zec]
 have:∀a l c a' l' c',BdC prog 396 [(0, .bool b),(1, .slice a l c),(2, .slice a' l' c')] (.agg (Zo ⟨b,⟨a,l,c⟩,⟨a',l',c'⟩⟩)):=fun a l c a' l' c'=>inferInstance
 exact this _ _ _ _ _ _
instance (priority :=30000) ZFj {xs:List Int}(b:Bool)(f:FlS (eI .i64) 1 xs)(h:Sl):LdC prog 106 (Zo ⟨b,flH f,h⟩) 1 (vF f):=by
 rw[Zec]
 have:∀a l c,LdC prog 106 (Zo ⟨b,⟨a,l,c⟩,h⟩) 1 (.slice a l c):=fun a l c=>inferInstance
 exact this _ _ _
instance (priority :=30000) ZDh {xs:List Int}(b:Bool)(f:FlS (eI .i64) 1 xs)(h:Sl):LdC prog 106 (Zo ⟨b,h,flH f⟩) 2 (vF f):=by
 rw[Zec]
 have:∀a l c,LdC prog 106 (Zo ⟨b,h,⟨a,l,c⟩⟩) 2 (.slice a l c):=fun a l c=>inferInstance
 exact this _ _ _
theorem Zo8 :dI 1=[1]:=by rw[Zf8 (by decide)];rfl
theorem ZpI (k:Nat):((dI k).length=1/\gi (dI k) (0:Int)=1)↔k=1:=by
 constructor
 ·rintro⟨h1,h2⟩
  have h3:=Zbk k
  obtain⟨d,hd⟩:=List.length_eq_one_iff.1 h1
  rw[hd] at h2 h3
  have h4:d=1:=h2
  subst h4
  simp[vgI] at h3
  omega
 ·rintro rfl
  rw[Zo8]
  exact⟨rfl,rfl⟩
def sgI (b:Bool)(m:Nat):Int:=if b then-(m:Int) else m
theorem canonQ (b:Bool)(m:Nat){n:Nat}(hn:0<n):(⟨⟨b&&decide (m / Nat.gcd m n≠0),mag (m / Nat.gcd m n)⟩,⟨false,mag (if n / Nat.gcd m n=1 then 0 else n / Nat.gcd m n)⟩⟩:Z1)=Q (Rat.divInt (sgI b m) n):=by
 obtain⟨h1,h2⟩:=ZiZ (x:=sgI b m) (y:=(n:Int)) (by omega)
 have hg:Int.gcd (sgI b m) n=Nat.gcd m n:=by
  unfold Int.gcd sgI
  cases b <;> simp
 rw[hg] at h1 h2
 have hd:(Rat.divInt (sgI b m) n).den=n / Nat.gcd m n:=by
  rw[<-Int.natCast_ediv] at h2
  omega
 have hnum:(Rat.divInt (sgI b m) n).num=sgI b (m / Nat.gcd m n):=by
  rw[h1]
  unfold sgI
  cases b
  ·simp
  ·simp only[if_true]
   rw[Int.neg_ediv_of_dvd (Int.natCast_dvd_natCast.2 (Nat.gcd_dvd_left m n)),Int.natCast_ediv]
 unfold Q I dn
 rw[hnum,hd]
 generalize m / Nat.gcd m n=a
 have e1:(b&&decide (a≠0))=decide (sgI b a<0):=by
  unfold sgI
  cases b
  ·simp
  ·simp only[if_true,Bool.true_and]
   exact decide_eq_decide.2 ⟨fun h=>by omega,fun h=>by omega⟩
 have e2:(sgI b a).natAbs=a:=by
  unfold sgI
  cases b <;> simp
 rw[e1,e2]
 generalize n / Nat.gcd m n=d
 by_cases hk:d=1
 ·rw[if_pos hk,if_pos hk]
  rfl
 ·rw[if_neg hk,if_neg hk,Int.natAbs_natCast,We (show¬(d:Int)<0 by omega)]
set_option maxHeartbeats 8000000 in
theorem ZlY (b:Bool)(s1 s2:Sl)(m n:Nat)(w:World)(h1:ArgS w (vSlc s1) (eI .i64) (dI m))(h2:ArgS w (vSlc s2) (eI .i64) (dI n))(hl:((dI m).length<=1073741824/\(dI n).length<=1073741824)/\0<n):
  Calls prog 277 [.agg (Zo ⟨b,s1,s2⟩)].toArray w (Ret (vQ (Rat.divInt (sgI b m) n)) w):=by
 have hc1:=fun L=>h1.lst L
 have hc2:=fun L=>h2.lst L
 obtain⟨hl0,hn0⟩:=hl
 have hg0:0<Nat.gcd m n:=Nat.gcd_pos_of_pos_right m hn0
 have hgn:Nat.gcd m n<=n:=Nat.gcd_le_right m hn0
 have hgl:(dI (Nat.gcd m n)).length<=1073741824:=Wi (Zar.2 (Nat.lt_of_le_of_lt hgn (Zar.1 (Wl _)))) hl0.2
 have hp1:((dI m).length<=1073741824/\(dI (Nat.gcd m n)).length<=1073741824)/\0<Nat.gcd m n:=⟨⟨hl0.1,hgl⟩,hg0⟩
 have hp2:((dI n).length<=1073741824/\(dI (Nat.gcd m n)).length<=1073741824)/\0<Nat.gcd m n:=⟨⟨hl0.2,hgl⟩,hg0⟩
 have hcan:=canonQ b m hn0
 refine Zg Tryz.func277 rfl Tryz.ntmps277 rfl ?_
 repeat(first|(refine wkM ?_;intros)|(refine wnM ?_ ?_;(focus(exact hl0));intros))
 rename_i b1 b2 g d1 d2
 obtain⟨q1,r1,al1⟩:=d1
 obtain⟨q2,r2,al2⟩:=d2
 dsimp only
 have hk0:0<n / Nat.gcd m n:=Nat.div_pos hgn hg0
 have hkl:(dI (n / Nat.gcd m n)).length<=1073741824:=Wi (Zar.2 (Nat.lt_of_le_of_lt (Nat.div_le_self _ _) (Zar.1 (Wl _)))) hl0.2
 have hal:(dI (m / Nat.gcd m n)).length<=1073741824:=Wi (Zar.2 (Nat.lt_of_le_of_lt (Nat.div_le_self _ _) (Zar.1 (Wl _)))) hl0.1
 rcases q2.cases 3 with⟨x0, -, -⟩|⟨bb,cc,sp,hc,x1,x2⟩
 ·exact absurd (ZeX.1 x0) (by omega)
 simp only[x1,x2,List.append_assoc,Wf,Wg]
 refine Zd3 (S:={z:Bool // z=true↔n / Nat.gcd m n=1}) (fun _=>True) (fun z=>[(1, .pointer (some ⟨b1,0,none⟩)),(2, .pointer (some ⟨b2,0,none⟩)),(4,vF q1),(6, .slice (some ⟨bb,0,none⟩) (dI (n / Nat.gcd m n)).length cc),(35, .bool z.1)]) (fun _=>⟨bb,row (eI .i64) (dI (n / Nat.gcd m n)) sp,3⟩::(mF 3 q1++[⟨b2,Zu (Q 0),54⟩,⟨b1,Zo ⟨b,s1,s2⟩,396⟩])) ?_ (fun z _=>?_)
 ·by_cases c1:(dI (n / Nat.gcd m n)).length=1
  ·simp only[Wc (show(((dI (n / Nat.gcd m n)).length:Nat):Int)=1 by omega)]
   repeat(refine wkM ?_;intros)
   exact Zt ⟨decide (gi (dI (n / Nat.gcd m n)) (0:Int)=1),decide_eq_true_iff.trans (Iff.trans ⟨fun h=>⟨c1,h⟩,fun h=>h.2⟩ (ZpI (n / Nat.gcd m n)))⟩ trivial sbB suB
  ·simp only[We (show¬(((dI (n / Nat.gcd m n)).length:Nat):Int)=1 by omega)]
   repeat(refine wkM ?_;intros)
   exact Zt ⟨false,⟨(fun h=>by cases h),fun h=>absurd ((ZpI (n / Nat.gcd m n)).2 h).1 c1⟩⟩ trivial sbB suB
 generalize n / Nat.gcd m n=k at*
 generalize m / Nat.gcd m n=a at*
 obtain⟨z,hz⟩:=z
 simp only
 refine Zav (S:=FlS (eI .i64) 1 (dI (if k=1 then 0 else k))) (fun _=>True) (fun s=>[(1, .pointer (some ⟨b1,0,none⟩)),(2, .pointer (some ⟨b2,0,none⟩)),(4,vF q1),(6,vF s)]) (fun s=>mF 3 s++(mF 3 q1++[⟨b2,Zu (Q 0),54⟩,⟨b1,Zo ⟨b,s1,s2⟩,396⟩])) ?_ (fun s _=>?_)
 ·refine Zl rfl (fun h=>?_) (fun h=>?_)
  ·have hk1:=hz.1 h
   obtain⟨f,f1,f2⟩:∃f:FlS (eI .i64) 1 (dI (if k=1 then 0 else k)),vF f= .slice none 0 0/\mF 3 f=[]:=by
    rw[if_pos hk1]
    exact⟨⟨none,fun _=>rfl,fun t ht=>by cases ht⟩,rfl,rfl⟩
   repeat(refine wkM ?_;intros)
   exact Zt f trivial (by simp only[f1];exact sbB) (by simp only[f2,Wg];exact suB)
  ·have hk1:¬k=1:=fun h0=>by rw[hz.2 h0] at h;cases h
   obtain⟨f,f1,f2⟩:=q2.like (show dI (if k=1 then 0 else k)=dI k by rw[if_neg hk1])
   repeat(refine wkM ?_;intros)
   exact Zt f trivial (by simp only[f1,x1];exact sbB) (by simp only[f2,x2,Wf,Wg];exact suB)
 have hdl:(dI (if k=1 then 0 else k)).length<=1099511627776:=by
  split
  ·rw[Zia]
   exact Wm _
  ·omega
 have hal':(dI a).length<=1099511627776:=by omega
 repeat(first|(refine wkM ?_;intros)|(refine wnM ?_ ?_;(focus(first|exact hal'|exact hdl));intros))
 simp only[Bool.false_and,hcan]
 exact rtC rfl rfl
instance ZBz (w0:World)(L:List Blk)(b:Bool)(s1 s2:Sl)(m n:Nat)[h1:LstC w0 L (.slice s1.a s1.len s1.cap) Int (eI .i64) (dI m)][h2:LstC w0 L (.slice s2.a s2.len s2.cap) Int (eI .i64) (dI n)]:SpecM prog w0 L 277 [.agg (Zo ⟨b,s1,s2⟩)] (vQ (Rat.divInt (sgI b m) n)) (((dI m).length<=1073741824/\(dI n).length<=1073741824)/\0<n):=⟨fun hl w hw=>ZlY b s1 s2 m n w (h1.out w hw) (h2.out w hw) hl⟩
structure FrO (q:Rat) where
 n:FlS (eI .i64) 1 (dI q.num.natAbs)
 d:FlS (eI .i64) 1 (dI q.den)
def FrO.fr {q:Rat}(s:FrO q):Zas:=⟨decide (q.num<0),flH s.n,flH s.d⟩
def FrO.mem {q:Rat}(s:FrO q):List Blk:=mF 3 s.n++mF 3 s.d
set_option maxHeartbeats 8000000 in
theorem Zsn (q:Rat)(w:World)(hl:M q<=1073741824):
  Calls prog 275 [vQ q].toArray w (RetM (FrO q) (fun s=> .agg (Zo s.fr)) (fun s=>s.mem) w):=by
 have hpn:(I q.num).Mag.size<=1099511627776:=by
  have h1:mg q.num<=M q:=Nat.le_max_left _ _
  have h2:(I q.num).Mag.size=mg q.num:=rfl
  omega
 have hpd:(I (dn q)).Mag.size<=1099511627776:=by
  have h1:mg q.den<=M q:=Nat.le_max_right _ _
  have h2:(I (dn q)).Mag.size<=mg q.den:=by
   show(mag (dn q).natAbs).size<=(mag ((q.den:Nat):Int).natAbs).size
   unfold dn
   split
   ·rw[Int.natAbs_zero,Ze4]
    exact Wm _
   ·exact Wl _
  omega
 have e1:bN (I q.num).Mag=q.num.natAbs:=Zp2 _
 have e2:bN (I (dn q)).Mag=(dn q).natAbs:=Zp2 _
 have hd0:=q.den_pos
 refine Zg Tryz.func275 rfl Tryz.ntmps275 rfl ?_
 repeat(first|(refine wkM ?_;intros)|(refine wnM ?_ ?_;(focus(exact hpd));intros))
 rename_i b1 b2 f0
 refine Zav (S:=FlS (eI .i64) 1 (dI q.den)) (fun _=>True) (fun s=>[(1, .pointer (some ⟨b1,0,none⟩)),(2, .pointer (some ⟨b2,0,none⟩)),(3,vF s)]) (fun s=>mF 3 s++[⟨b2,Zo ZbB,396⟩,⟨b1,Zu (Q q),54⟩]) ?_ (fun s _=>?_)
 ·refine Zl rfl (fun h=>?_) (fun h=>?_)
  ·have h3:=Wa h
   rw[e2] at h3
   have h4:=ZeX.1 (List.eq_nil_of_length_eq_zero (show(dI (dn q).natAbs).length=0 by omega))
   have h5:q.den=1:=by
    unfold dn at h4
    split at h4
    ·assumption
    ·omega
   repeat(refine wkM ?_;intros)
   rename_i b3
   obtain⟨f,f1,f2⟩:=(FlS.one b3 1:FlS (eI .i64) 1 [(1:Int)]).like (show dI q.den=[1] by rw[h5,Zo8])
   rw[FlS.one_v] at f1
   exact Zt f trivial (by simp only[f1];exact sbB) (by simp only[f2];exact suB)
  ·have h3:=Wb h
   rw[e2] at h3
   have h5:(dn q).natAbs=q.den:=by
    unfold dn at h3⊢
    split
    ·rename_i h6
     rw[if_pos h6] at h3
     exact absurd rfl h3
    ·rfl
   obtain⟨f,f1,f2⟩:=f0.like (show dI q.den=dI (bN (I (dn q)).Mag) by rw[e2,h5])
   repeat(refine wkM ?_;intros)
   exact Zt f trivial (by simp only[f1];exact sbB) (by simp only[f2];exact suB)
 repeat(refine wkM ?_;intros)
 (refine ZX (.v [0,1,2,3,4,6] (.e1 5 (.v [7] (.e1 8 (.fin))))) ([⟨b1,Zu (Q q),54⟩]) (h:=?_);refine wkX ?_)
 (repeat(refine wkH ?_))
 repeat(first|(refine wkT ?_;intros)|(refine tC rfl rfl ?_ ?_;focus(exact hpn))|(refine uC rfl rfl ?_ ?_;focus(exact hpn))|(refine eN rfl rfl ?_ ?_;(focus(exact hpn));intro _;(try simp only[Wf,Wg,Wh])))
 rename_i fn
 obtain⟨f,f1,f2⟩:=fn.like (show dI q.num.natAbs=dI (bN (I q.num).Mag) by rw[e1])
 have f3:=Zv9 f1
 repeat(refine wkM ?_;intros)
 refine ZcH rfl rfl (fun w hw=>⟨⟨f,s⟩, ?_, ?_⟩)
 ·show Ending.returned _=Ending.returned (.agg (Zo ⟨decide (q.num<0),flH f,flH s⟩))
  rw[f3]
  rfl
 ·show Own _ (mF 3 f++mF 3 s) _
  rw[f2]
  exact hw.sub suB
instance ZKi (w0:World)(L:List Blk)(q:Rat):SpecR prog w0 L 275 [vQ q] (FrO q) (fun s=> .agg (Zo s.fr)) (fun s=>s.mem) (M q<=1073741824):=⟨fun hl w _=>Zsn q w hl⟩
theorem Zmo {z:Int}:mag z.natAbs=⟨#[]⟩↔z=0:=by
 have:(⟨#[]⟩:ByteArray)=mag 0:=rfl
 rw[this,ZhW]
 omega
theorem Zk9 (q:Rat){z:Bool}(h:z=decide (-q.num<0)):(⟨⟨z,mag q.num.natAbs⟩,I (dn q)⟩:Z1)=Q (-q):=by
 have e1:(-q).num= -q.num:=rfl
 have e2:dn (-q)=dn q:=rfl
 unfold Q
 rw[e2]
 congr 1
 unfold I
 rw[e1,h,Int.natAbs_neg]
instance ZB1 (x:Z1)(z:Bool):StC prog 4 (Zu x) 0 (.bool z) (Zu ⟨⟨z,x.Num.Mag⟩,x.Den⟩):=⟨by kernel_rfl,by kernel_rfl,by kernel_rfl,rfl⟩
instance ZIs (q:Rat):SpecC prog 233 [vQ q] (vQ (-q)) True:=⟨fun _ w=>by
 refine Zg Tryz.func233 rfl Tryz.ntmps233 rfl ?_
 have hN:(Q q).Num=⟨decide (q.num<0),mag q.num.natAbs⟩:=rfl
 have hD:(Q q).Den=I (dn q):=rfl
 have hM:=Zmo (z:=q.num)
 repeat(refine wkM ?_;intros)
 rcases Int.lt_trichotomy q.num 0 with c|c|c
 ·have hk:=Zk9 q (z:=false) (We (by omega)).symm
  have e:(Q q).Num.Neg=true:=Wc c
  simp only[e,Bool.not_true]
  repeat(refine wkM ?_;intros)
  simp only[hN,hD,hk]
  exact rtC rfl rfl
 ·have hk:=Zk9 q (z:=false) (We (by omega)).symm
  have e:(Q q).Num.Neg=false:=We (by omega)
  have e2:(Q q).Num.Mag=⟨#[]⟩:=hM.2 c
  simp only[e,Bool.not_false]
  repeat(refine wkM ?_;intros)
  simp only[Wc e2,Bool.not_true]
  repeat(refine wkM ?_;intros)
  simp only[hN,hD,hk]
  exact rtC rfl rfl
 ·have hk:=Zk9 q (z:=true) (Wc (by omega)).symm
  have e:(Q q).Num.Neg=false:=We (by omega)
  have e2:¬(Q q).Num.Mag=⟨#[]⟩:=fun h0=>by have:=hM.1 h0;omega
  simp only[e,Bool.not_false]
  repeat(refine wkM ?_;intros)
  simp only[We e2,Bool.not_false]
  repeat(refine wkM ?_;intros)
  simp only[hN,hD,hk]
  exact rtC rfl rfl⟩
instance ZCW (q:Rat):SpecC prog 229 [vQ q] (.int .i64 q.num.sign) True:=⟨fun _ w=>by
 have hM:=Zmo (z:=q.num)
 refine Zg Tryz.func229 rfl Tryz.ntmps229 rfl ?_
 repeat(refine wkM ?_;intros)
 rcases Int.lt_trichotomy q.num 0 with c|c|c
 ·have e:(Q q).Num.Neg=true:=Wc c
  have e2:¬(Q q).Num.Mag=⟨#[]⟩:=fun h0=>by have:=hM.1 h0;omega
  rw[Int.sign_eq_neg_one_of_neg c]
  simp only[We e2]
  repeat(refine wkM ?_;intros)
  simp only[e]
  repeat(refine wkM ?_;intros)
  exact rtT rfl rfl
 ·have e2:(Q q).Num.Mag=⟨#[]⟩:=hM.2 c
  rw[show q.num.sign=0 by rw[c];rfl]
  simp only[Wc e2]
  repeat(refine wkM ?_;intros)
  exact rtT rfl rfl
 ·have e:(Q q).Num.Neg=false:=We (by omega)
  have e2:¬(Q q).Num.Mag=⟨#[]⟩:=fun h0=>by have:=hM.1 h0;omega
  rw[Int.sign_eq_one_of_pos c]
  simp only[We e2]
  repeat(refine wkM ?_;intros)
  simp only[e]
  repeat(refine wkM ?_;intros)
  exact rtT rfl rfl⟩
end
section
instance (priority :=high) ofEnd {α:Type}{enc:α->Array Value}{k:Nat}{xs:List α}(T:TypeId)(s:FlS enc k xs):OwnF T s (mF T s) []:=⟨by rw[Wh]⟩
instance (priority :=low) sbpFr {q:Rat}(s:FrO q)(A L L1:List Blk)[h:BmC s.mem L L1][g:SbpC A L1]:SbpC (s.mem++A) L:=⟨by
 obtain⟨L',hp⟩:=g.out
 exact⟨L',h.out.trans (by rw[List.append_assoc];exact hp.append_left _)⟩⟩
instance (priority :=low) sbpFr0 {q:Rat}(s:FrO q)(L L1:List Blk)[h:BmC s.mem L L1]:SbpC s.mem L:=⟨L1,h.out⟩
theorem FrO.fr_eq {q:Rat}(s:FrO q):s.fr=⟨decide (q.num<0),flH s.n,flH s.d⟩:=rfl
theorem Zkh (z:Int):z=sgI (decide (z<0)) z.natAbs:=by
 unfold sgI
 by_cases h:z<0
 ·rw[if_pos (Wc h)]
  omega
 ·rw[if_neg (by simp[h])]
  omega
theorem Zms (b:Bool)(m n:Nat):sgI b m*(n:Int)=sgI b (m*n):=by
 unfold sgI
 cases b
 ·simp
 ·simp only[if_true]
  rw[Int.neg_mul,Int.natCast_mul]
theorem ZuI (b:Bool)(m n:Nat):sgI b m+sgI b n=sgI b (m+n):=by
 unfold sgI
 cases b
 ·simp
 ·simp only[if_true]
  omega
theorem Zl2 (b:Bool){m n:Nat}(h:n<=m):sgI b m+sgI (!b) n=sgI b (m-n):=by
 unfold sgI
 cases b
 ·simp only[Bool.not_false,if_true,Bool.false_eq_true,if_false]
  omega
 ·simp only[Bool.not_true,if_true,Bool.false_eq_true,if_false]
  omega
theorem ZvE (m n:Nat):0<=Lib.compareInt (m:Int) n↔n<=m:=by
 unfold Lib.compareInt
 split
 ·constructor
  ·intro h0;simp at h0
  ·omega
 ·split
  ·exact⟨fun _=>by omega,fun _=>by decide⟩
  ·exact⟨fun _=>by omega,fun _=>by decide⟩
theorem Zjs (z:Int):(dI z.natAbs).length=mg z:=by
 unfold dI mg
 rw[Ws,Zc9]
theorem Zj9 {m n a b:Nat}(h1:(dI m).length<=a)(h2:(dI n).length<=b):(dI (m*n)).length<=a+b:=Zar.2 (by
 have h3:=Zar.1 h1
 have h4:=Zar.1 h2
 rw[Nat.pow_add]
 exact Nat.mul_lt_mul'' h3 h4)
theorem ZwK {m n a:Nat}(h1:(dI m).length<=a)(h2:(dI n).length<=a):(dI (m+n)).length<=a+1:=Zar.2 (by
 have h3:=Zar.1 h1
 have h4:=Zar.1 h2
 rw[Nat.pow_succ]
 omega)
theorem Ztc {m n a:Nat}(h:m<=n)(h1:(dI n).length<=a):(dI m).length<=a:=Zar.2 (Nat.lt_of_le_of_lt h (Zar.1 h1))
set_option maxHeartbeats 8000000 in
theorem Zp5 (x y:Rat)(w:World)(hl:M x<=268435456/\M y<=268435456):
  Calls prog 230 [vQ x,vQ y].toArray w (Ret (vQ (x+y)) w):=by
 have hx:M x<=1073741824:=by omega
 have hy:M y<=1073741824:=by omega
 have x1:(dI x.num.natAbs).length<=268435456:=by rw[Zjs];exact Wi (Nat.le_max_left _ _) hl.1
 have x2:(dI x.den).length<=268435456:=by have:=Zjs (x.den:Int);rw[Int.natAbs_natCast] at this;rw[this];exact Wi (Nat.le_max_right _ _) hl.1
 have y1:(dI y.num.natAbs).length<=268435456:=by rw[Zjs];exact Wi (Nat.le_max_left _ _) hl.2
 have y2:(dI y.den).length<=268435456:=by have:=Zjs (y.den:Int);rw[Int.natAbs_natCast] at this;rw[this];exact Wi (Nat.le_max_right _ _) hl.2
 refine Zg Tryz.func230 rfl Tryz.ntmps230 rfl ?_
 repeat(refine wkM ?_;intros)
 rename_i b2 b3 b4
 refine Zav (S:=Nat×Nat×FrO x×FrO y) (fun _=>True) (fun s=>[(4, .pointer (some ⟨b4,0,none⟩)),(5, .pointer (some ⟨s.1,0,none⟩)),(6, .pointer (some ⟨s.2.1,0,none⟩)),(11, .agg (Zo s.2.2.1.fr)),(13, .agg (Zo s.2.2.2.fr))]) (fun s=>⟨s.1,Zo s.2.2.1.fr,396⟩::⟨s.2.1,Zo s.2.2.2.fr,396⟩::⟨b4,Zu (Q 0),54⟩::(s.2.2.1.mem++s.2.2.2.mem)) ?_ (fun s _=>?_)
 ·(refine ZuK (.v [0,2] (.br 1 (.br 3 (.br 4 (.br 5 (.br 6 (.br 7 (.fin) (.no)) (.no)) (.no)) (.br 5 (.br 4 (.br 6 (.br 7 (.fin) (.no)) (.no)) (.no)) (.no))) (.br 4 (.br 3 (.br 5 (.br 6 (.br 7 (.fin) (.no)) (.no)) (.no)) (.br 5 (.br 3 (.br 6 (.br 7 (.fin) (.no)) (.no)) (.no)) (.no))) (.br 5 (.br 3 (.br 4 (.br 6 (.br 7 (.fin) (.no)) (.no)) (.no)) (.br 4 (.br 3 (.br 6 (.br 7 (.fin) (.no)) (.no)) (.no)) (.no))) (.no)))) (.br 4 (.br 1 (.br 3 (.br 5 (.br 6 (.br 7 (.fin) (.no)) (.no)) (.no)) (.br 5 (.br 3 (.br 6 (.br 7 (.fin) (.no)) (.no)) (.no)) (.no))) (.br 5 (.br 1 (.br 3 (.br 6 (.br 7 (.fin) (.no)) (.no)) (.no)) (.no)) (.no))) (.br 5 (.br 1 (.br 3 (.br 4 (.br 6 (.br 7 (.fin) (.no)) (.no)) (.no)) (.br 4 (.br 3 (.br 6 (.br 7 (.fin) (.no)) (.no)) (.no)) (.no))) (.br 4 (.br 1 (.br 3 (.br 6 (.br 7 (.fin) (.no)) (.no)) (.no)) (.no)) (.no))) (.no))))) ([⟨b3,Zu (Q y),54⟩,⟨b2,Zu (Q x),54⟩]) (h:=?_);refine wkQ ?_)
  repeat' (first|(with_reducible refine And.intro ?_ ?_)|(with_reducible exact True.intro)|(refine wkT ?_;intros)|(refine tC rfl rfl ?_ ?_;focus(first|exact trivial|exact hx|exact hy))|(refine uC rfl rfl ?_ ?_;focus(first|exact trivial|exact hx|exact hy))|(refine eN rfl rfl ?_ ?_;(focus(first|exact trivial|exact hx|exact hy));intro _;(try simp only[Wf,Wg,Wh]))|fail)
  all_goals exact Zdd ⟨_,_,_,_⟩ trivial sbB inferInstance
 obtain⟨b5,b6,sx,sy⟩:=s
 simp only[FrO.fr_eq,FrO.mem,List.append_assoc]
 have hp1:(dI x.num.natAbs).length<=1099511627776/\(dI y.den).length<=1099511627776:=⟨by omega,by omega⟩
 have hp2:(dI y.num.natAbs).length<=1099511627776/\(dI x.den).length<=1099511627776:=⟨by omega,by omega⟩
 have hp3:(dI x.den).length<=1099511627776/\(dI y.den).length<=1099511627776:=⟨by omega,by omega⟩
 have hP:=Zj9 x1 y2
 have hQ:=Zj9 y1 x2
 have hD:=Zj9 x2 y2
 have hPQ:=ZwK hP hQ
 have hd0:0<x.den*y.den:=Nat.mul_pos x.den_pos y.den_pos
 have hsum:=Zhy x y
 have hxs:=Zkh x.num
 have hys:=Zkh y.num
 have hden:(x.den:Int)*y.den=((x.den*y.den:Nat):Int):=(Int.natCast_mul _ _).symm
 rw[hden] at hsum
 repeat(refine wkM ?_;intros)
 refine Zav (S:=FlS (eI .i64) 1 (dI (x.num.natAbs*y.den))×FlS (eI .i64) 1 (dI (y.num.natAbs*x.den))) (fun _=>True) (fun s=>[(4, .pointer (some ⟨b4,0,none⟩)),(5, .pointer (some ⟨b5,0,none⟩)),(6, .pointer (some ⟨b6,0,none⟩)),(7,vF s.1),(8,vF s.2)]) (fun s=>mF 3 s.1++(mF 3 s.2++(⟨b5,Zo ⟨decide (x.num<0),flH sx.n,flH sx.d⟩,396⟩::⟨b6,Zo ⟨decide (y.num<0),flH sy.n,flH sy.d⟩,396⟩::⟨b4,Zu (Q 0),54⟩::(mF 3 sx.n++(mF 3 sx.d++(mF 3 sy.n++mF 3 sy.d)))))) ?_ (fun s _=>?_)
 ·(refine ZX (.v [0,1,2,3,5,6,7,8] (.e1 4 (.e1 9 (.e1 10 (.e1 11 (.fin)))))) ([⟨b5,Zo ⟨decide (x.num<0),flH sx.n,flH sx.d⟩,396⟩,⟨b6,Zo ⟨decide (y.num<0),flH sy.n,flH sy.d⟩,396⟩]) (h:=?_);refine wkX ?_)
  repeat' (first|(with_reducible refine And.intro ?_ ?_)|(with_reducible exact True.intro)|(refine wkT ?_;intros)|(refine tC rfl rfl ?_ ?_;focus(first|exact trivial|exact hp1|exact hp2))|(refine uC rfl rfl ?_ ?_;focus(first|exact trivial|exact hp1|exact hp2))|(refine eN rfl rfl ?_ ?_;(focus(first|exact trivial|exact hp1|exact hp2));intro _;(try simp only[Wf,Wg,Wh]))|fail)
  all_goals exact Zdd ⟨_,_⟩ trivial sbB inferInstance
 obtain⟨sp,sq⟩:=s
 simp only
 repeat(first|(refine wkM ?_;intros)|(refine wnM ?_ ?_;(focus(exact hp3));intros))
 rename_i sd
 generalize hPn:x.num.natAbs*y.den=p at*
 generalize hQn:y.num.natAbs*x.den=q at*
 generalize hDn:x.den*y.den=d at*
 have hD':(dI d).length<=1073741824:=by omega
 have hpq:(dI p).length<=1099511627776/\(dI q).length<=1099511627776:=⟨by omega,by omega⟩
 have hxm:x.num*(y.den:Int)=sgI (decide (x.num<0)) p:=by
  conv=>lhs;rw[hxs]
  rw[Zms,hPn]
 have hym:y.num*(x.den:Int)=sgI (decide (y.num<0)) q:=by
  conv=>lhs;rw[hys]
  rw[Zms,hQn]
 rw[hxm,hym] at hsum
 refine Zl rfl (fun h=>?_) (fun h=>?_)
 ·have hbb:decide (x.num<0)=decide (y.num<0):=eq_of_beq h
  have hcc:((dI (p+q)).length<=1073741824/\(dI d).length<=1073741824)/\0<d:=⟨⟨by omega,hD'⟩,hd0⟩
  have hk:Rat.divInt (sgI (decide (x.num<0)) (p+q)) (d:Int)=x+y:=by rw[hsum,<-hbb,ZuI]
  repeat(refine wkM ?_;intros)
  (refine ZX (.v [0,1,2,3,5] (.e1 4 (.v [6] (.e1 7 (.e1 8 (.fin)))))) ([⟨b5,Zo ⟨decide (x.num<0),flH sx.n,flH sx.d⟩,396⟩]) (h:=?_);refine wkX ?_)
  (repeat(refine wkH ?_))
  repeat(first|(refine wkT ?_;intros)|(refine tC rfl rfl ?_ ?_;focus(first|exact hpq|exact hcc))|(refine uC rfl rfl ?_ ?_;focus(first|exact hpq|exact hcc))|(refine eN rfl rfl ?_ ?_;(focus(first|exact hpq|exact hcc));intro _;(try simp only[Wf,Wg,Wh])))
  simp only[hk]
  repeat(refine wkM ?_;intros)
  exact rtC rfl rfl
 ·have hne:¬decide (x.num<0)=decide (y.num<0):=fun h0=>by
   have:(decide (x.num<0)==decide (y.num<0))=true:=beq_iff_eq.2 h0
   rw[show(decide (x.num<0)==decide (y.num<0))=false from h] at this
   cases this
  have hb1:decide (y.num<0)= !decide (x.num<0):=by
   cases hx0:decide (x.num<0) <;> cases hy0:decide (y.num<0) <;> rw[hx0,hy0] at hne <;> simp at hne <;> rfl
  have hb2:decide (x.num<0)= !decide (y.num<0):=by rw[hb1,Bool.not_not]
  have hpq5:(dI p).length<=1125899906842624/\(dI q).length<=1125899906842624:=⟨by omega,by omega⟩
  have hge:=ZvE p q
  repeat(first|(refine wkM ?_;intros)|(refine wnM ?_ ?_;(focus(exact hpq5));intros))
  refine Zl rfl (fun h=>?_) (fun h=>?_)
  ·have hle:=hge.1 (Wa h)
   have hmi:((dI p).length<=1099511627776/\(dI q).length<=1099511627776)/\q<=p:=⟨hpq,hle⟩
   have hl2:=Ztc (Nat.sub_le p q) hP
   have hcc:((dI (p-q)).length<=1073741824/\(dI d).length<=1073741824)/\0<d:=⟨⟨by omega,hD'⟩,hd0⟩
   have hk:Rat.divInt (sgI (decide (x.num<0)) (p-q)) (d:Int)=x+y:=by rw[hsum,hb1,Zl2 _ hle]
   repeat(refine wkM ?_;intros)
   (refine ZX (.v [0,1,2,3,5] (.e1 4 (.v [6] (.e1 7 (.e1 8 (.fin)))))) ([⟨b5,Zo ⟨decide (x.num<0),flH sx.n,flH sx.d⟩,396⟩]) (h:=?_);refine wkX ?_)
   (repeat(refine wkH ?_))
   repeat(first|(refine wkT ?_;intros)|(refine tC rfl rfl ?_ ?_;focus(first|exact hmi|exact hcc))|(refine uC rfl rfl ?_ ?_;focus(first|exact hmi|exact hcc))|(refine eN rfl rfl ?_ ?_;(focus(first|exact hmi|exact hcc));intro _;(try simp only[Wf,Wg,Wh])))
   simp only[hk]
   repeat(refine wkM ?_;intros)
   exact rtC rfl rfl
  ·have hle:p<=q:=by
    rcases Nat.le_total p q with h0|h0
    ·exact h0
    ·exact absurd (hge.2 h0) (Wb h)
   have hmi:((dI q).length<=1099511627776/\(dI p).length<=1099511627776)/\p<=q:=⟨⟨hpq.2,hpq.1⟩,hle⟩
   have hl2:=Ztc (Nat.sub_le q p) hQ
   have hcc:((dI (q-p)).length<=1073741824/\(dI d).length<=1073741824)/\0<d:=⟨⟨by omega,hD'⟩,hd0⟩
   have hk:Rat.divInt (sgI (decide (y.num<0)) (q-p)) (d:Int)=x+y:=by rw[hsum,hb2,Int.add_comm,Zl2 _ hle]
   repeat(refine wkM ?_;intros)
   (refine ZX (.v [0,1,2,3,5] (.e1 4 (.v [6] (.e1 7 (.e1 8 (.fin)))))) ([⟨b6,Zo ⟨decide (y.num<0),flH sy.n,flH sy.d⟩,396⟩]) (h:=?_);refine wkX ?_)
   (repeat(refine wkH ?_))
   repeat(first|(refine wkT ?_;intros)|(refine tC rfl rfl ?_ ?_;focus(first|exact hmi|exact hcc))|(refine uC rfl rfl ?_ ?_;focus(first|exact hmi|exact hcc))|(refine eN rfl rfl ?_ ?_;(focus(first|exact hmi|exact hcc));intro _;(try simp only[Wf,Wg,Wh])))
   simp only[hk]
   repeat(refine wkM ?_;intros)
   exact rtC rfl rfl
instance ZHV (x y:Rat):SpecC prog 230 [vQ x,vQ y] (vQ (x+y)) (M x<=268435456/\M y<=268435456):=⟨fun hp w=>Zp5 x y w hp⟩
instance ZH5 (x y:Rat):SpecC prog 182 [vQ x,vQ y] (vQ (x-y)) (M x<=268435456/\M y<=268435456):=⟨fun hp w=>by
 have hM:M (-y)=M y:=by
  unfold M
  rw[show(-y).num= -y.num from rfl,show(-y).den=y.den from rfl,Zhx]
 have hp2:M x<=268435456/\M (-y)<=268435456:=by rw[hM];exact hp
 have hs:x+ -y=x-y:=by grind
 refine Zg Tryz.func182 rfl Tryz.ntmps182 rfl ?_
 repeat(refine wkM ?_;intros)
 refine jD 4 4 (h:=?_)
 (repeat(first|refine wkH ?_|(refine tC rfl rfl ?_ ?_;focus(first|exact trivial|exact hp2))))
 refine Zn ?_
 refine Zr ?_
 simp only[hs]
 repeat(refine wkM ?_;intros)
 exact rtC rfl rfl⟩
end
section
theorem Zp3 (z:Int): -1<=z.sign/\z.sign<=1:=by
 rcases Int.lt_trichotomy z 0 with h|h|h
 ·rw[Int.sign_eq_neg_one_of_neg h];decide
 ·rw[h];decide
 ·rw[Int.sign_eq_one_of_pos h];decide
instance ZEW (x:Zp):SpecC prog 183 [vR x] (.int .i64 (if x.Neg then-1 else 1)) True:=⟨fun _ w=>by
 refine Zg Tryz.func183 rfl Tryz.ntmps183 rfl ?_
 obtain⟨p,r,b⟩:=x
 cases b
 ·repeat(refine wkM ?_;intros)
  exact rtT rfl rfl
 ·repeat(refine wkM ?_;intros)
  exact rtT rfl rfl⟩
instance ZA9 (a r:Rat)(u:Int):SpecC prog 228 [vQ a, .int .i64 u,vQ r] (.int .i64 a.num.sign) (r=0):=⟨fun hr w=>by
 have hz:=sg0e u hr
 refine Zg Tryz.func228 rfl Tryz.ntmps228 rfl ?_
 repeat(refine wkM ?_;intros)
 rename_i b3 b5
 (refine ZX (.v [0,1,2,3,4,5] (.e1 6 (.e1 7 (.fin)))) ([⟨b5,Zu (Q r),54⟩,⟨b3,Zu (Q a),54⟩]) (h:=?_);refine wkX ?_)
 (repeat(first|refine wkH ?_|(refine tC rfl rfl ?_ ?_;focus(exact trivial))))
 repeat(refine wkT ?_;intros)
 simp only[hz]
 repeat(refine wkM ?_;intros)
 by_cases c:a.num.sign=0
 ·simp only[Wc c]
  repeat(refine wkM ?_;intros)
  rw[c]
  exact rtT rfl rfl
 ·simp only[We c]
  repeat(refine wkM ?_;intros)
  exact rtT rfl rfl⟩
instance ZBq (a r s:Rat)(u v:Int):SpecC prog 181 [vQ a, .int .i64 u,vQ r, .int .i64 v,vQ s] (.int .i64 a.num.sign) (r=0/\s=0):=⟨fun hp w=>by
 obtain⟨hr,hs⟩:=hp
 have hz:=sg0e v hs
 have hb:=Zp3 a.num
 refine Zg Tryz.func181 rfl Tryz.ntmps181 rfl ?_
 repeat(refine wkM ?_;intros)
 rename_i b5 b7 b9
 (refine ZX (.v [0,1,2,3,4,5,6,7] (.e1 8 (.e1 9 (.fin)))) ([⟨b9,Zu (Q s),54⟩,⟨b7,Zu (Q r),54⟩,⟨b5,Zu (Q a),54⟩]) (h:=?_);refine wkX ?_)
 (repeat(first|refine wkH ?_|(refine tC rfl rfl ?_ ?_;focus(first|exact trivial|exact hr))))
 repeat(refine wkT ?_;intros)
 simp only[hz]
 generalize a.num.sign=x at*
 repeat(refine wkM ?_;intros)
 by_cases c:x=0
 ·subst c
  repeat(refine wkM ?_;intros)
  exact rtT rfl rfl
 ·simp only[We c,Bool.not_false]
  repeat(refine wkM ?_;intros)
  by_cases c1:0<x
  ·have e1:x=1:=by omega
   subst e1
   repeat(refine wkM ?_;intros)
   exact rtT rfl rfl
  ·simp only[We c1]
   repeat(refine wkM ?_;intros)
   simp only[Int.sub_zero]
   exact rtT rfl rfl⟩
instance ZGG (x y:Zp):SpecC prog 122 [vR x,vR y] (.int .i64 (cq x.P y.P)) ((x.R=0/\y.R=0)/\M x.P<=268435456/\M y.P<=268435456):=⟨fun hp w=>by
 obtain⟨hxy,hm⟩:=hp
 have hs:=ZgV x.P y.P
 have hb:=Zp3 (x.P-y.P).num
 refine Zg Tryz.func122 rfl Tryz.ntmps122 rfl ?_
 repeat(refine wkM ?_;intros)
 rename_i b2 b3
 (refine ZX (.v [0,1,2,3,4,5,6,7,8,9,10,11,12,13] (.e1 14 (.fin))) ([⟨b3,Zs (Zw y),97⟩,⟨b2,Zs (Zw x),97⟩]) (h:=?_);refine wkX ?_)
 (repeat(first|refine wkH ?_|(refine tC rfl rfl ?_ ?_;focus(first|exact trivial|exact hm|exact hxy))))
 repeat(refine wkT ?_;intros)
 simp only[hs]
 rw[hs] at hb
 generalize cq x.P y.P=z at*
 repeat(refine wkM ?_;intros)
 by_cases c:z<0
 ·have e:z= -1:=by omega
  subst e
  repeat(refine wkM ?_;intros)
  exact rtT rfl rfl
 simp only[We c]
 repeat(refine wkM ?_;intros)
 by_cases c1:0<z
 ·have e:z=1:=by omega
  subst e
  repeat(refine wkM ?_;intros)
  exact rtT rfl rfl
 ·have e:z=0:=by omega
  subst e
  repeat(refine wkM ?_;intros)
  exact rtT rfl rfl⟩
end
section
abbrev B28 :Nat:=268435456
structure RtB (t:Zp):Prop where
 r:t.R=0
 m:M t.P<=B28
theorem IvOk.f {i:Ze}(h:IvOk B28 i):RtB i.From:=⟨h.r1,h.m1⟩
theorem IvOk.t {i:Ze}(h:IvOk B28 i):RtB i.To:=⟨h.r2,h.m2⟩
theorem RtB.c {x y:Zp}(h:RtB x)(k:RtB y):(x.R=0/\y.R=0)/\M x.P<=268435456/\M y.P<=268435456:=⟨⟨h.r,k.r⟩,h.m,k.m⟩
theorem ZqF (a b:Rat):cq a b= -1\/cq a b=0\/cq a b=1:=by
 unfold cq
 split
 ·exact .inl rfl
 ·split
  ·exact .inr (.inr rfl)
  ·exact .inr (.inl rfl)
def inQ (a b:Int)(o c:Bool):Bool:=(decide (a<0)||(decide (a=0)&& !o))&&(decide (b<0)||(decide (b=0)&& !c))
def inB (i:Ze)(t:Rat):Bool:=inQ (cq i.From.P t) (cq t i.To.P) i.OpenFrom i.OpenTo
theorem Znp {i:Ze}{t:Rat}:inB i t=true↔memI i t:=by
 unfold inB inQ memI
 simp only[Wq,Bool.or_eq_true,decide_eq_true_eq,Bool.not_eq_true',ZdC,Zb7]
instance ZKD (i:Ze)(t:Zp):SpecC prog 121 [vIv i,vR t] (.bool (inB i t.P)) (IvOk B28 i/\RtB t):=⟨fun hp w=>by
 obtain⟨hi,ht⟩:=hp
 have h1:=hi.f.c ht
 have h2:=ht.c hi.t
 refine Zg Tryz.func121 rfl Tryz.ntmps121 rfl ?_
 repeat(refine wkM ?_;intros)
 rename_i b2 b3
 (refine ZX (.v [0,1,2,3,4,5,6,7] (.e1 8 (.e1 9 (.fin)))) ([⟨b3,Zs (Zw t),97⟩,⟨b2,Zz (Zx i),111⟩]) (h:=?_);refine wkX ?_)
 (repeat(first|refine wkH ?_|(refine tC rfl rfl ?_ ?_;focus(first|exact h1|exact h2))))
 repeat(refine wkT ?_;intros)
 unfold inB
 have v1:=ZqF i.From.P t.P
 have v2:=ZqF t.P i.To.P
 generalize cq i.From.P t.P=a at*
 generalize cq t.P i.To.P=b at*
 obtain⟨f,g,o,c⟩:=i
 rcases v1 with rfl|rfl|rfl <;> rcases v2 with rfl|rfl|rfl <;> rcases o with _|_ <;> rcases c with _|_
 all_goals(repeat(refine wkM ?_;intros))
 all_goals exact rtT rfl rfl⟩
instance Zoq (op:Int)(a b:Bool):SpecC prog 68 [.int .i64 op, .bool a, .bool b] (.bool (if op=1 then a||b else if op=2 then a&&b else a&& !b)) True:=⟨fun _ w=>by
 refine Zg Tryz.func68 rfl Tryz.ntmps68 rfl ?_
 repeat(refine wkM ?_;intros)
 by_cases h1:op=1
 ·subst h1
  cases a <;> cases b
  all_goals(repeat(refine wkM ?_;intros))
  all_goals exact rtT rfl rfl
 ·rw[if_neg h1]
  simp only[We h1]
  repeat(refine wkM ?_;intros)
  by_cases h2:op=2
  ·subst h2
   cases a <;> cases b
   all_goals(repeat(refine wkM ?_;intros))
   all_goals exact rtT rfl rfl
  ·rw[if_neg h2]
   simp only[We h2]
   cases a <;> cases b
   all_goals(repeat(refine wkM ?_;intros))
   all_goals exact rtT rfl rfl⟩
def hlB (l:List Ze)(t:Rat):Bool:=l.any fun i=>inB i t
theorem ZpX {α:Type}[Inhabited α]{p:α->Bool}{l:List α}{m:Nat}(h:m<l.length)(k:p (gi l (m:Int))=true):l.any p=true:=List.any_eq_true.2 ⟨_,ZI (by omega),k⟩
theorem ZqJ {α:Type}[Inhabited α]{p:α->Bool}{l:List α}(h:∀j:Nat,j<l.length->p (gi l (j:Int))=false):l.any p=false:=by
 rw[List.any_eq_false]
 intro x hx
 obtain⟨j,hj,rfl⟩:=List.getElem_of_mem hx
 have:=h j hj
 rw[Zj hj] at this
 simp[this]
set_option maxHeartbeats 8000000 in
theorem ZlD (v:Value)(l:List Ze)(t:Zp)(w:World)(hv:ArgS w v rI l)(hl:l.length<=1048576)(hi:∀i∈l,IvOk B28 i)(ht:RtB t):
  Calls prog 69 [v,vR t].toArray w (Ret (.bool (hlB l t.P)) w):=by
 obtain⟨p,cp,rfl⟩:=hv.form
 refine Zg Tryz.func69 rfl Tryz.ntmps69 rfl ?_
 repeat(refine wkM ?_;intros)
 rename_i b3
 refine Zm (S:=Nat) (fun k=>k<=l.length/\∀j:Nat,j<k->inB (gi l (j:Int)) t.P=false) (fun k=>[(0, .slice p l.length cp),(3, .pointer (some ⟨b3,0,none⟩)),(5, .int .i64 (k:Nat))]) (fun _=>[⟨b3,Zs (Zw t),97⟩]) (fun k=>l.length-k) 0 ⟨Wm _,fun j hj=>by omega⟩ sbB slB (fun k hk=>?_)
 obtain⟨hk,hno⟩:=hk
 repeat(refine wkM ?_;intros)
 refine Zl rfl (fun h=>?_) (fun h=>?_)
 ·have hlt:k<l.length:=by have:=Wa h;omega
  obtain⟨bw,ow,rfl,hrow'⟩:=hv.opn (k:=19) hlt
  have hj:IvOk B28 (gi l (k:Int))/\RtB t:=⟨hi _ (ZI (by omega)),ht⟩
  repeat(refine wkM ?_;intros)
  (refine ZX (.v [0,1,2,3,4,5] (.fin)) ([⟨b3,Zs (Zw t),97⟩]) (h:=?_);refine wkX ?_)
  (repeat(first|refine wkH ?_|(refine tC rfl rfl ?_ ?_;focus(exact hj))))
  repeat(refine wkT ?_;intros)
  by_cases c:inB (gi l (k:Int)) t.P=true
  ·have hh:hlB l t.P=true:=ZpX hlt c
   simp only[c,hh]
   repeat(refine wkM ?_;intros)
   exact rtT rfl rfl
  ·have c0:=Bool.eq_false_iff.2 c
   simp only[c0]
   repeat(refine wkO ?_;intros)
   refine Zh (k+1) ⟨hlt,fun j hj=>?_⟩ sbB slB (by omega)
   rcases(by omega:j<k\/j=k) with h1|rfl
   ·exact hno j h1
   ·exact c0
 ·have hge:k=l.length:=by have:=Wb h;omega
  subst hge
  have hh:hlB l t.P=false:=ZqJ hno
  repeat(refine wkM ?_;intros)
  rw[hh]
  exact rtT rfl rfl
instance ZBg (w0:World)(L:List Blk)(v:Value)(l:List Ze)(t:Zp)[h:LstC w0 L v Ze rI l]:SpecM prog w0 L 69 [v,vR t] (.bool (hlB l t.P)) (l.length<=1048576/\(∀i∈l,IvOk B28 i)/\RtB t):=⟨fun hp w hw=>ZlD v l t w (h.out w hw) hp.1 hp.2.1 hp.2.2⟩
def spI (i:Ze)(a b:Rat):Bool:=decide (cq i.From.P a<=0)&&decide (cq b i.To.P<=0)
def spB (l:List Ze)(a b:Rat):Bool:=l.any fun i=>spI i a b
set_option maxHeartbeats 8000000 in
theorem ZlP (v:Value)(l:List Ze)(t u:Zp)(w:World)(hv:ArgS w v rI l)(hl:l.length<=1048576)(hi:∀i∈l,IvOk B28 i)(ht:RtB t)(hu:RtB u):
  Calls prog 70 [v,vR t,vR u].toArray w (Ret (.bool (spB l t.P u.P)) w):=by
 obtain⟨p,cp,rfl⟩:=hv.form
 refine Zg Tryz.func70 rfl Tryz.ntmps70 rfl ?_
 repeat(refine wkM ?_;intros)
 rename_i b4 b5
 refine Zm (S:=Nat) (fun k=>k<=l.length/\∀j:Nat,j<k->spI (gi l (j:Int)) t.P u.P=false) (fun k=>[(0, .slice p l.length cp),(4, .pointer (some ⟨b4,0,none⟩)),(5, .pointer (some ⟨b5,0,none⟩)),(7, .int .i64 (k:Nat))]) (fun _=>[⟨b5,Zs (Zw u),97⟩,⟨b4,Zs (Zw t),97⟩]) (fun k=>l.length-k) 0 ⟨Wm _,fun j hj=>by omega⟩ sbB slB (fun k hk=>?_)
 obtain⟨hk,hno⟩:=hk
 repeat(refine wkM ?_;intros)
 refine Zl rfl (fun h=>?_) (fun h=>?_)
 ·have hlt:k<l.length:=by have:=Wa h;omega
  obtain⟨bw,ow,rfl,hrow'⟩:=hv.opn (k:=19) hlt
  have hj:=hi (gi l (k:Int)) (ZI (by omega))
  have h1:=hj.f.c ht
  have h2:=hu.c hj.t
  have hdf:spI (gi l (k:Int)) t.P u.P=(decide (cq (gi l (k:Int)).From.P t.P<=0)&&decide (cq u.P (gi l (k:Int)).To.P<=0)):=rfl
  repeat(refine wkM ?_;intros)
  refine jD 18 18 (h:=?_)
  (repeat(first|refine wkH ?_|(refine tC rfl rfl ?_ ?_;focus(first|exact h1|exact h2))))
  by_cases c1:cq (gi l (k:Int)).From.P t.P<=0
  ·simp only[Wc c1]
   (repeat(first|refine wkH ?_|(refine tC rfl rfl ?_ ?_;focus(first|exact h1|exact h2))))
   refine Zn ?_
   refine Zr ?_
   by_cases c2:cq u.P (gi l (k:Int)).To.P<=0
   ·have hh:spB l t.P u.P=true:=ZpX hlt (by rw[hdf,Wc c1,Wc c2];rfl)
    simp only[Wc c2,hh]
    repeat(refine wkM ?_;intros)
    exact rtT rfl rfl
   ·simp only[We c2]
    repeat(refine wkO ?_;intros)
    refine Zh (k+1) ⟨hlt,fun j hj=>?_⟩ sbB slB (by omega)
    rcases(by omega:j<k\/j=k) with h1|rfl
    ·exact hno j h1
    ·rw[hdf,We c2,Bool.and_false]
  ·simp only[We c1]
   (repeat(refine wkH ?_))
   refine Zn ?_
   refine Zr ?_
   repeat(refine wkO ?_;intros)
   refine Zh (k+1) ⟨hlt,fun j hj=>?_⟩ sbB slB (by omega)
   rcases(by omega:j<k\/j=k) with h1|rfl
   ·exact hno j h1
   ·rw[hdf,We c1,Bool.false_and]
 ·have hge:k=l.length:=by have:=Wb h;omega
  subst hge
  have hh:spB l t.P u.P=false:=ZqJ hno
  repeat(refine wkM ?_;intros)
  rw[hh]
  exact rtT rfl rfl
instance ZAO (w0:World)(L:List Blk)(v:Value)(l:List Ze)(t u:Zp)[h:LstC w0 L v Ze rI l]:SpecM prog w0 L 70 [v,vR t,vR u] (.bool (spB l t.P u.P)) (l.length<=1048576/\(∀i∈l,IvOk B28 i)/\RtB t/\RtB u):=⟨fun hp w hw=>ZlP v l t u w (h.out w hw) hp.1 hp.2.1 hp.2.2.1 hp.2.2.2⟩
end
end Go.Vt
