/- For any up to 12 units whose ends have up to 20 bytes, and for any decoded moving label (up to 8 stretches), Check returns OK or the first error. Conditions: none. (part 13 of 28.) Conditions: those that each statement names. -/
import Derived.Test.YtcgkgdgpdpihmaaGreatDoorProg
import Derived.Test.YtcgkgdgpdpihmaaGreatDoorKC12
set_option linter.unusedSimpArgs false
set_option linter.unusedVariables false
set_option maxHeartbeats 2000000
set_option maxRecDepth 100000
namespace Go.Vt
open Go.RowKit Go.Proofs
open Go.Proofs.Tryz (prog)
section
structure PtC (v1 v2:Value)(m n k:Nat) where
 v:Value
 mm:List Blk
 fm:∃p c,v= .slice p (dI k).length c
 r:∀{w0 w':World},ArgS w' v1 (eI .i64) (dI m)->ArgS w' v2 (eI .i64) (dI n)->Own w0 mm w'->ArgS w' v (eI .i64) (dI k)
instance (priority :=low) ptcLst {w0:World}{L:List Blk}{v1 v2:Value}{m n k:Nat}(s:PtC v1 v2 m n k)[h1:LstC w0 L v1 Int (eI .i64) (dI m)][h2:LstC w0 L v2 Int (eI .i64) (dI n)][h:SblC s.mm L]:LstC w0 L s.v Int (eI .i64) (dI k):=⟨fun w hw=>s.r (h1.out w hw) (h2.out w hw) (hw.sub h.out)⟩
theorem Zp5 {α:Type}{enc:α->Array Value}{k:Nat}{xs:List α}(s:FlS enc k xs):∃p c,vF s= .slice p xs.length c:=by
 rcases s.cases 0 with⟨rfl,h1, -⟩|⟨b,c,sp,hc,h1, -⟩
 ·exact⟨none,0,h1⟩
 ·exact⟨_,_,h1⟩
def PtC.fl (v1 v2:Value)(m n:Nat){k:Nat}(f:FlS (eI .i64) 1 (dI k)):PtC v1 v2 m n k:=⟨vF f,mF 3 f,Zp5 f,fun _ _ hw=>f.reads 3 hw⟩
set_option maxHeartbeats 8000000 in
theorem ZhG (v1 v2:Value)(m n:Nat)(w:World)(h1:ArgS w v1 (eI .i64) (dI m))(h2:ArgS w v2 (eI .i64) (dI n))(hl:(dI m).length<=1073741824/\(dI n).length<=1073741824):
  Calls prog 157 [v1,v2].toArray w (RetM (PtC v1 v2 m n (Nat.gcd m n)) (fun s=>s.v) (fun s=>s.mm) w):=by
 have hc1:=fun L=>h1.lst L
 have hc2:=fun L=>h2.lst L
 refine Zb Tryz.func157 rfl Tryz.ntmps157 rfl ?_
 repeat(refine wkB ?_;intros)
 refine Zq (S:=(m':Nat)×(n':Nat)×PtC v1 v2 m n m'×PtC v1 v2 m n n') (fun s=>Nat.gcd s.1 s.2.1=Nat.gcd m n/\(dI s.1).length<=1073741824/\(dI s.2.1).length<=1073741824) (fun s=>[(0,s.2.2.1.v),(1,s.2.2.2.v)]) (fun s=>s.2.2.1.mm++s.2.2.2.mm) (fun s=>s.2.1) ⟨m,n,⟨v1,[],by obtain⟨p,c,e⟩:=h1.form;exact⟨p,c,e⟩,fun h _ _=>h⟩,⟨v2,[],by obtain⟨p,c,e⟩:=h2.form;exact⟨p,c,e⟩,fun _ h _=>h⟩⟩ ⟨rfl,hl.1,hl.2⟩ sbB slB (fun s hs=>?_)
 obtain⟨m',n',a,b⟩:=s
 obtain⟨hg,hlm,hln⟩:=hs
 simp only at hg hlm hln⊢
 have hb:∀L,[SblC b.mm L]->LstC w L b.v Int (eI .i64) (dI n'):=fun L i=>inferInstance
 have hpre:0<n'->(((dI m').length<=1073741824/\(dI n').length<=1073741824)/\0<n'):=fun h=>⟨⟨hlm,hln⟩,h⟩
 obtain⟨pb,cb,eb⟩:=b.fm
 rw[eb] at hb
 simp only[eb]
 repeat(refine wkB ?_;intros)
 refine Zk rfl (fun h=>?_) (fun h=>?_)
 ·have hn0:0<n':=by
   have h3:=Wa h
   rcases Nat.eq_zero_or_pos n' with h0|h0
   ·subst h0
    simp[Zdu] at h3
   ·exact h0
  have hpr:=hpre hn0
  repeat(first|(refine wkB ?_;intros)|(refine wnM ?_ ?_;(focus(exact hpr));intros))
  rename_i d
  obtain⟨dq,dr,dal⟩:=d
  have hr1:=Nat.mod_lt m' hn0
  cases dr with
  |none=>
   have hlt:=dal rfl
   simp only[DvR.rv,DvR.rm,Wh,Wg]
   rw[<-eb]
   refine Zpl (M:=b.mm++a.mm) (L':=a.mm++b.mm) suB List.perm_append_comm ?_
   exact Zg ⟨n',m',b,a⟩ ⟨by rw[<-hg];exact Nat.gcd_comm _ _,hln,hlm⟩ sbB (Wj _) hlt
  |some f=>
   simp only[DvR.rv,DvR.rm]
   rw[<-eb]
   refine Zpl (M:=b.mm++mF 3 f) (L':=mF 3 f++b.mm) (by simp only[List.append_assoc];exact suB) List.perm_append_comm ?_
   exact Zg ⟨n',m' % n',b,PtC.fl v1 v2 m n f⟩ ⟨by rw[<-hg,Nat.gcd_comm m' n',Nat.gcd_rec n' m'];exact Nat.gcd_comm _ _,hln,Wi (ZT.2 (Nat.lt_trans hr1 (ZT.1 (Wl _)))) hln⟩ sbB (Wj _) hr1
 ·have hn0:n'=0:=by
   have h3:=Wb h
   rcases Nat.eq_zero_or_pos n' with h0|h0
   ·exact h0
   ·have:=List.length_pos_iff.2 (fun e=>(Nat.pos_iff_ne_zero.1 h0) (ZcT.1 e))
    omega
  subst hn0
  rw[Nat.gcd_zero_right] at hg
  subst hg
  repeat(refine wkB ?_;intros)
  exact ZB rfl rfl (fun w hw=>⟨a,rfl,hw.sub suB⟩)
instance Zvo (w0:World)(L:List Blk)(v1 v2:Value)(m n:Nat)[h1:LstC w0 L v1 Int (eI .i64) (dI m)][h2:LstC w0 L v2 Int (eI .i64) (dI n)]:SpecR prog w0 L 157 [v1,v2] (PtC v1 v2 m n (Nat.gcd m n)) (fun s=>s.v) (fun s=>s.mm) ((dI m).length<=1073741824/\(dI n).length<=1073741824):=⟨fun hl w hw=>ZhG v1 v2 m n w (h1.out w hw) (h2.out w hw) hl⟩
theorem Zt7 (n:Nat):tzN (dI n) (dI n).length=(dI n).length:=by
 have h1:=Zjc (Zbx n)
 rw[ZaB,Int.toNat_natCast] at h1
 have h2:=Zfa (dI n) (dI n).length
 have h3:=congrArg List.length h1
 rw[Wt] at h3
 omega
def whB (xs:List Int)(m:Nat):List Int:=List.replicate (xs.length-m) 0++(xs.take m).reverse
theorem ZqG (xs:List Int){m:Nat}(h:m<=xs.length):(whB xs m).length=xs.length:=by
 unfold whB
 rw[Wp,List.length_replicate,List.length_reverse,Wt]
 omega
theorem Znn {xs:List Int}{m:Nat}(h:m<xs.length):(whB xs m).set (xs.length-1-m) (gi xs (m:Int))=whB xs (m+1):=by
 unfold whB
 have e:List.replicate (xs.length-m) (0:Int)=List.replicate (xs.length-(m+1)) 0++[0]:=by
  rw[<-List.replicate_succ']
  congr 1
  omega
 have e2:xs.length-1-m=(List.replicate (xs.length-(m+1)) (0:Int)).length:=by rw[List.length_replicate];omega
 rw[e,e2,List.append_assoc,List.set_append_right _ _ (Wl _),Nat.sub_self,List.singleton_append,List.set_cons_zero,Wn h,List.reverse_append,Zw h]
 rfl
set_option maxHeartbeats 8000000 in
theorem ZiP (v:Value)(n:Nat)(b:Bool)(w:World)(hv:ArgS w v (eI .i64) (dI n))(hl:(dI n).length<=1099511627776):
  Calls prog 167 [v, .bool b].toArray w (Ret (.agg (Zt ⟨b&&decide (n≠0),mag n⟩)) w):=by
 have hc1:=fun L=>hv.lst L
 have h8:=Zbx n
 have htz:=Zt7 n
 obtain⟨p,cp,rfl⟩:=hv.form
 have hl':(dI n).length<=1125899906842624:=by omega
 have htk:tkV (tzN (dI n) (dI n).length) (.slice p (dI n).length cp)= .slice p (dI n).length cp:=by rw[htz];rfl
 refine Zb Tryz.func167 rfl Tryz.ntmps167 rfl ?_
 repeat(first|(refine wkB ?_;intros)|(refine wnM ?_ ?_;(focus(exact hl'));intros))
 simp only[htk]
 repeat(refine wkB ?_;intros)
 refine sM rfl rfl ⟨by omega,by omega⟩ (fun b5=>?_)
 repeat(refine wkB ?_;intros)
 rename_i b4
 have hw0:whB (dI n) 0=List.replicate (dI n).length 0:=by unfold whB;simp
 refine Zq (S:=Nat) (fun m=>m<=(dI n).length) (fun m=>[(0, .slice p (dI n).length cp),(1, .bool b),(4, .pointer (some ⟨b4,0,none⟩)),(5, .slice (some ⟨b5,0,none⟩) (dI n).length (dI n).length),(6, .int .i64 (m:Nat))]) (fun m=>[⟨b5,row (eI .u8) (whB (dI n) m) [],5⟩,⟨b4,Zt (I 0),31⟩]) (fun m=>(dI n).length-m) 0 (Wm _) sbB (by rw[hw0];exact slB) (fun m hm=>?_)
 have hwl:=ZqG (dI n) hm
 repeat(refine wkB ?_;intros)
 refine Zk rfl (fun h=>?_) (fun h=>?_)
 ·have hlt:m<(dI n).length:=by have:=Wa h;omega
  have hne:dI n≠[]:=fun h0=>by rw[h0] at hlt;simp at hlt
  obtain⟨bw,ow,cw,hvw,hcw,hrow⟩:=hv.blk (k:=0) hne []
  injection hvw with x1 x2 x3
  subst x1 x3
  have hr1:∀L,RowC w L bw ow Int (eI .i64) (dI n):=fun L=>⟨fun w' hw'=>hrow.out w' (hw'.sub (Wk _))⟩
  have hg:=h8.gi (i:=(m:Int))
  have hst:=Znn hlt
  have e1:((dI n).length:Int)-1-(m:Nat)=(((dI n).length-1-m:Nat):Int):=by omega
  repeat(refine wkB ?_;intros)
  simp only[e1]
  repeat(refine wkB ?_;intros)
  simp only[Int.toNat_natCast,hst]
  repeat(first|(refine wkB ?_;intros)|(refine wnM ?_ ?_;(focus(exact⟨by omega,by omega⟩));intros))
  exact Zg (m+1) hlt sbB slB (by omega)
 ·obtain rfl:m=(dI n).length:=by have:=Wb h;omega
  have hfin:whB (dI n) (dI n).length=(dI n).reverse:=by unfold whB;simp
  rw[hfin]
  have hneg:(b&&decide (n≠0))=(b&&decide ((0:Int)<((dI n).length:Nat))):=by
   congr 1
   refine decide_eq_decide.2 ⟨fun h0=>?_,fun h0 h1=>?_⟩
   ·have:=List.length_pos_iff.2 (fun e=>h0 (ZcT.1 e))
    omega
   ·rw[ZcT.2 h1] at h0
    simp at h0
  have hcv:∀(i:Nat)(u:UInt8),(le n).reverse[i]? =some u->(row (eI .u8) (dI n).reverse [])[0+i]? =some (.int .u8 u.toNat):=fun i u hu=>by
   have e:row (eI .u8) (dI n).reverse []=((le n).reverse.map fun x:UInt8=>Value.int .u8 (x.toNat:Int)).toArray:=by
    unfold row dI
    rw[<-List.map_reverse,Wh]
    congr 1
    generalize (le n).reverse=l
    induction l with
    |nil=>rfl
    |cons x l ih=>rw[List.map_cons,List.map_cons,<-ih];rfl
   rw[e,Nat.zero_add,List.getElem?_toArray,List.getElem?_map,hu]
   rfl
  have hbl:(le n).reverse.length=(dI n).length:=by unfold dI;simp
  cases b
  ·repeat(refine wkB ?_;intros)
   refine jq (Zbn (bs:=(le n).reverse) rfl hbl hcv) rfl rfl ?_
   repeat(refine wkB ?_;intros)
   exact rtC rfl rfl
  ·rw[hneg]
   repeat(refine wkB ?_;intros)
   refine jq (Zbn (bs:=(le n).reverse) rfl hbl hcv) rfl rfl ?_
   repeat(refine wkB ?_;intros)
   exact rtC rfl rfl
instance Zv5 (w0:World)(L:List Blk)(v:Value)(n:Nat)(b:Bool)[h:LstC w0 L v Int (eI .i64) (dI n)]:SpecM prog w0 L 167 [v, .bool b] (.agg (Zt ⟨b&&decide (n≠0),mag n⟩)) ((dI n).length<=1099511627776):=⟨fun hl w hw=>ZiP v n b w (h.out w hw) hl⟩
end
section
def flH {α:Type}{enc:α->Array Value}{k:Nat}{xs:List α}(s:FlS enc k xs):Sl:=match s.s with
 |none=>⟨none,0,0⟩
 |some t=>⟨some ⟨t.1,0,none⟩,xs.length,t.2.1⟩
theorem ZcO {α:Type}{enc:α->Array Value}{k:Nat}{xs:List α}(s:FlS enc k xs):vF s= .slice (flH s).a (flH s).len (flH s).cap:=by
 obtain⟨s,h1,h2⟩:=s
 cases s with
 |none=>
  have:=h1 rfl
  subst this
  rfl
 |some t=>rfl
theorem ZrO {α:Type}{enc:α->Array Value}{k:Nat}{xs ys:List α}{s:FlS enc k xs}{t:FlS enc k ys}(h:vF s=vF t):flH s=flH t:=by
 rw[ZcO,ZcO] at h
 injection h with e1 e2 e3
 rcases hs:flH s with⟨a,l,c⟩
 rcases ht:flH t with⟨a',l',c'⟩
 rw[hs,ht] at e1 e2 e3
 dsimp only at e1 e2 e3
 rw[e1,e2,e3]
instance (priority :=low) lstFH {α:Type}{enc:α->Array Value}{k:Nat}{xs:List α}(w0:World)(L:List Blk)(s:FlS enc k xs)[h:LstC w0 L (vF s) α enc xs]:LstC w0 L (.slice (flH s).a (flH s).len (flH s).cap) α enc xs:=by
 rw[<-ZcO]
 exact h
instance (priority :=30000) ZAP {xs ys:List Int}(b:Bool)(f:FlS (eI .i64) 1 xs)(g:FlS (eI .i64) 1 ys):BdC prog 162 [(0, .bool b),(1,vF f),(2,vF g)] (.agg (Zd ⟨b,flH f,flH g⟩)):=by
 rw[ZcO,ZcO]
 have:∀a l c a' l' c',BdC prog 162 [(0, .bool b),(1, .slice a l c),(2, .slice a' l' c')] (.agg (Zd ⟨b,⟨a,l,c⟩,⟨a',l',c'⟩⟩)):=fun a l c a' l' c'=>inferInstance
 exact this _ _ _ _ _ _
instance (priority :=30000) ZxO {xs:List Int}(b:Bool)(f:FlS (eI .i64) 1 xs)(h:Sl):LdC prog 65 (Zd ⟨b,flH f,h⟩) 1 (vF f):=by
 rw[ZcO]
 have:∀a l c,LdC prog 65 (Zd ⟨b,⟨a,l,c⟩,h⟩) 1 (.slice a l c):=fun a l c=>inferInstance
 exact this _ _ _
instance (priority :=30000) Zyi {xs:List Int}(b:Bool)(f:FlS (eI .i64) 1 xs)(h:Sl):LdC prog 65 (Zd ⟨b,h,flH f⟩) 2 (vF f):=by
 rw[ZcO]
 have:∀a l c,LdC prog 65 (Zd ⟨b,h,⟨a,l,c⟩⟩) 2 (.slice a l c):=fun a l c=>inferInstance
 exact this _ _ _
theorem ZfL :dI 1=[1]:=by rw[Zb8 (by decide)];rfl
theorem ZhT (k:Nat):((dI k).length=1/\gi (dI k) (0:Int)=1)↔k=1:=by
 constructor
 ·rintro⟨h1,h2⟩
  have h3:=ZaB k
  obtain⟨d,hd⟩:=List.length_eq_one_iff.1 h1
  rw[hd] at h2 h3
  have h4:d=1:=h2
  subst h4
  simp[vgI] at h3
  omega
 ·rintro rfl
  rw[ZfL]
  exact⟨rfl,rfl⟩
def sgI (b:Bool)(m:Nat):Int:=if b then-(m:Int) else m
theorem canonQ (b:Bool)(m:Nat){n:Nat}(hn:0<n):(⟨⟨b&&decide (m / Nat.gcd m n≠0),mag (m / Nat.gcd m n)⟩,⟨false,mag (if n / Nat.gcd m n=1 then 0 else n / Nat.gcd m n)⟩⟩:ZK)=Q (Rat.divInt (sgI b m) n):=by
 obtain⟨h1,h2⟩:=Zgp (x:=sgI b m) (y:=(n:Int)) (by omega)
 have hg:Int.gcd (sgI b m) n=Nat.gcd m n:=by
  unfold Int.gcd sgI
  cases b <;> simp
 rw[hg] at h1 h2
 have hd:(Rat.divInt (sgI b m) n).den=n / Nat.gcd m n:=by
  rw[<-Int.natCast_ediv] at h2
  omega
 have hnum:(Rat.divInt (sgI b m) n).num=sgI b (m / Nat.gcd m n):=by
  rw[h1]
  unfold sgI
  cases b
  ·simp
  ·simp only[if_true]
   rw[Int.neg_ediv_of_dvd (Int.natCast_dvd_natCast.2 (Nat.gcd_dvd_left m n)),Int.natCast_ediv]
 unfold Q I dn
 rw[hnum,hd]
 generalize m / Nat.gcd m n=a
 have e1:(b&&decide (a≠0))=decide (sgI b a<0):=by
  unfold sgI
  cases b
  ·simp
  ·simp only[if_true,Bool.true_and]
   exact decide_eq_decide.2 ⟨fun h=>by omega,fun h=>by omega⟩
 have e2:(sgI b a).natAbs=a:=by
  unfold sgI
  cases b <;> simp
 rw[e1,e2]
 generalize n / Nat.gcd m n=d
 by_cases hk:d=1
 ·rw[if_pos hk,if_pos hk]
  rfl
 ·rw[if_neg hk,if_neg hk,Int.natAbs_natCast,We (show¬(d:Int)<0 by omega)]
set_option maxHeartbeats 8000000 in
theorem ZiM (b:Bool)(s1 s2:Sl)(m n:Nat)(w:World)(h1:ArgS w (vSlc s1) (eI .i64) (dI m))(h2:ArgS w (vSlc s2) (eI .i64) (dI n))(hl:((dI m).length<=1073741824/\(dI n).length<=1073741824)/\0<n):
  Calls prog 121 [.agg (Zd ⟨b,s1,s2⟩)].toArray w (Ret (vQ (Rat.divInt (sgI b m) n)) w):=by
 have hc1:=fun L=>h1.lst L
 have hc2:=fun L=>h2.lst L
 obtain⟨hl0,hn0⟩:=hl
 have hg0:0<Nat.gcd m n:=Nat.gcd_pos_of_pos_right m hn0
 have hgn:Nat.gcd m n<=n:=Nat.gcd_le_right m hn0
 have hgl:(dI (Nat.gcd m n)).length<=1073741824:=Wi (ZT.2 (Nat.lt_of_le_of_lt hgn (ZT.1 (Wl _)))) hl0.2
 have hp1:((dI m).length<=1073741824/\(dI (Nat.gcd m n)).length<=1073741824)/\0<Nat.gcd m n:=⟨⟨hl0.1,hgl⟩,hg0⟩
 have hp2:((dI n).length<=1073741824/\(dI (Nat.gcd m n)).length<=1073741824)/\0<Nat.gcd m n:=⟨⟨hl0.2,hgl⟩,hg0⟩
 have hcan:=canonQ b m hn0
 refine Zb Tryz.func121 rfl Tryz.ntmps121 rfl ?_
 repeat(first|(refine wkB ?_;intros)|(refine wnM ?_ ?_;(focus(exact hl0));intros))
 rename_i b1 b2 g d1 d2
 obtain⟨q1,r1,al1⟩:=d1
 obtain⟨q2,r2,al2⟩:=d2
 dsimp only
 have hk0:0<n / Nat.gcd m n:=Nat.div_pos hgn hg0
 have hkl:(dI (n / Nat.gcd m n)).length<=1073741824:=Wi (ZT.2 (Nat.lt_of_le_of_lt (Nat.div_le_self _ _) (ZT.1 (Wl _)))) hl0.2
 have hal:(dI (m / Nat.gcd m n)).length<=1073741824:=Wi (ZT.2 (Nat.lt_of_le_of_lt (Nat.div_le_self _ _) (ZT.1 (Wl _)))) hl0.1
 rcases q2.cases 3 with⟨x0, -, -⟩|⟨bb,cc,sp,hc,x1,x2⟩
 ·exact absurd (ZcT.1 x0) (by omega)
 simp only[x1,x2,List.append_assoc,Wf,Wg]
 refine Zdz (S:={z:Bool // z=true↔n / Nat.gcd m n=1}) (fun _=>True) (fun z=>[(1, .pointer (some ⟨b1,0,none⟩)),(2, .pointer (some ⟨b2,0,none⟩)),(4,vF q1),(6, .slice (some ⟨bb,0,none⟩) (dI (n / Nat.gcd m n)).length cc),(35, .bool z.1)]) (fun _=>⟨bb,row (eI .i64) (dI (n / Nat.gcd m n)) sp,3⟩::(mF 3 q1++[⟨b2,Zn (Q 0),33⟩,⟨b1,Zd ⟨b,s1,s2⟩,162⟩])) ?_ (fun z _=>?_)
 ·by_cases c1:(dI (n / Nat.gcd m n)).length=1
  ·simp only[Wc (show(((dI (n / Nat.gcd m n)).length:Nat):Int)=1 by omega)]
   repeat(refine wkB ?_;intros)
   exact Zj ⟨decide (gi (dI (n / Nat.gcd m n)) (0:Int)=1),decide_eq_true_iff.trans (Iff.trans ⟨fun h=>⟨c1,h⟩,fun h=>h.2⟩ (ZhT (n / Nat.gcd m n)))⟩ trivial sbB suB
  ·simp only[We (show¬(((dI (n / Nat.gcd m n)).length:Nat):Int)=1 by omega)]
   repeat(refine wkB ?_;intros)
   exact Zj ⟨false,⟨(fun h=>by cases h),fun h=>absurd ((ZhT (n / Nat.gcd m n)).2 h).1 c1⟩⟩ trivial sbB suB
 generalize n / Nat.gcd m n=k at*
 generalize m / Nat.gcd m n=a at*
 obtain⟨z,hz⟩:=z
 simp only
 refine ZY (S:=FlS (eI .i64) 1 (dI (if k=1 then 0 else k))) (fun _=>True) (fun s=>[(1, .pointer (some ⟨b1,0,none⟩)),(2, .pointer (some ⟨b2,0,none⟩)),(4,vF q1),(6,vF s)]) (fun s=>mF 3 s++(mF 3 q1++[⟨b2,Zn (Q 0),33⟩,⟨b1,Zd ⟨b,s1,s2⟩,162⟩])) ?_ (fun s _=>?_)
 ·refine Zk rfl (fun h=>?_) (fun h=>?_)
  ·have hk1:=hz.1 h
   obtain⟨f,f1,f2⟩:∃f:FlS (eI .i64) 1 (dI (if k=1 then 0 else k)),vF f= .slice none 0 0/\mF 3 f=[]:=by
    rw[if_pos hk1]
    exact⟨⟨none,fun _=>rfl,fun t ht=>by cases ht⟩,rfl,rfl⟩
   repeat(refine wkB ?_;intros)
   exact Zj f trivial (by simp only[f1];exact sbB) (by simp only[f2,Wg];exact suB)
  ·have hk1:¬k=1:=fun h0=>by rw[hz.2 h0] at h;cases h
   obtain⟨f,f1,f2⟩:=q2.like (show dI (if k=1 then 0 else k)=dI k by rw[if_neg hk1])
   repeat(refine wkB ?_;intros)
   exact Zj f trivial (by simp only[f1,x1];exact sbB) (by simp only[f2,x2,Wf,Wg];exact suB)
 have hdl:(dI (if k=1 then 0 else k)).length<=1099511627776:=by
  split
  ·rw[Zdu]
   exact Wm _
  ·omega
 have hal':(dI a).length<=1099511627776:=by omega
 repeat(first|(refine wkB ?_;intros)|(refine wnM ?_ ?_;(focus(first|exact hal'|exact hdl));intros))
 simp only[Bool.false_and,hcan]
 exact rtC rfl rfl
instance ZwP (w0:World)(L:List Blk)(b:Bool)(s1 s2:Sl)(m n:Nat)[h1:LstC w0 L (.slice s1.a s1.len s1.cap) Int (eI .i64) (dI m)][h2:LstC w0 L (.slice s2.a s2.len s2.cap) Int (eI .i64) (dI n)]:SpecM prog w0 L 121 [.agg (Zd ⟨b,s1,s2⟩)] (vQ (Rat.divInt (sgI b m) n)) (((dI m).length<=1073741824/\(dI n).length<=1073741824)/\0<n):=⟨fun hl w hw=>ZiM b s1 s2 m n w (h1.out w hw) (h2.out w hw) hl⟩
structure FrO (q:Rat) where
 n:FlS (eI .i64) 1 (dI q.num.natAbs)
 d:FlS (eI .i64) 1 (dI q.den)
def FrO.fr {q:Rat}(s:FrO q):ZV:=⟨decide (q.num<0),flH s.n,flH s.d⟩
def FrO.mem {q:Rat}(s:FrO q):List Blk:=mF 3 s.n++mF 3 s.d
set_option maxHeartbeats 8000000 in
theorem Znx (q:Rat)(w:World)(hl:M q<=1073741824):
  Calls prog 120 [vQ q].toArray w (RetM (FrO q) (fun s=> .agg (Zd s.fr)) (fun s=>s.mem) w):=by
 have hpn:(I q.num).Mag.size<=1099511627776:=by
  have h1:mg q.num<=M q:=Nat.le_max_left _ _
  have h2:(I q.num).Mag.size=mg q.num:=rfl
  omega
 have hpd:(I (dn q)).Mag.size<=1099511627776:=by
  have h1:mg q.den<=M q:=Nat.le_max_right _ _
  have h2:(I (dn q)).Mag.size<=mg q.den:=by
   show(mag (dn q).natAbs).size<=(mag ((q.den:Nat):Int).natAbs).size
   unfold dn
   split
   ·rw[Int.natAbs_zero,ZdF]
    exact Wm _
   ·exact Wl _
  omega
 have e1:bN (I q.num).Mag=q.num.natAbs:=Zde _
 have e2:bN (I (dn q)).Mag=(dn q).natAbs:=Zde _
 have hd0:=q.den_pos
 refine Zb Tryz.func120 rfl Tryz.ntmps120 rfl ?_
 repeat(first|(refine wkB ?_;intros)|(refine wnM ?_ ?_;(focus(exact hpd));intros))
 rename_i b1 b2 f0
 refine ZY (S:=FlS (eI .i64) 1 (dI q.den)) (fun _=>True) (fun s=>[(1, .pointer (some ⟨b1,0,none⟩)),(2, .pointer (some ⟨b2,0,none⟩)),(3,vF s)]) (fun s=>mF 3 s++[⟨b2,Zd ZaM,162⟩,⟨b1,Zn (Q q),33⟩]) ?_ (fun s _=>?_)
 ·refine Zk rfl (fun h=>?_) (fun h=>?_)
  ·have h3:=Wa h
   rw[e2] at h3
   have h4:=ZcT.1 (List.eq_nil_of_length_eq_zero (show(dI (dn q).natAbs).length=0 by omega))
   have h5:q.den=1:=by
    unfold dn at h4
    split at h4
    ·assumption
    ·omega
   repeat(refine wkB ?_;intros)
   rename_i b3
   obtain⟨f,f1,f2⟩:=(FlS.one b3 1:FlS (eI .i64) 1 [(1:Int)]).like (show dI q.den=[1] by rw[h5,ZfL])
   rw[FlS.one_v] at f1
   exact Zj f trivial (by simp only[f1];exact sbB) (by simp only[f2];exact suB)
  ·have h3:=Wb h
   rw[e2] at h3
   have h5:(dn q).natAbs=q.den:=by
    unfold dn at h3⊢
    split
    ·rename_i h6
     rw[if_pos h6] at h3
     exact absurd rfl h3
    ·rfl
   obtain⟨f,f1,f2⟩:=f0.like (show dI q.den=dI (bN (I (dn q)).Mag) by rw[e2,h5])
   repeat(refine wkB ?_;intros)
   exact Zj f trivial (by simp only[f1];exact sbB) (by simp only[f2];exact suB)
 repeat(refine wkB ?_;intros)
 (refine ZH (.v [0,1,2,3,4,6] (.e1 5 (.v [7] (.e1 8 (.fin))))) ([⟨b1,Zn (Q q),33⟩]) (h:=?_);refine wkX ?_)
 (repeat(refine wkH ?_))
 repeat(first|(refine wkT ?_;intros)|(refine tC rfl rfl ?_ ?_;focus(exact hpn))|(refine uC rfl rfl ?_ ?_;focus(exact hpn))|(refine eN rfl rfl ?_ ?_;(focus(exact hpn));intro _;(try simp only[Wf,Wg,Wh])))
 rename_i fn
 obtain⟨f,f1,f2⟩:=fn.like (show dI q.num.natAbs=dI (bN (I q.num).Mag) by rw[e1])
 have f3:=ZrO f1
 repeat(refine wkB ?_;intros)
 refine Zcx rfl rfl (fun w hw=>⟨⟨f,s⟩, ?_, ?_⟩)
 ·show Ending.returned _=Ending.returned (.agg (Zd ⟨decide (q.num<0),flH f,flH s⟩))
  rw[f3]
  rfl
 ·show Own _ (mF 3 f++mF 3 s) _
  rw[f2]
  exact hw.sub suB
instance ZBB (w0:World)(L:List Blk)(q:Rat):SpecR prog w0 L 120 [vQ q] (FrO q) (fun s=> .agg (Zd s.fr)) (fun s=>s.mem) (M q<=1073741824):=⟨fun hl w _=>Znx q w hl⟩
theorem ZjV {z:Int}:mag z.natAbs=⟨#[]⟩↔z=0:=by
 have:(⟨#[]⟩:ByteArray)=mag 0:=rfl
 rw[this,Zdn]
 omega
theorem Zhl (q:Rat){z:Bool}(h:z=decide (-q.num<0)):(⟨⟨z,mag q.num.natAbs⟩,I (dn q)⟩:ZK)=Q (-q):=by
 have e1:(-q).num= -q.num:=rfl
 have e2:dn (-q)=dn q:=rfl
 unfold Q
 rw[e2]
 congr 1
 unfold I
 rw[e1,h,Int.natAbs_neg]
instance ZvO (x:ZK)(z:Bool):StC prog 4 (Zn x) 0 (.bool z) (Zn ⟨⟨z,x.Num.Mag⟩,x.Den⟩):=⟨by kernel_rfl,by kernel_rfl,by kernel_rfl,rfl⟩
instance ZAv (q:Rat):SpecC prog 36 [vQ q] (vQ (-q)) True:=⟨fun _ w=>by
 refine Zb Tryz.func36 rfl Tryz.ntmps36 rfl ?_
 have hN:(Q q).Num=⟨decide (q.num<0),mag q.num.natAbs⟩:=rfl
 have hD:(Q q).Den=I (dn q):=rfl
 have hM:=ZjV (z:=q.num)
 repeat(refine wkB ?_;intros)
 rcases Int.lt_trichotomy q.num 0 with c|c|c
 ·have hk:=Zhl q (z:=false) (We (by omega)).symm
  have e:(Q q).Num.Neg=true:=Wc c
  simp only[e,Bool.not_true]
  repeat(refine wkB ?_;intros)
  simp only[hN,hD,hk]
  exact rtC rfl rfl
 ·have hk:=Zhl q (z:=false) (We (by omega)).symm
  have e:(Q q).Num.Neg=false:=We (by omega)
  have e2:(Q q).Num.Mag=⟨#[]⟩:=hM.2 c
  simp only[e,Bool.not_false]
  repeat(refine wkB ?_;intros)
  simp only[Wc e2,Bool.not_true]
  repeat(refine wkB ?_;intros)
  simp only[hN,hD,hk]
  exact rtC rfl rfl
 ·have hk:=Zhl q (z:=true) (Wc (by omega)).symm
  have e:(Q q).Num.Neg=false:=We (by omega)
  have e2:¬(Q q).Num.Mag=⟨#[]⟩:=fun h0=>by have:=hM.1 h0;omega
  simp only[e,Bool.not_false]
  repeat(refine wkB ?_;intros)
  simp only[We e2,Bool.not_false]
  repeat(refine wkB ?_;intros)
  simp only[hN,hD,hk]
  exact rtC rfl rfl⟩
instance Zx9 (q:Rat):SpecC prog 111 [vQ q] (.int .i64 q.num.sign) True:=⟨fun _ w=>by
 have hM:=ZjV (z:=q.num)
 refine Zb Tryz.func111 rfl Tryz.ntmps111 rfl ?_
 repeat(refine wkB ?_;intros)
 rcases Int.lt_trichotomy q.num 0 with c|c|c
 ·have e:(Q q).Num.Neg=true:=Wc c
  have e2:¬(Q q).Num.Mag=⟨#[]⟩:=fun h0=>by have:=hM.1 h0;omega
  rw[Int.sign_eq_neg_one_of_neg c]
  simp only[We e2]
  repeat(refine wkB ?_;intros)
  simp only[e]
  repeat(refine wkB ?_;intros)
  exact rtT rfl rfl
 ·have e2:(Q q).Num.Mag=⟨#[]⟩:=hM.2 c
  rw[show q.num.sign=0 by rw[c];rfl]
  simp only[Wc e2]
  repeat(refine wkB ?_;intros)
  exact rtT rfl rfl
 ·have e:(Q q).Num.Neg=false:=We (by omega)
  have e2:¬(Q q).Num.Mag=⟨#[]⟩:=fun h0=>by have:=hM.1 h0;omega
  rw[Int.sign_eq_one_of_pos c]
  simp only[We e2]
  repeat(refine wkB ?_;intros)
  simp only[e]
  repeat(refine wkB ?_;intros)
  exact rtT rfl rfl⟩
end
section
instance (priority :=high) ofEnd {α:Type}{enc:α->Array Value}{k:Nat}{xs:List α}(T:TypeId)(s:FlS enc k xs):OwnF T s (mF T s) []:=⟨by rw[Wh]⟩
instance (priority :=low) sbpFr {q:Rat}(s:FrO q)(A L L1:List Blk)[h:BmC s.mem L L1][g:SbpC A L1]:SbpC (s.mem++A) L:=⟨by
 obtain⟨L',hp⟩:=g.out
 exact⟨L',h.out.trans (by rw[List.append_assoc];exact hp.append_left _)⟩⟩
instance (priority :=low) sbpFr0 {q:Rat}(s:FrO q)(L L1:List Blk)[h:BmC s.mem L L1]:SbpC s.mem L:=⟨L1,h.out⟩
theorem FrO.fr_eq {q:Rat}(s:FrO q):s.fr=⟨decide (q.num<0),flH s.n,flH s.d⟩:=rfl
theorem ZdC (z:Int):z=sgI (decide (z<0)) z.natAbs:=by
 unfold sgI
 by_cases h:z<0
 ·rw[if_pos (Wc h)]
  omega
 ·rw[if_neg (by simp[h])]
  omega
theorem Zj2 (b:Bool)(m n:Nat):sgI b m*(n:Int)=sgI b (m*n):=by
 unfold sgI
 cases b
 ·simp
 ·simp only[if_true]
  rw[Int.neg_mul,Int.natCast_mul]
theorem ZpW (b:Bool)(m n:Nat):sgI b m+sgI b n=sgI b (m+n):=by
 unfold sgI
 cases b
 ·simp
 ·simp only[if_true]
  omega
theorem Zka (b:Bool){m n:Nat}(h:n<=m):sgI b m+sgI (!b) n=sgI b (m-n):=by
 unfold sgI
 cases b
 ·simp only[Bool.not_false,if_true,Bool.false_eq_true,if_false]
  omega
 ·simp only[Bool.not_true,if_true,Bool.false_eq_true,if_false]
  omega
theorem Zl0 (m n:Nat):0<=Lib.compareInt (m:Int) n↔n<=m:=by
 unfold Lib.compareInt
 split
 ·constructor
  ·intro h0;simp at h0
  ·omega
 ·split
  ·exact⟨fun _=>by omega,fun _=>by decide⟩
  ·exact⟨fun _=>by omega,fun _=>by decide⟩
theorem Zbl (z:Int):(dI z.natAbs).length=mg z:=by
 unfold dI mg
 rw[Ws,ZbF]
theorem Zcm {m n a b:Nat}(h1:(dI m).length<=a)(h2:(dI n).length<=b):(dI (m*n)).length<=a+b:=ZT.2 (by
 have h3:=ZT.1 h1
 have h4:=ZT.1 h2
 rw[Nat.pow_add]
 exact Nat.mul_lt_mul'' h3 h4)
theorem Zhw {m n a:Nat}(h1:(dI m).length<=a)(h2:(dI n).length<=a):(dI (m+n)).length<=a+1:=ZT.2 (by
 have h3:=ZT.1 h1
 have h4:=ZT.1 h2
 rw[Nat.pow_succ]
 omega)
theorem ZfJ {m n a:Nat}(h:m<=n)(h1:(dI n).length<=a):(dI m).length<=a:=ZT.2 (Nat.lt_of_le_of_lt h (ZT.1 h1))
set_option maxHeartbeats 8000000 in
theorem Zmw (x y:Rat)(w:World)(hl:M x<=268435456/\M y<=268435456):
  Calls prog 84 [vQ x,vQ y].toArray w (Ret (vQ (x+y)) w):=by
 have hx:M x<=1073741824:=by omega
 have hy:M y<=1073741824:=by omega
 have x1:(dI x.num.natAbs).length<=268435456:=by rw[Zbl];exact Wi (Nat.le_max_left _ _) hl.1
 have x2:(dI x.den).length<=268435456:=by have:=Zbl (x.den:Int);rw[Int.natAbs_natCast] at this;rw[this];exact Wi (Nat.le_max_right _ _) hl.1
 have y1:(dI y.num.natAbs).length<=268435456:=by rw[Zbl];exact Wi (Nat.le_max_left _ _) hl.2
 have y2:(dI y.den).length<=268435456:=by have:=Zbl (y.den:Int);rw[Int.natAbs_natCast] at this;rw[this];exact Wi (Nat.le_max_right _ _) hl.2
 refine Zb Tryz.func84 rfl Tryz.ntmps84 rfl ?_
 repeat(refine wkB ?_;intros)
 rename_i b2 b3 b4
 refine ZY (S:=Nat×Nat×FrO x×FrO y) (fun _=>True) (fun s=>[(4, .pointer (some ⟨b4,0,none⟩)),(5, .pointer (some ⟨s.1,0,none⟩)),(6, .pointer (some ⟨s.2.1,0,none⟩)),(11, .agg (Zd s.2.2.1.fr)),(13, .agg (Zd s.2.2.2.fr))]) (fun s=>⟨s.1,Zd s.2.2.1.fr,162⟩::⟨s.2.1,Zd s.2.2.2.fr,162⟩::⟨b4,Zn (Q 0),33⟩::(s.2.2.1.mem++s.2.2.2.mem)) ?_ (fun s _=>?_)
 ·(refine Zkp (.v [0,2] (.br 1 (.br 3 (.br 4 (.br 5 (.br 6 (.br 7 (.fin) (.no)) (.no)) (.no)) (.br 5 (.br 4 (.br 6 (.br 7 (.fin) (.no)) (.no)) (.no)) (.no))) (.br 4 (.br 3 (.br 5 (.br 6 (.br 7 (.fin) (.no)) (.no)) (.no)) (.br 5 (.br 3 (.br 6 (.br 7 (.fin) (.no)) (.no)) (.no)) (.no))) (.br 5 (.br 3 (.br 4 (.br 6 (.br 7 (.fin) (.no)) (.no)) (.no)) (.br 4 (.br 3 (.br 6 (.br 7 (.fin) (.no)) (.no)) (.no)) (.no))) (.no)))) (.br 4 (.br 1 (.br 3 (.br 5 (.br 6 (.br 7 (.fin) (.no)) (.no)) (.no)) (.br 5 (.br 3 (.br 6 (.br 7 (.fin) (.no)) (.no)) (.no)) (.no))) (.br 5 (.br 1 (.br 3 (.br 6 (.br 7 (.fin) (.no)) (.no)) (.no)) (.no)) (.no))) (.br 5 (.br 1 (.br 3 (.br 4 (.br 6 (.br 7 (.fin) (.no)) (.no)) (.no)) (.br 4 (.br 3 (.br 6 (.br 7 (.fin) (.no)) (.no)) (.no)) (.no))) (.br 4 (.br 1 (.br 3 (.br 6 (.br 7 (.fin) (.no)) (.no)) (.no)) (.no)) (.no))) (.no))))) ([⟨b3,Zn (Q y),33⟩,⟨b2,Zn (Q x),33⟩]) (h:=?_);refine wkQ ?_)
  repeat' (first|(with_reducible refine And.intro ?_ ?_)|(with_reducible exact True.intro)|(refine wkT ?_;intros)|(refine tC rfl rfl ?_ ?_;focus(first|exact trivial|exact hx|exact hy))|(refine uC rfl rfl ?_ ?_;focus(first|exact trivial|exact hx|exact hy))|(refine eN rfl rfl ?_ ?_;(focus(first|exact trivial|exact hx|exact hy));intro _;(try simp only[Wf,Wg,Wh]))|fail)
  all_goals exact Zbg ⟨_,_,_,_⟩ trivial sbB inferInstance
 obtain⟨b5,b6,sx,sy⟩:=s
 simp only[FrO.fr_eq,FrO.mem,List.append_assoc]
 have hp1:(dI x.num.natAbs).length<=1099511627776/\(dI y.den).length<=1099511627776:=⟨by omega,by omega⟩
 have hp2:(dI y.num.natAbs).length<=1099511627776/\(dI x.den).length<=1099511627776:=⟨by omega,by omega⟩
 have hp3:(dI x.den).length<=1099511627776/\(dI y.den).length<=1099511627776:=⟨by omega,by omega⟩
 have hP:=Zcm x1 y2
 have hQ:=Zcm y1 x2
 have hD:=Zcm x2 y2
 have hPQ:=Zhw hP hQ
 have hd0:0<x.den*y.den:=Nat.mul_pos x.den_pos y.den_pos
 have hsum:=ZfF x y
 have hxs:=ZdC x.num
 have hys:=ZdC y.num
 have hden:(x.den:Int)*y.den=((x.den*y.den:Nat):Int):=(Int.natCast_mul _ _).symm
 rw[hden] at hsum
 repeat(refine wkB ?_;intros)
 refine ZY (S:=FlS (eI .i64) 1 (dI (x.num.natAbs*y.den))×FlS (eI .i64) 1 (dI (y.num.natAbs*x.den))) (fun _=>True) (fun s=>[(4, .pointer (some ⟨b4,0,none⟩)),(5, .pointer (some ⟨b5,0,none⟩)),(6, .pointer (some ⟨b6,0,none⟩)),(7,vF s.1),(8,vF s.2)]) (fun s=>mF 3 s.1++(mF 3 s.2++(⟨b5,Zd ⟨decide (x.num<0),flH sx.n,flH sx.d⟩,162⟩::⟨b6,Zd ⟨decide (y.num<0),flH sy.n,flH sy.d⟩,162⟩::⟨b4,Zn (Q 0),33⟩::(mF 3 sx.n++(mF 3 sx.d++(mF 3 sy.n++mF 3 sy.d)))))) ?_ (fun s _=>?_)
 ·(refine ZH (.v [0,1,2,3,5,6,7,8] (.e1 4 (.e1 9 (.e1 10 (.e1 11 (.fin)))))) ([⟨b5,Zd ⟨decide (x.num<0),flH sx.n,flH sx.d⟩,162⟩,⟨b6,Zd ⟨decide (y.num<0),flH sy.n,flH sy.d⟩,162⟩]) (h:=?_);refine wkX ?_)
  repeat' (first|(with_reducible refine And.intro ?_ ?_)|(with_reducible exact True.intro)|(refine wkT ?_;intros)|(refine tC rfl rfl ?_ ?_;focus(first|exact trivial|exact hp1|exact hp2))|(refine uC rfl rfl ?_ ?_;focus(first|exact trivial|exact hp1|exact hp2))|(refine eN rfl rfl ?_ ?_;(focus(first|exact trivial|exact hp1|exact hp2));intro _;(try simp only[Wf,Wg,Wh]))|fail)
  all_goals exact Zbg ⟨_,_⟩ trivial sbB inferInstance
 obtain⟨sp,sq⟩:=s
 simp only
 repeat(first|(refine wkB ?_;intros)|(refine wnM ?_ ?_;(focus(exact hp3));intros))
 rename_i sd
 generalize hPn:x.num.natAbs*y.den=p at*
 generalize hQn:y.num.natAbs*x.den=q at*
 generalize hDn:x.den*y.den=d at*
 have hD':(dI d).length<=1073741824:=by omega
 have hpq:(dI p).length<=1099511627776/\(dI q).length<=1099511627776:=⟨by omega,by omega⟩
 have hxm:x.num*(y.den:Int)=sgI (decide (x.num<0)) p:=by
  conv=>lhs;rw[hxs]
  rw[Zj2,hPn]
 have hym:y.num*(x.den:Int)=sgI (decide (y.num<0)) q:=by
  conv=>lhs;rw[hys]
  rw[Zj2,hQn]
 rw[hxm,hym] at hsum
 refine Zk rfl (fun h=>?_) (fun h=>?_)
 ·have hbb:decide (x.num<0)=decide (y.num<0):=eq_of_beq h
  have hcc:((dI (p+q)).length<=1073741824/\(dI d).length<=1073741824)/\0<d:=⟨⟨by omega,hD'⟩,hd0⟩
  have hk:Rat.divInt (sgI (decide (x.num<0)) (p+q)) (d:Int)=x+y:=by rw[hsum,<-hbb,ZpW]
  repeat(refine wkB ?_;intros)
  (refine ZH (.v [0,1,2,3,5] (.e1 4 (.v [6] (.e1 7 (.e1 8 (.fin)))))) ([⟨b5,Zd ⟨decide (x.num<0),flH sx.n,flH sx.d⟩,162⟩]) (h:=?_);refine wkX ?_)
  (repeat(refine wkH ?_))
  repeat(first|(refine wkT ?_;intros)|(refine tC rfl rfl ?_ ?_;focus(first|exact hpq|exact hcc))|(refine uC rfl rfl ?_ ?_;focus(first|exact hpq|exact hcc))|(refine eN rfl rfl ?_ ?_;(focus(first|exact hpq|exact hcc));intro _;(try simp only[Wf,Wg,Wh])))
  simp only[hk]
  repeat(refine wkB ?_;intros)
  exact rtC rfl rfl
 ·have hne:¬decide (x.num<0)=decide (y.num<0):=fun h0=>by
   have:(decide (x.num<0)==decide (y.num<0))=true:=beq_iff_eq.2 h0
   rw[show(decide (x.num<0)==decide (y.num<0))=false from h] at this
   cases this
  have hb1:decide (y.num<0)= !decide (x.num<0):=by
   cases hx0:decide (x.num<0) <;> cases hy0:decide (y.num<0) <;> rw[hx0,hy0] at hne <;> simp at hne <;> rfl
  have hb2:decide (x.num<0)= !decide (y.num<0):=by rw[hb1,Bool.not_not]
  have hpq5:(dI p).length<=1125899906842624/\(dI q).length<=1125899906842624:=⟨by omega,by omega⟩
  have hge:=Zl0 p q
  repeat(first|(refine wkB ?_;intros)|(refine wnM ?_ ?_;(focus(exact hpq5));intros))
  refine Zk rfl (fun h=>?_) (fun h=>?_)
  ·have hle:=hge.1 (Wa h)
   have hmi:((dI p).length<=1099511627776/\(dI q).length<=1099511627776)/\q<=p:=⟨hpq,hle⟩
   have hl2:=ZfJ (Nat.sub_le p q) hP
   have hcc:((dI (p-q)).length<=1073741824/\(dI d).length<=1073741824)/\0<d:=⟨⟨by omega,hD'⟩,hd0⟩
   have hk:Rat.divInt (sgI (decide (x.num<0)) (p-q)) (d:Int)=x+y:=by rw[hsum,hb1,Zka _ hle]
   repeat(refine wkB ?_;intros)
   (refine ZH (.v [0,1,2,3,5] (.e1 4 (.v [6] (.e1 7 (.e1 8 (.fin)))))) ([⟨b5,Zd ⟨decide (x.num<0),flH sx.n,flH sx.d⟩,162⟩]) (h:=?_);refine wkX ?_)
   (repeat(refine wkH ?_))
   repeat(first|(refine wkT ?_;intros)|(refine tC rfl rfl ?_ ?_;focus(first|exact hmi|exact hcc))|(refine uC rfl rfl ?_ ?_;focus(first|exact hmi|exact hcc))|(refine eN rfl rfl ?_ ?_;(focus(first|exact hmi|exact hcc));intro _;(try simp only[Wf,Wg,Wh])))
   simp only[hk]
   repeat(refine wkB ?_;intros)
   exact rtC rfl rfl
  ·have hle:p<=q:=by
    rcases Nat.le_total p q with h0|h0
    ·exact h0
    ·exact absurd (hge.2 h0) (Wb h)
   have hmi:((dI q).length<=1099511627776/\(dI p).length<=1099511627776)/\p<=q:=⟨⟨hpq.2,hpq.1⟩,hle⟩
   have hl2:=ZfJ (Nat.sub_le q p) hQ
   have hcc:((dI (q-p)).length<=1073741824/\(dI d).length<=1073741824)/\0<d:=⟨⟨by omega,hD'⟩,hd0⟩
   have hk:Rat.divInt (sgI (decide (y.num<0)) (q-p)) (d:Int)=x+y:=by rw[hsum,hb2,Int.add_comm,Zka _ hle]
   repeat(refine wkB ?_;intros)
   (refine ZH (.v [0,1,2,3,5] (.e1 4 (.v [6] (.e1 7 (.e1 8 (.fin)))))) ([⟨b6,Zd ⟨decide (y.num<0),flH sy.n,flH sy.d⟩,162⟩]) (h:=?_);refine wkX ?_)
   (repeat(refine wkH ?_))
   repeat(first|(refine wkT ?_;intros)|(refine tC rfl rfl ?_ ?_;focus(first|exact hmi|exact hcc))|(refine uC rfl rfl ?_ ?_;focus(first|exact hmi|exact hcc))|(refine eN rfl rfl ?_ ?_;(focus(first|exact hmi|exact hcc));intro _;(try simp only[Wf,Wg,Wh])))
   simp only[hk]
   repeat(refine wkB ?_;intros)
   exact rtC rfl rfl
instance ZAl (x y:Rat):SpecC prog 84 [vQ x,vQ y] (vQ (x+y)) (M x<=268435456/\M y<=268435456):=⟨fun hp w=>Zmw x y w hp⟩
instance Zzm (x y:Rat):SpecC prog 82 [vQ x,vQ y] (vQ (x-y)) (M x<=268435456/\M y<=268435456):=⟨fun hp w=>by
 have hM:M (-y)=M y:=by
  unfold M
  rw[show(-y).num= -y.num from rfl,show(-y).den=y.den from rfl,Zfn]
 have hp2:M x<=268435456/\M (-y)<=268435456:=by rw[hM];exact hp
 have hs:x+ -y=x-y:=by grind
 refine Zb Tryz.func82 rfl Tryz.ntmps82 rfl ?_
 repeat(refine wkB ?_;intros)
 refine jD 4 4 (h:=?_)
 (repeat(first|refine wkH ?_|(refine tC rfl rfl ?_ ?_;focus(first|exact trivial|exact hp2))))
 refine Zo ?_
 refine Zs ?_
 simp only[hs]
 repeat(refine wkB ?_;intros)
 exact rtC rfl rfl⟩
instance Zs6 (x y:Rat):SpecC prog 170 [vQ x,vQ y] (.int .i64 (cq x y)) (M x<=268435456/\M y<=268435456):=⟨fun hp w=>by
 have hs:=ZoA x y
 refine Zb Tryz.func170 rfl Tryz.ntmps170 rfl ?_
 repeat(first|(refine wkB ?_;intros)|(refine wnM ?_ ?_;(focus(first|exact trivial|exact hp));intros))
 simp only[hs]
 exact rtT rfl rfl⟩
set_option maxHeartbeats 8000000 in
theorem ZmI (x y:Rat)(w:World)(hl:M x<=268435456/\M y<=268435456):
  Calls prog 77 [vQ x,vQ y].toArray w (Ret (vQ (x*y)) w):=by
 have hx:M x<=1073741824:=by omega
 have hy:M y<=1073741824:=by omega
 have x1:(dI x.num.natAbs).length<=268435456:=by rw[Zbl];exact Wi (Nat.le_max_left _ _) hl.1
 have x2:(dI x.den).length<=268435456:=by have:=Zbl (x.den:Int);rw[Int.natAbs_natCast] at this;rw[this];exact Wi (Nat.le_max_right _ _) hl.1
 have y1:(dI y.num.natAbs).length<=268435456:=by rw[Zbl];exact Wi (Nat.le_max_left _ _) hl.2
 have y2:(dI y.den).length<=268435456:=by have:=Zbl (y.den:Int);rw[Int.natAbs_natCast] at this;rw[this];exact Wi (Nat.le_max_right _ _) hl.2
 refine Zb Tryz.func77 rfl Tryz.ntmps77 rfl ?_
 repeat(refine wkB ?_;intros)
 rename_i b2 b3 b4
 refine ZY (S:=Nat×Nat×FrO x×FrO y) (fun _=>True) (fun s=>[(4, .pointer (some ⟨b4,0,none⟩)),(5, .pointer (some ⟨s.1,0,none⟩)),(6, .pointer (some ⟨s.2.1,0,none⟩)),(8, .agg (Zd s.2.2.1.fr)),(10, .agg (Zd s.2.2.2.fr))]) (fun s=>⟨s.1,Zd s.2.2.1.fr,162⟩::⟨s.2.1,Zd s.2.2.2.fr,162⟩::⟨b4,Zn (Q 0),33⟩::(s.2.2.1.mem++s.2.2.2.mem)) ?_ (fun s _=>?_)
 ·(refine Zkp (.v [0,2] (.br 1 (.br 3 (.br 4 (.br 5 (.br 6 (.br 7 (.fin) (.no)) (.no)) (.no)) (.br 5 (.br 4 (.br 6 (.br 7 (.fin) (.no)) (.no)) (.no)) (.no))) (.br 4 (.br 3 (.br 5 (.br 6 (.br 7 (.fin) (.no)) (.no)) (.no)) (.br 5 (.br 3 (.br 6 (.br 7 (.fin) (.no)) (.no)) (.no)) (.no))) (.br 5 (.br 3 (.br 4 (.br 6 (.br 7 (.fin) (.no)) (.no)) (.no)) (.br 4 (.br 3 (.br 6 (.br 7 (.fin) (.no)) (.no)) (.no)) (.no))) (.no)))) (.br 4 (.br 1 (.br 3 (.br 5 (.br 6 (.br 7 (.fin) (.no)) (.no)) (.no)) (.br 5 (.br 3 (.br 6 (.br 7 (.fin) (.no)) (.no)) (.no)) (.no))) (.br 5 (.br 1 (.br 3 (.br 6 (.br 7 (.fin) (.no)) (.no)) (.no)) (.no)) (.no))) (.br 5 (.br 1 (.br 3 (.br 4 (.br 6 (.br 7 (.fin) (.no)) (.no)) (.no)) (.br 4 (.br 3 (.br 6 (.br 7 (.fin) (.no)) (.no)) (.no)) (.no))) (.br 4 (.br 1 (.br 3 (.br 6 (.br 7 (.fin) (.no)) (.no)) (.no)) (.no)) (.no))) (.no))))) ([⟨b3,Zn (Q y),33⟩,⟨b2,Zn (Q x),33⟩]) (h:=?_);refine wkQ ?_)
  repeat' (first|(with_reducible refine And.intro ?_ ?_)|(with_reducible exact True.intro)|(refine wkT ?_;intros)|(refine tC rfl rfl ?_ ?_;focus(first|exact trivial|exact hx|exact hy))|(refine uC rfl rfl ?_ ?_;focus(first|exact trivial|exact hx|exact hy))|(refine eN rfl rfl ?_ ?_;(focus(first|exact trivial|exact hx|exact hy));intro _;(try simp only[Wf,Wg,Wh]))|fail)
  all_goals exact Zbg ⟨_,_,_,_⟩ trivial sbB inferInstance
 obtain⟨b5,b6,sx,sy⟩:=s
 simp only[FrO.fr_eq,FrO.mem,List.append_assoc]
 have hp1:(dI x.num.natAbs).length<=1099511627776/\(dI y.num.natAbs).length<=1099511627776:=⟨by omega,by omega⟩
 have hp3:(dI x.den).length<=1099511627776/\(dI y.den).length<=1099511627776:=⟨by omega,by omega⟩
 have hP:=Zcm x1 y1
 have hD:=Zcm x2 y2
 have hd0:0<x.den*y.den:=Nat.mul_pos x.den_pos y.den_pos
 have hpr:=ZdK x y
 have hden:(x.den:Int)*y.den=((x.den*y.den:Nat):Int):=(Int.natCast_mul _ _).symm
 have hk:Rat.divInt (sgI (decide (x.num<0) != decide (y.num<0)) (x.num.natAbs*y.num.natAbs)) ((x.den*y.den:Nat):Int)=x*y:=by
  rw[hpr,hden]
  congr 1
  conv=>rhs;rw[ZdC x.num,ZdC y.num]
  unfold sgI
  cases decide (x.num<0) <;> cases decide (y.num<0) <;> simp[Int.mul_neg,Int.neg_mul,Int.neg_neg]
 have hcc:((dI (x.num.natAbs*y.num.natAbs)).length<=1073741824/\(dI (x.den*y.den)).length<=1073741824)/\0<x.den*y.den:=⟨⟨by omega,by omega⟩,hd0⟩
 repeat(refine wkB ?_;intros)
 (refine ZH (.v [0,1,2,3,4,5,6,7,8,10,11,12,13] (.e1 9 (.e1 14 (.v [15] (.e1 16 (.e1 17 (.fin))))))) ([⟨b5,Zd ⟨decide (x.num<0),flH sx.n,flH sx.d⟩,162⟩,⟨b6,Zd ⟨decide (y.num<0),flH sy.n,flH sy.d⟩,162⟩]) (h:=?_);refine wkX ?_)
 repeat' (first|(with_reducible refine And.intro ?_ ?_)|(with_reducible exact True.intro)|(refine wkT ?_;intros)|(refine tC rfl rfl ?_ ?_;focus(first|exact hp1|exact hp3|exact hcc))|(refine uC rfl rfl ?_ ?_;focus(first|exact hp1|exact hp3|exact hcc))|(refine eN rfl rfl ?_ ?_;(focus(first|exact hp1|exact hp3|exact hcc));intro _;(try simp only[Wf,Wg,Wh]))|fail)
 all_goals simp only[hk]
 all_goals(repeat(refine wkB ?_;intros))
 all_goals exact rtC rfl rfl
end
section
theorem ZqB {a b:Int}(h:a<=0):a.tmod b= -((-a) % b):=by
 rw[show a= -(-a) by omega,Int.neg_tmod,Int.tmod_eq_emod_of_nonneg (show 0<= -a by omega),Int.neg_neg]
theorem Zq3 {a b:Int}(h:a<=0):a.tdiv b= -((-a) / b):=by
 rw[show a= -(-a) by omega,Int.neg_tdiv,Int.tdiv_eq_ediv_of_nonneg (show 0<= -a by omega),Int.neg_neg]
section
variable {P : Program} {w0 : World} {n : Nat} {L : List Blk} {E : Env} {x y : Operand} {T T' : TypeId} {a b : Int}
variable {d : Option Tmp} {ty : TypeId} {pos : String} {aft : Array Edge} {gd : Option (Nat × Bool)}
theorem ZlM (hx:Env.ev E x=some (.int .i64 a))(hy:Env.ev E y=some (.int .i64 b))(h:a<=0/\1<=b):Yl P w0 n L E ⟨d, .binOp .rem T x y T',ty,pos,aft,gd⟩ (.int .i64 (-((-a) % b))):=Zan hx hy fun w=>by rw[Zes _ _ (by omega),ZqB h.1]
theorem Zm1 (hx:Env.ev E x=some (.int .i64 a))(hy:Env.ev E y=some (.int .i64 b))(h:(-9223372036854775808<=a/\a<=0)/\2<=b):Yl P w0 n L E ⟨d, .binOp .quo T x y T',ty,pos,aft,gd⟩ (.int .i64 (-((-a) / b))):=Zan hx hy fun w=>by
 rw[ZfV _ _ (by omega),IntWalk.i64_quo' _ _ ⟨by omega,by omega,by omega⟩,Zq3 h.1.2]
end
theorem Zy1 (z:Int):(⟨decide (z<0)&&decide (z.natAbs≠0),mag z.natAbs⟩:ZN)=I z:=by
 unfold I
 congr 1
 by_cases h:z<0
 ·rw[Wc h,Wc (show z.natAbs≠0 by omega)];rfl
 ·rw[We h];rfl
set_option maxHeartbeats 4000000 in
instance ZAJ (z:Int):SpecC prog 119 [.int .i64 z] (vI z) (-9223372036854775808<=z/\z<=9223372036854775807):=⟨fun hz w=>by
 have hk:=Zy1 z
 have e256:(256:Nat) ^ 8=18446744073709551616:=by decide
 have hlen:(dI z.natAbs).length<=8:=ZT.2 (by omega)
 refine Zb Tryz.func119 rfl Tryz.ntmps119 rfl ?_
 repeat(refine wkB ?_;intros)
 rename_i b2
 refine Zad (S:=FlS (eI .i64) 1 (dI z.natAbs)) (fun _=>True) (fun s=>[(0, .int .i64 z),(2, .pointer (some ⟨b2,0,none⟩)),(3,vF s)]) (fun s=>mF 3 s++[⟨b2,Zt (I 0),31⟩]) ?_ (fun s _=>?_)
 ·rcases Int.le_total 0 z with hs|hs
  ·rw[show(Value.int .i64 z)= .int .i64 ((z.natAbs:Nat):Int) by congr 1;omega]
   refine Zq (S:=(r:Nat)×(xs:List Int)×SlS (eI .i64) 1 xs) (fun q=>q.2.1++dI q.1=dI z.natAbs/\q.1<=z.natAbs) (fun q=>[(0, .int .i64 ((z.natAbs:Nat):Int)),(2, .pointer (some ⟨b2,0,none⟩)),(4, .int .i64 (q.1:Nat)),(3,vSl q.2.2)]) (fun q=>mS 3 q.2.2++[⟨b2,Zt (I 0),31⟩]) (fun q=>q.1) ⟨z.natAbs,[],SlS.no⟩ ⟨rfl,Wl _⟩ sbB suB (fun q hq=>?_)
   obtain⟨r,xs,o⟩:=q
   obtain⟨hq,hr⟩:=hq
   simp only at hq hr⊢
   have hl:=congrArg List.length hq
   rw[Wp] at hl
   by_cases h0:r=0
   ·subst h0
    rw[Zdu,Wh] at hq
    obtain⟨f,g1,g2⟩:=o.fl hq
    repeat(refine wkB ?_;intros)
    try simp only[Wc (show((0:Nat):Int)=0 from rfl),Bool.not_true]
    repeat(refine wkB ?_;intros)
    exact Zj f trivial (by simp only[g1];exact sbB) (by simp only[g2];exact suB)
   ·have hst:=Zb8 (n:=r) h0
    have e1:(r:Int) % 256=((r % 256:Nat):Int):=by omega
    have e2:(r:Int) / 256=((r / 256:Nat):Int):=by omega
    have hq':(xs++[((r % 256:Nat):Int)])++dI (r / 256)=dI z.natAbs:=by rw[<-hq,hst,List.append_assoc];rfl
    repeat(refine wkB ?_;intros)
    simp only[We (show¬(r:Int)=0 by omega),Bool.not_false]
    repeat(refine wkB ?_;intros)
    simp only[e1]
    repeat(refine wkB ?_;intros)
    simp only[We (show¬((r % 256:Nat):Int)<0 by omega)]
    repeat(refine wkB ?_;intros)
    refine sU rfl rfl ?_ ?_ ?_ ?_
    ·rfl
    ·rfl
    ·exact⟨by decide,by omega,by omega⟩
    intro o'
    repeat(refine wkB ?_;intros)
    simp only[e2]
    exact Zg ⟨r / 256,_,o'⟩ ⟨hq',Wi (Nat.div_le_self _ _) hr⟩ sbB suB (by show r / 256<r;omega)
  ·refine Zq (S:=(r:Nat)×(xs:List Int)×SlS (eI .i64) 1 xs) (fun q=>q.2.1++dI q.1=dI z.natAbs/\q.1<=z.natAbs) (fun q=>[(0, .int .i64 z),(2, .pointer (some ⟨b2,0,none⟩)),(4, .int .i64 (-(q.1:Nat))),(3,vSl q.2.2)]) (fun q=>mS 3 q.2.2++[⟨b2,Zt (I 0),31⟩]) (fun q=>q.1) ⟨z.natAbs,[],SlS.no⟩ ⟨rfl,Wl _⟩ (by rw[show-((z.natAbs:Nat):Int)=z by omega];exact sbB) suB (fun q hq=>?_)
   obtain⟨r,xs,o⟩:=q
   obtain⟨hq,hr⟩:=hq
   simp only at hq hr⊢
   have hl:=congrArg List.length hq
   rw[Wp] at hl
   by_cases h0:r=0
   ·subst h0
    rw[Zdu,Wh] at hq
    obtain⟨f,g1,g2⟩:=o.fl hq
    repeat(refine wkB ?_;intros)
    try simp only[Wc (show-((0:Nat):Int)=0 by rfl),Bool.not_true]
    repeat(refine wkB ?_;intros)
    exact Zj f trivial (by simp only[g1];exact sbB) (by simp only[g2];exact suB)
   ·have hst:=Zb8 (n:=r) h0
    have e1: -(- -(r:Int) % 256)= -((r % 256:Nat):Int):=by omega
    have e2: -(- -(r:Int) / 256)= -((r / 256:Nat):Int):=by omega
    have hq':(xs++[((r % 256:Nat):Int)])++dI (r / 256)=dI z.natAbs:=by rw[<-hq,hst,List.append_assoc];rfl
    repeat(refine wkB ?_;intros)
    simp only[We (show¬-(r:Int)=0 by omega),Bool.not_false]
    repeat(refine wkB ?_;intros)
    refine jq (ZlM rfl rfl (by omega)) rfl rfl ?_
    simp only[e1]
    repeat(refine wkB ?_;intros)
    refine ZY (S:=Unit) (fun _=>True) (fun _=>[(0, .int .i64 z),(2, .pointer (some ⟨b2,0,none⟩)),(4, .int .i64 (-(r:Nat))),(5, .int .i64 ((r % 256:Nat):Int)),(3,vSl o)]) (fun _=>mS 3 o++[⟨b2,Zt (I 0),31⟩]) ?_ (fun _ _=>?_)
    ·by_cases hz0:r % 256=0
     ·simp only[We (show¬-((r % 256:Nat):Int)<0 by omega)]
      repeat(refine wkB ?_;intros)
      refine Zj () trivial ?_ suB
      rw[show((r % 256:Nat):Int)= -((r % 256:Nat):Int) by omega]
      exact sbB
     ·simp only[Wc (show-((r % 256:Nat):Int)<0 by omega)]
      repeat(refine wkB ?_;intros)
      simp only[show(0:Int)- -((r % 256:Nat):Int)=((r % 256:Nat):Int) by omega]
      exact Zj () trivial sbB suB
    repeat(refine wkB ?_;intros)
    refine sU rfl rfl ?_ ?_ ?_ ?_
    ·rfl
    ·rfl
    ·exact⟨by decide,by omega,by omega⟩
    intro o'
    repeat(refine wkB ?_;intros)
    refine jq (Zm1 rfl rfl (by omega)) rfl rfl ?_
    simp only[e2]
    repeat(refine wkB ?_;intros)
    exact Zg ⟨r / 256,_,o'⟩ ⟨hq',Wi (Nat.div_le_self _ _) hr⟩ sbB suB (by show r / 256<r;omega)
 ·have hl:(dI z.natAbs).length<=1099511627776:=by omega
  repeat(first|(refine wkB ?_;intros)|(refine wnM ?_ ?_;(focus(exact hl));intros))
  simp only[hk]
  exact rtC rfl rfl⟩
theorem ZsG (a b:Int)(hb:b≠0):Rat.divInt (sgI (decide (a<0) != decide (b<0)) a.natAbs) (b.natAbs:Nat)=Rat.divInt a b:=by
 by_cases h1:a<0 <;> by_cases h2:b<0
 ·rw[Wc h1,Wc h2,show sgI (true != true) a.natAbs= -a by show((a.natAbs:Nat):Int)= -a;omega,show((b.natAbs:Nat):Int)= -b by omega,Rat.neg_divInt_neg]
 ·rw[Wc h1,We h2,show sgI (true != false) a.natAbs=a by show-((a.natAbs:Nat):Int)=a;omega,show((b.natAbs:Nat):Int)=b by omega]
 ·rw[We h1,Wc h2,show sgI (false != true) a.natAbs= -a by show-((a.natAbs:Nat):Int)= -a;omega,show((b.natAbs:Nat):Int)= -b by omega,Rat.neg_divInt_neg]
 ·rw[We h1,We h2,show sgI (false != false) a.natAbs=a by show((a.natAbs:Nat):Int)=a;omega,show((b.natAbs:Nat):Int)=b by omega]
set_option maxHeartbeats 8000000 in
instance Zx3 (a b:Int):SpecC prog 118 [vI a,vI b] (vQ (Rat.divInt a b)) (b≠0/\mg a<=1073741824/\mg b<=1073741824):=⟨fun hp w=>by
 obtain⟨hb,h1,h2⟩:=hp
 have hk:=ZsG a b hb
 have e1:bN (I a).Mag=a.natAbs:=Zde _
 have e2:bN (I b).Mag=b.natAbs:=Zde _
 have p1:(I a).Mag.size<=1099511627776:=by
  have h3:(I a).Mag.size=mg a:=rfl
  omega
 have p2:(I b).Mag.size<=1099511627776:=by
  have h3:(I b).Mag.size=mg b:=rfl
  omega
 have l1:(dI a.natAbs).length<=1073741824:=by rw[Zbl];exact h1
 have l2:(dI b.natAbs).length<=1073741824:=by rw[Zbl];exact h2
 have hp:((dI (bN (I a).Mag)).length<=1073741824/\(dI (bN (I b).Mag)).length<=1073741824)/\0<bN (I b).Mag:=by
  rw[e1,e2]
  exact⟨⟨l1,l2⟩,by omega⟩
 have hn1:(I a).Neg=decide (a<0):=rfl
 have hn2:(I b).Neg=decide (b<0):=rfl
 rw[<-hk,<-e1,<-e2]
 refine Zb Tryz.func118 rfl Tryz.ntmps118 rfl ?_
 repeat(refine wkB ?_;intros)
 rename_i b2 b3 b4
 (refine ZH (.v [0,1,2,3,4,5,7] (.e1 6 (.e1 8 (.v [9] (.e1 10 (.e1 11 (.fin))))))) ([⟨b3,Zt (I b),31⟩,⟨b2,Zt (I a),31⟩]) (h:=?_);refine wkX ?_)
 repeat' (first|(with_reducible refine And.intro ?_ ?_)|(with_reducible exact True.intro)|(refine wkT ?_;intros)|(refine tC rfl rfl ?_ ?_;focus(first|exact p1|exact p2|exact hp))|(refine uC rfl rfl ?_ ?_;focus(first|exact p1|exact p2|exact hp))|(refine eN rfl rfl ?_ ?_;(focus(first|exact p1|exact p2|exact hp));intro _;(try simp only[Wf,Wg,Wh]))|fail)
 all_goals(repeat(refine wkB ?_;intros))
 all_goals exact rtC rfl rfl⟩
instance ZA8 (a b:Int):SpecC prog 76 [.int .i64 a, .int .i64 b] (vQ (Rat.divInt a b)) (b≠0/\(-9223372036854775808<=a/\a<=9223372036854775807)/\(-9223372036854775808<=b/\b<=9223372036854775807)):=⟨fun hp w=>by
 obtain⟨hb,h1,h2⟩:=hp
 have p3:b≠0/\mg a<=1073741824/\mg b<=1073741824:=by
  have e:(256:Nat) ^ 8=18446744073709551616:=by decide
  have m1:mg a<=8:=Zb0 (by omega)
  have m2:mg b<=8:=Zb0 (by omega)
  exact⟨hb,by omega,by omega⟩
 refine Zb Tryz.func76 rfl Tryz.ntmps76 rfl ?_
 repeat(first|(refine wkB ?_;intros)|(refine wnM ?_ ?_;(focus(first|exact h1|exact h2|exact p3));intros))
 exact rtC rfl rfl⟩
instance Zzy (x y:Rat):SpecC prog 77 [vQ x,vQ y] (vQ (x*y)) (M x<=268435456/\M y<=268435456):=⟨fun hp w=>ZmI x y w hp⟩
end
end Go.Vt
