/- For any up to 12 units whose ends have up to 20 bytes, and for any decoded moving label (up to 8 stretches), Check returns OK or the first error. Conditions: none. (part 14 of 28.) Conditions: those that each statement names. -/
set_option linter.unusedVariables false
namespace Go.Vt
def ps (r u v:Rat):Prop:=(0<u/\v*v*r<u*u)\/(0<v/\u*u<v*v*r)
def Rk (r:Rat):Prop:=r=0\/(0<r/\∀q:Rat,q*q≠r)
theorem ZaD (a:Rat):0<=a*a:=by
 rcases Rat.le_total (a:=0) (b:=a) with h|h
 ·exact Rat.mul_nonneg h h
 ·have:=Rat.mul_nonneg (show 0<= -a by grind) (show 0<= -a by grind)
  grind
theorem ZgS {a b:Rat}(hb:0<b)(h:a*a<b*b):a<b/\ -b<a:=by
 constructor
 ·by_cases hc:a<b
  ·exact hc
  ·have:=Rat.mul_nonneg (show 0<=a-b by grind) (show 0<=a+b by grind)
   grind
 ·by_cases hc: -b<a
  ·exact hc
  ·have:=Rat.mul_nonneg (show 0<= -a-b by grind) (show 0<= -a+b by grind)
   grind
theorem Zu0 {a b:Rat}(ha:0<=a)(h:a<b):a*a<b*b:=by
 have:=Rat.mul_pos (show 0<b-a by grind) (show 0<b+a by grind)
 grind
theorem Zcl {a b c:Rat}(h:a<b)(hc:0<c):a*c<b*c:=by
 have:=Rat.mul_pos (show 0<b-a by grind) hc
 grind
theorem Zbt {a b c:Rat}(h:a<=b)(hc:0<=c):a*c<=b*c:=by
 have:=Rat.mul_nonneg (show 0<=b-a by grind) hc
 grind
theorem Rk.nn {r:Rat}(h:Rk r):0<=r:=by rcases h with h|h <;> grind
theorem Rk.sq {r u v:Rat}(h:Rk r)(e:u*u=v*v*r)(hv:v≠0):r=0/\u=0:=by
 rcases h with h|⟨h1,h2⟩
 ·subst h
  refine⟨rfl, ?_⟩
  have:u*u=0:=by grind
  grind
 ·exfalso
  exact h2 (u / v) (by grind)
theorem Zhn {r a b c d:Rat}(hr:0<=r)(h:ps r a b)(k:ps r c d):ps r (a*c+b*d*r) (a*d+b*c):=by
 have e:(a*c+b*d*r)*(a*c+b*d*r)-(a*d+b*c)*(a*d+b*c)*r=(a*a-b*b*r)*(c*c-d*d*r):=by grind
 rcases h with⟨h1,h2⟩|⟨h1,h2⟩ <;> rcases k with⟨k1,k2⟩|⟨k1,k2⟩
 ·have hp:=Rat.mul_pos (show 0<a*a-b*b*r by grind) (show 0<c*c-d*d*r by grind)
  refine .inl ⟨?_,by grind⟩
  have hac:=Rat.mul_pos h1 k1
  have q1:(b*d*r)*(b*d*r)<(a*c)*(a*c):=by
   have t1:=Zcl h2 (Rat.mul_pos k1 k1)
   have t2:=Zbt (Rat.le_of_lt k2) (Rat.mul_nonneg (ZaD b) hr)
   grind
  have:=(ZgS hac q1).2
  grind
 ·have hp:=Rat.mul_pos (show 0<a*a-b*b*r by grind) (show 0<d*d*r-c*c by grind)
  refine .inr ⟨?_,by grind⟩
  have hac:=Rat.mul_pos h1 k1
  have q1:(b*c)*(b*c)<(a*d)*(a*d):=by
   have t1:=Zcl h2 (Rat.mul_pos k1 k1)
   have t2:=Zbt (Rat.le_of_lt k2) (ZaD b)
   grind
  have:=(ZgS hac q1).2
  grind
 ·have hp:=Rat.mul_pos (show 0<b*b*r-a*a by grind) (show 0<c*c-d*d*r by grind)
  refine .inr ⟨?_,by grind⟩
  have hac:=Rat.mul_pos h1 k1
  have q1:(a*d)*(a*d)<(b*c)*(b*c):=by
   have t1:=Zcl k2 (Rat.mul_pos h1 h1)
   have t2:=Zbt (Rat.le_of_lt h2) (ZaD d)
   grind
  have:=(ZgS hac q1).2
  grind
 ·have hp:=Rat.mul_pos (show 0<b*b*r-a*a by grind) (show 0<d*d*r-c*c by grind)
  have hr0:0<r:=by
   by_cases h0:r=0
   ·subst h0
    have:=ZaD a
    grind
   ·grind
  refine .inl ⟨?_,by grind⟩
  have hac:=Rat.mul_pos (Rat.mul_pos h1 k1) hr0
  have q1:(a*c)*(a*c)<(b*d*r)*(b*d*r):=by
   have t1:=Zbt (Rat.le_of_lt h2) (ZaD c)
   have t2:=Zcl k2 (show 0<b*b*r from Rat.mul_pos (Rat.mul_pos h1 h1) hr0)
   grind
  have:=(ZgS hac q1).2
  grind
theorem ZaZ {r a b e:Rat}(hr:Rk r)(h:ps r a b)(he:0<=e):ps r (a+e) b:=by
 rcases h with⟨h1,h2⟩|⟨h1,h2⟩
 ·refine .inl ⟨by grind, ?_⟩
  have:=Rat.mul_nonneg he (show 0<=a+a+e by grind)
  grind
 ·by_cases hc:(a+e)*(a+e)<b*b*r
  ·exact .inr ⟨h1,hc⟩
  ·refine .inl ⟨?_, ?_⟩
   ·by_cases h0:0<a+e
    ·exact h0
    ·have:=Rat.mul_nonneg he (show 0<= -(a+a+e) by grind)
     grind
   ·by_cases h0:(a+e)*(a+e)=b*b*r
    ·have h3:=hr.sq h0 (by grind)
     rw[h3.1] at h2
     have:=ZaD a
     grind
    ·grind
theorem Zlp {r a b:Rat}(hr:Rk r):ps r a b\/(a=0/\(b=0\/r=0))\/ps r (-a) (-b):=by
 unfold ps
 by_cases e:a*a=b*b*r
 ·by_cases hb:b=0
  ·subst hb
   have:a=0:=by grind
   grind
  ·have:=hr.sq e hb
   grind
 ·rcases(show a*a<b*b*r\/b*b*r<a*a by grind) with h|h
  ·have hb:b≠0:=fun h0=>by subst h0;have:=ZaD a;grind
   grind
  ·have ha:a≠0:=fun h0=>by
    subst h0
    have:=Rat.mul_nonneg (ZaD b) hr.nn
    grind
   grind
theorem Zfv {r a b:Rat}(h:ps r a b):¬ps r (-a) (-b):=by
 unfold ps at*
 grind
theorem Zdd {r b:Rat}(h:b=0\/r=0):¬ps r 0 b:=by
 unfold ps
 rcases h with h|h <;> subst h <;> grind
theorem Zmn {r a b c d:Rat}(hr:Rk r)(h:ps r (a*c+b*d*r) (a*d+b*c))(k:ps r c d):ps r a b:=by
 rcases Zlp (a:=a) (b:=b) hr with h1|⟨h1,h2⟩|h1
 ·exact h1
 ·exfalso
  subst h1
  have e1:(0*c+b*d*r:Rat)=0:=by rcases h2 with h2|h2 <;> subst h2 <;> grind
  rw[e1] at h
  rcases h2 with h2|h2
  ·subst h2
   exact Zdd (.inl (by grind)) h
  ·exact Zdd (.inr h2) h
 ·exfalso
  have h3:=Zhn hr.nn h1 k
  rw[show-a*c+ -b*d*r= -(a*c+b*d*r) by grind,show-a*d+ -b*c= -(a*d+b*c) by grind] at h3
  exact Zfv h h3
def sgn (n:Bool):Rat:=if n then-1 else 1
theorem Zhr (n:Bool):sgn n*sgn n=1:=by cases n <;> simp[sgn] <;> grind
structure RV where
 p:Rat
 r:Rat
 n:Bool
 deriving DecidableEq
structure RV.ok (x:RV):Prop where
 k:Rk x.r
 z:x.r=0->x.n=false
def RV.lq (x:RV)(q:Rat):Prop:=ps x.r (q-x.p) (-sgn x.n)
def RV.ql (q:Rat)(x:RV):Prop:=ps x.r (x.p-q) (sgn x.n)
def RV.lt (x y:RV):Prop:=∃q,x.lq q/\RV.ql q y
theorem RV.lq_mono {x:RV}(h:x.ok){q q':Rat}(k:x.lq q)(hq:q<=q'):x.lq q':=by
 have:=ZaZ (e:=q'-q) h.k k (by grind)
 unfold RV.lq
 rwa [show q'-x.p=q-x.p+(q'-q) by grind]
theorem RV.lq_ql {x:RV}{q:Rat}(h:x.lq q)(k:RV.ql q x):False:=by
 refine Zfv k ?_
 rwa [show-(x.p-q)=q-x.p by grind]
theorem RV.ql_lq_lt {x:RV}(h:x.ok){q q':Rat}(k:RV.ql q x)(l:x.lq q'):q<q':=by
 by_cases hq:q<q'
 ·exact hq
 ·exact(RV.lq_ql (RV.lq_mono h l (q':=q) (by grind)) k).elim
theorem RV.lt_irr {x:RV}(h:x.lt x):False:=by
 obtain⟨q,h1,h2⟩:=h
 exact RV.lq_ql h1 h2
theorem RV.lt_tr {x y z:RV}(hx:x.ok)(hy:y.ok)(h:x.lt y)(k:y.lt z):x.lt z:=by
 obtain⟨q,h1,h2⟩:=h
 obtain⟨q',k1,k2⟩:=k
 have:=RV.ql_lq_lt hy h2 k1
 exact⟨q',RV.lq_mono hx h1 (by grind),k2⟩
theorem ZnR (e w:Rat)(he:0<e):∃k:Nat,w<e*(2 ^ k:Nat):=by
 obtain⟨n,hn⟩:∃n:Nat,w / e<(n:Rat):=by
  refine⟨(w / e).floor.toNat+1, ?_⟩
  have h1:=Rat.lt_floor_add_one (w / e)
  have h2:(w / e).floor+1<=(((w / e).floor.toNat+1:Nat):Int):=by omega
  have h3:(((w / e).floor+1:Int):Rat)<=((((w / e).floor.toNat+1:Nat):Int):Rat):=Rat.intCast_le_intCast.2 h2
  rw[Rat.intCast_natCast] at h3
  exact Std.lt_of_lt_of_le h1 h3
 refine⟨n, ?_⟩
 have h2:(n:Rat)<=((2 ^ n:Nat):Rat):=by
  have:= @Nat.lt_two_pow_self n
  exact_mod_cast Nat.le_of_lt this
 have h4:w / e*e=w:=by grind
 have h5:=Zcl (show w / e<((2 ^ n:Nat):Rat) by grind) he
 grind
theorem bisect {r:Rat}(hr:0<=r):∀k:Nat,∃b:Rat,0<=b/\b*b<=r/\r<(b+(r+1) / (2 ^ k:Nat))*(b+(r+1) / (2 ^ k:Nat))
 |0=>⟨0,by grind,by grind,by
   have:=ZaD r
   simp
   grind⟩
 |k+1=>by
  obtain⟨b,h1,h2,h3⟩:=bisect hr k
  have e:(r+1) / ((2 ^ k:Nat):Rat)=(r+1) / ((2 ^ (k+1):Nat):Rat)+(r+1) / ((2 ^ (k+1):Nat):Rat):=by
   have hp:((2 ^ k:Nat):Rat)≠0:=by
    have:=Nat.two_pow_pos k
    exact_mod_cast (by omega:(2 ^ k:Nat)≠0)
   have e2:((2 ^ (k+1):Nat):Rat)=((2 ^ k:Nat):Rat)*2:=by
    rw[Nat.pow_succ]
    push_cast
    rfl
   rw[e2]
   grind
  rw[e] at h3
  generalize hd:(r+1) / ((2 ^ (k+1):Nat):Rat)=d at*
  have hd0:0<=d:=by
   rw[<-hd]
   have hp:(0:Rat)<((2 ^ (k+1):Nat):Rat):=by
    have:=Nat.two_pow_pos (k+1)
    exact_mod_cast this
   by_cases hc:0<=(r+1) / ((2 ^ (k+1):Nat):Rat)
   ·exact hc
   ·have h5:=Zcl (show(r+1) / ((2 ^ (k+1):Nat):Rat)<0 by grind) hp
    have h6:(r+1) / ((2 ^ (k+1):Nat):Rat)*((2 ^ (k+1):Nat):Rat)=r+1:=by
     generalize ((2 ^ (k+1):Nat):Rat)=P at*
     grind
    grind
  by_cases hc:(b+d)*(b+d)<=r
  ·exact⟨b+d,by grind,hc,by rw[show b+d+d=b+(d+d) by grind];exact h3⟩
  ·exact⟨b,h1,h2,by grind⟩
theorem ZcW {r e:Rat}(hr:0<=r)(he:0<e):∃b c:Rat,0<=b/\b<c/\b*b<=r/\r<c*c/\c*c<r+e/\r-e<b*b:=by
 obtain⟨k,hk⟩:=ZnR e ((r+1)*(2*(r+1)+(r+1))) he
 obtain⟨b,h1,h2,h3⟩:=bisect hr k
 have hp:(0:Rat)<((2 ^ k:Nat):Rat):=by
  have:=Nat.two_pow_pos k
  exact_mod_cast this
 have hp1:(1:Rat)<=((2 ^ k:Nat):Rat):=by
  have:=Nat.two_pow_pos k
  exact_mod_cast this
 generalize ((2 ^ k:Nat):Rat)=P at*
 obtain⟨d,hd⟩:∃d,d=(r+1) / P:=⟨_,rfl⟩
 have hdP:d*P=r+1:=by rw[hd];grind
 rw[<-hd] at h3
 have hd0:0<d:=by
  by_cases hc:0<d
  ·exact hc
  ·have:=Zbt (show d<=0 by grind) (Rat.le_of_lt hp)
   grind
 have hd1:d<=r+1:=by
  by_cases hc:d<=r+1
  ·exact hc
  ·have h5:=Rat.mul_nonneg (Rat.le_of_lt hd0) (show 0<=P-1 by grind)
   grind
 have hb1:b<=r+1:=by
  by_cases hc:b<=r+1
  ·exact hc
  ·have h5:=Zu0 (show 0<=r+1 by grind) (show r+1<b by grind)
   have h6:=ZaD r
   grind
 have hlt:d*(2*b+d)<e:=by
  by_cases hc:d*(2*b+d)<e
  ·exact hc
  ·have h5:=Zbt (show e<=d*(2*b+d) by grind) (Rat.le_of_lt hp)
   have h6:=Zbt (show 2*b+d<=2*(r+1)+(r+1) by grind) (show 0<=r+1 by grind)
   have h7:d*(2*b+d)*P=(2*b+d)*(r+1):=by grind
   grind
 exact⟨b,b+d,h1,by grind,h2,h3,by grind,by grind⟩
theorem Zd2 {r a b:Rat}(hr:Rk r)(h:ps r a b):∃e:Rat,0<e/\ps r (a-e) b:=by
 rcases h with⟨h1,h2⟩|⟨h1,h2⟩
 ·obtain⟨e,e1,e2,e3⟩:∃e:Rat,0<e/\e<a/\b*b*r<(a-e)*(a-e):=by
   obtain⟨n,hn⟩:∃n,n=a*a-b*b*r:=⟨_,rfl⟩
   by_cases hc:n<2*a*a
   ·obtain⟨e,he⟩:∃e,e=n / (2*a):=⟨_,rfl⟩
    have e1:e*(2*a)=n:=by rw[he];grind
    have e0:0<e:=by
     by_cases h0:0<e
     ·exact h0
     ·have:=Zbt (show e<=0 by grind) (show 0<=2*a by grind)
      grind
    have e2:e<a:=by
     by_cases h0:e<a
     ·exact h0
     ·have:=Zbt (show a<=e by grind) (show 0<=2*a by grind)
      grind
    have:=Rat.mul_pos e0 e0
    exact⟨e,e0,e2,by grind⟩
   ·refine⟨a / 2,by grind,by grind, ?_⟩
    have h3:=Rat.mul_pos h1 h1
    have h4:=Rat.mul_nonneg (ZaD b) hr.nn
    grind
  exact⟨e,e1, .inl ⟨by grind,e3⟩⟩
 ·obtain⟨c,hc⟩:∃c,c=b*b*r-a*a:=⟨_,rfl⟩
  by_cases ha:0<=a
  ·by_cases h0:0<a
   ·refine⟨a,h0, .inr ⟨h1, ?_⟩⟩
    have:=Rat.mul_nonneg (ZaD b) hr.nn
    have:=Rat.mul_pos h0 h0
    grind
   ·have h00:a=0:=by grind
    subst h00
    by_cases h4:c<=1
    ·refine⟨c / 2,by grind, .inr ⟨h1, ?_⟩⟩
     have:=Zcl (show c / 2<1 by grind) (show 0<c / 2 by grind)
     grind
    ·exact⟨1 / 2,by grind, .inr ⟨h1,by grind⟩⟩
  ·obtain⟨m,hm⟩:∃m,m=1-2*a:=⟨_,rfl⟩
   have hm0:1<m:=by grind
   by_cases h4:c<=m
   ·obtain⟨e,he⟩:∃e,e=c / (2*m):=⟨_,rfl⟩
    have e1:e*(2*m)=c:=by rw[he];grind
    have e0:0<e:=by
     by_cases h0:0<e
     ·exact h0
     ·have:=Zbt (show e<=0 by grind) (show 0<=2*m by grind)
      grind
    have e2:e<1:=by
     by_cases h0:e<1
     ·exact h0
     ·have:=Zbt (show 1<=e by grind) (show 0<=2*m by grind)
      grind
    have e3:=Zcl e2 e0
    refine⟨e,e0, .inr ⟨h1, ?_⟩⟩
    have e4:e*m=c / 2:=by clear he;grind
    have e5:e*m=e-2*(a*e):=by rw[hm];grind
    have e6:(a-e)*(a-e)=a*a-2*(a*e)+e*e:=by grind
    clear he e1
    grind
   ·refine⟨1 / 2,by grind, .inr ⟨h1,by grind⟩⟩
def sg1 (u v r:Rat):Int:=if 0<u/\v*v*r<u*u\/0<v/\u*u<v*v*r then 1 else if u=0/\(v=0\/r=0) then 0 else-1
theorem Zat {u v r:Rat}:sg1 u v r=1↔ps r u v:=by
 unfold sg1 ps
 split
 ·rename_i h;exact⟨fun _=>h,fun _=>rfl⟩
 ·rename_i h
  split
  ·exact⟨fun k=>by simp at k,fun k=>(h k).elim⟩
  ·exact⟨fun k=>by simp at k,fun k=>(h k).elim⟩
theorem ZaS {u v r:Rat}(hr:Rk r):sg1 u v r= -1↔ps r (-u) (-v):=by
 constructor
 ·intro h
  rcases Zlp (a:=u) (b:=v) hr with h1|h1|h1
  ·rw[Zat.2 h1] at h;cases h
  ·have h2:¬ps r u v:=by
    rw[h1.1]
    exact Zdd h1.2
   unfold sg1 at h
   unfold ps at h2
   rw[if_neg h2,if_pos h1] at h
   cases h
  ·exact h1
 ·intro h
  have h2:¬ps r u v:=fun k=>Zfv k h
  have h3:¬(u=0/\(v=0\/r=0)):=fun k=>by
   rw[k.1,show-(0:Rat)=0 by grind] at h
   exact Zdd (k.2.imp (fun e=>by grind) id) h
  unfold sg1
  unfold ps at h2
  rw[if_neg h2,if_neg h3]
theorem Zb1 {u v r:Rat}:sg1 u v r=0↔u=0/\(v=0\/r=0):=by
 constructor
 ·intro h
  unfold sg1 at h
  split at h
  ·cases h
  ·split at h
   ·assumption
   ·cases h
 ·intro h
  have h2:¬ps r u v:=by rw[h.1];exact Zdd h.2
  unfold sg1
  unfold ps at h2
  rw[if_neg h2,if_pos h]
theorem ZaU (u v r:Rat):sg1 u v r=1\/sg1 u v r=0\/sg1 u v r= -1:=by
 unfold sg1
 split
 ·exact .inl rfl
 ·split
  ·exact .inr (.inl rfl)
  ·exact .inr (.inr rfl)
def cR (x y:RV):Int:=
 let m:=sg1 (x.p-y.p) (sgn x.n) x.r
 let n:Int:=if y.r=0 then 0 else if y.n then 1 else-1
 if n=0\/m=n then m else if m=0 then n else m*sg1 ((x.p-y.p)*(x.p-y.p)+x.r-y.r) (2*((x.p-y.p)*sgn x.n)) x.r
theorem ZlN {r e:Rat}(h:0<e):ps r e 0:= .inl ⟨h,by have:=Rat.mul_pos h h;grind⟩
theorem ZpC {x y:RV}(hx:x.ok)(hy:y.ok)(h:x.lt y):cR x y= -1:=by
 obtain⟨q,h1,h2⟩:=h
 have hs:=Zhr x.n
 have hk:=hx.k
 unfold RV.lq at h1
 unfold RV.ql at h2
 have h1':ps x.r ((q-y.p)-(x.p-y.p)) (-sgn x.n):=by rwa [show q-y.p-(x.p-y.p)=q-x.p by grind]
 have h2':ps y.r (-(q-y.p)) (sgn y.n):=by rwa [show-(q-y.p)=y.p-q by grind]
 unfold cR
 generalize x.p-y.p=a at*
 generalize q-y.p=B at*
 clear h1 h2
 by_cases hy0:y.r=0
 ·rw[hy0] at h2'
  have hB:0< -B:=by
   rcases h2' with⟨h, -⟩|⟨-,h⟩
   ·exact h
   ·have:=ZaD (-B);grind
  have h3:ps x.r (-a) (-sgn x.n):=by
   have:=ZaZ (e:= -B) hk h1' (by grind)
   rwa [show B-a+ -B= -a by grind] at this
  simp only[hy0,if_pos,true_or]
  exact(ZaS hk).2 h3
 ·have hr2:0<y.r:=by rcases hy.k with h|h;exact(hy0 h).elim;exact h.1
  simp only[hy0,if_false]
  have h3:ps x.r (a+B) (sgn x.n)->ps x.r (B*B-a*a-x.r) (-(2*(a*sgn x.n))):=fun h3=>by
   have h4:=Zhn hk.nn h1' h3
   rwa [show(B-a)*(a+B)+ -sgn x.n*sgn x.n*x.r=B*B-a*a-(sgn x.n*sgn x.n)*x.r by grind,hs,show(B-a)*sgn x.n+ -sgn x.n*(a+B)= -(2*(a*sgn x.n)) by grind,show(1:Rat)*x.r=x.r by grind] at h4
  cases hn:y.n
  ·-- y has a root that is added
   rw[hn,show sgn false=1 from rfl] at h2'
   simp only[Bool.false_eq_true,if_false]
   rcases ZaU a (sgn x.n) x.r with hm|hm|hm
   ·have hX:=Zat.1 hm
    have hB:0<B:=by
     by_cases h0:0<B
     ·exact h0
     ·have:=ZaZ (e:= -B) hk h1' (by grind)
      rw[show B-a+ -B= -a by grind] at this
      exact(Zfv hX this).elim
    have hB2:B*B<y.r:=by
     rcases h2' with⟨h, -⟩|⟨-,h⟩ <;> grind
    have h4:=ZaZ (e:=y.r-B*B) hk (h3 (ZaZ hk hX (by grind))) (by grind)
    rw[show B*B-a*a-x.r+(y.r-B*B)= -(a*a+x.r-y.r) by grind] at h4
    rw[hm,(ZaS hk).2 h4]
    rfl
   ·rw[hm];rfl
   ·rw[hm];rfl
  ·-- y has a root that is taken away
   rw[hn,show sgn true= -1 from rfl] at h2'
   simp only[if_true]
   have hB:B<0/\y.r<B*B:=by
    rcases h2' with⟨h,h0⟩|⟨h, -⟩
    ·exact⟨by grind,by grind⟩
    ·grind
   have hX:=ZaZ (e:= -B) hk h1' (by grind)
   rw[show B-a+ -B= -a by grind] at hX
   have h5:=ZaZ (e:= -B) hk hX (by grind)
   have h6:=Zhn hk.nn h1' h5
   rw[show(B-a)*(-a+ -B)+ -sgn x.n* -sgn x.n*x.r=a*a-B*B+(sgn x.n*sgn x.n)*x.r by grind,hs,show(B-a)* -sgn x.n+ -sgn x.n*(-a+ -B)=2*(a*sgn x.n) by grind] at h6
   have h7:=ZaZ (e:=B*B-y.r) hk h6 (by grind)
   rw[show a*a-B*B+1*x.r+(B*B-y.r)=a*a+x.r-y.r by grind] at h7
   rw[(ZaS hk).2 hX,Zat.2 h7]
   rfl
def RV.neg (x:RV):RV:=⟨-x.p,x.r,if x.r=0 then false else !x.n⟩
theorem Zdh (n:Bool):sgn (!n)= -sgn n:=by cases n <;> simp[sgn]
theorem ZrJ {u v r:Rat}(hr:Rk r):sg1 (-u) (-v) r= -sg1 u v r:=by
 rcases ZaU u v r with h|h|h
 ·rw[h,ZaS hr,show- -u=u by grind,show- -v=v by grind]
  exact Zat.1 h
 ·have:=Zb1.1 h
  rw[h]
  exact Zb1.2 ⟨by grind,this.2.imp (fun e=>by grind) id⟩
 ·rw[h]
  exact Zat.2 ((ZaS hr).1 h)
theorem ZfA {u v v':Rat}:sg1 u v 0=sg1 u v' 0:=by
 have e:∀w:Rat,sg1 u w 0=if 0<u then 1 else if u=0 then 0 else-1:=fun w=>by
  unfold sg1
  have h2:¬(0<w/\u*u<w*w*0):=fun h=>by have:=ZaD u;grind
  by_cases h:0<u
  ·rw[if_pos (.inl ⟨h,by have:=Rat.mul_pos h h;grind⟩),if_pos h]
  ·rw[if_neg (by grind),if_neg h]
   simp
 rw[e v,e v']
theorem RV.neg_ok {x:RV}(h:x.ok):x.neg.ok:=⟨h.k,fun h0=>by show(if x.r=0 then false else _)=false;rw[if_pos (show x.r=0 from h0)]⟩
theorem RV.neg_neg {x:RV}(h:x.ok):x.neg.neg=x:=by
 obtain⟨p,r,n⟩:=x
 show(⟨- -p,r,_⟩:RV)=_
 have e:(if r=0 then false else !(if r=0 then false else !n))=n:=by
  by_cases h0:r=0
  ·rw[if_pos h0];exact(h.z h0).symm
  ·rw[if_neg h0,if_neg h0,Bool.not_not]
 rw[show(RV.neg ⟨p,r,n⟩).n=(if r=0 then false else !n) from rfl,show(RV.neg ⟨p,r,n⟩).r=r from rfl,e,show- -p=p by grind]
theorem RV.neg_ql {x:RV}{q:Rat}(h:x.neg.lq q):RV.ql (-q) x:=by
 unfold RV.lq at h
 unfold RV.ql
 have e:q-x.neg.p=x.p- -q:=by show q- -x.p=_;grind
 rw[e] at h
 by_cases h0:x.r=0
 ·have h1:=Zat.2 h
  rw[show x.neg.r=x.r from rfl,h0] at h1
  rw[h0]
  exact Zat.1 (ZfA.trans h1)
 ·rw[show x.neg.n= !x.n from if_neg h0,Zdh,show- -sgn x.n=sgn x.n by grind] at h
  exact h
theorem RV.neg_lq {x:RV}{q:Rat}(h:RV.ql q x.neg):x.lq (-q):=by
 unfold RV.ql at h
 unfold RV.lq
 have e:x.neg.p-q= -q-x.p:=by show-x.p-q=_;grind
 rw[e] at h
 by_cases h0:x.r=0
 ·have h1:=Zat.2 h
  rw[show x.neg.r=x.r from rfl,h0] at h1
  rw[h0]
  exact Zat.1 (ZfA.trans h1)
 ·rw[show x.neg.n= !x.n from if_neg h0,Zdh] at h
  exact h
theorem RV.neg_lt {x y:RV}(h:x.neg.lt y.neg):y.lt x:=by
 obtain⟨q,h1,h2⟩:=h
 exact⟨-q,RV.neg_lq h2,RV.neg_ql h1⟩
theorem Zg9 (n:Bool):sgn n≠0:=by cases n <;> simp[sgn] <;> grind
theorem Rk.pos {r:Rat}(h:Rk r)(h0:r≠0):0<r/\∀q:Rat,q*q≠r:=by rcases h with h|h;exact(h0 h).elim;exact h
theorem Zmg {x y:RV}(hx:x.ok)(hy:y.ok):cR x.neg y.neg= -cR x y:=by
 have ha:x.neg.p-y.neg.p= -(x.p-y.p):=by show-x.p- -y.p=_;grind
 have hm:sg1 (-(x.p-y.p)) (sgn x.neg.n) x.r= -sg1 (x.p-y.p) (sgn x.n) x.r:=by
  rw[<-ZrJ hx.k]
  by_cases h0:x.r=0
  ·rw[h0];exact ZfA
  ·rw[show x.neg.n= !x.n from if_neg h0,Zdh]
 have hE:sg1 (-(x.p-y.p)* -(x.p-y.p)+x.r-y.r) (2*(-(x.p-y.p)*sgn x.neg.n)) x.r=sg1 ((x.p-y.p)*(x.p-y.p)+x.r-y.r) (2*((x.p-y.p)*sgn x.n)) x.r:=by
  rw[show-(x.p-y.p)* -(x.p-y.p)=(x.p-y.p)*(x.p-y.p) by grind]
  by_cases h0:x.r=0
  ·rw[h0];exact ZfA
  ·rw[show x.neg.n= !x.n from if_neg h0,Zdh]
   congr 1
   grind
 have hn:(if y.neg.r=0 then(0:Int) else if y.neg.n then 1 else-1)= -(if y.r=0 then(0:Int) else if y.n then 1 else-1):=by
  rw[show y.neg.r=y.r from rfl]
  by_cases h0:y.r=0
  ·rw[if_pos h0,if_pos h0];rfl
  ·rw[if_neg h0,if_neg h0,show y.neg.n= !y.n from if_neg h0]
   cases y.n <;> rfl
 unfold cR
 dsimp only
 rw[hn,ha,show x.neg.r=x.r from rfl,show y.neg.r=y.r from rfl,hm,hE]
 generalize sg1 (x.p-y.p) (sgn x.n) x.r=m
 generalize (if y.r=0 then(0:Int) else if y.n then 1 else-1)=n
 generalize sg1 ((x.p-y.p)*(x.p-y.p)+x.r-y.r) (2*((x.p-y.p)*sgn x.n)) x.r=k
 by_cases h1:n=0\/m=n
 ·rw[if_pos (by omega),if_pos h1]
 ·rw[if_neg (by omega),if_neg h1]
  by_cases h2:m=0
  ·rw[if_pos (by omega),if_pos h2]
  ·rw[if_neg (by omega),if_neg h2,Int.neg_mul]
theorem Ze4 {x y:RV}(hx:x.ok)(hy:y.ok)(h:cR x y= -1):x.lt y:=by
 have hs:=Zhr x.n
 have hk:=hx.k
 have main:∃B,ps x.r (B-(x.p-y.p)) (-sgn x.n)/\ps y.r (-B) (sgn y.n):=by
  unfold cR at h
  generalize x.p-y.p=a at*
  by_cases hy0:y.r=0
  ·simp only[hy0,if_pos,true_or] at h
   obtain⟨e,e0,he⟩:=Zd2 hk ((ZaS hk).1 h)
   refine⟨-e,by rwa [show-e-a= -a-e by grind], ?_⟩
   rw[hy0]
   exact .inl ⟨by grind,by have:=Rat.mul_pos e0 e0;grind⟩
  ·obtain⟨hr2,hsq⟩:=hy.k.pos hy0
   simp only[hy0,if_false] at h
   cases hn:y.n
   ·rw[hn] at h
    simp only[Bool.false_eq_true,if_false] at h
    have fin:∀b,0<=b->b*b<=y.r->ps y.r (-b) (sgn false):=fun b h0 h1=> .inr ⟨by simp[sgn];grind,by have:=hsq b;simp[sgn];grind⟩
    rcases ZaU a (sgn x.n) x.r with hm|hm|hm
    ·rw[hm] at h
     have hX:=Zat.1 hm
     have h1:sg1 (a*a+x.r-y.r) (2*(a*sgn x.n)) x.r= -1:=by
      rw[if_neg (by decide),if_neg (by decide)] at h
      omega
     obtain⟨e,e0,he⟩:=Zd2 hk ((ZaS hk).1 h1)
     obtain⟨b,c,b0, -,b1, -, -,b2⟩:=ZcW (Rat.le_of_lt hr2) e0
     refine⟨b, ?_,fin b b0 b1⟩
     have h2:=ZaZ (e:=b*b-(y.r-e)) hk he (by grind)
     refine Zmn hk (c:=a+b) (d:=sgn x.n) ?_ (ZaZ hk hX b0)
     rwa [show(b-a)*(a+b)+ -sgn x.n*sgn x.n*x.r=b*b-a*a-(sgn x.n*sgn x.n)*x.r by grind,hs,show(b-a)*sgn x.n+ -sgn x.n*(a+b)= -(2*(a*sgn x.n)) by grind,show b*b-a*a-1*x.r= -(a*a+x.r-y.r)-e+(b*b-(y.r-e)) by grind]
    ·obtain⟨b,c,b0, -,b1, -, -,b2⟩:=ZcW (e:=y.r / 2) (Rat.le_of_lt hr2) (by grind)
     have hb:0<b:=by
      by_cases h0:b=0
      ·subst h0;grind
      ·grind
     obtain⟨z1,z2⟩:=Zb1.1 hm
     rcases z2 with z2|z2
     ·exact(Zg9 _ z2).elim
     ·refine⟨b, ?_,fin b b0 b1⟩
      rw[z2]
      exact .inl ⟨by grind,by have:=Rat.mul_pos hb hb;subst z1;grind⟩
    ·obtain⟨b,c,b0, -,b1, -, -,b2⟩:=ZcW (e:=y.r / 2) (Rat.le_of_lt hr2) (by grind)
     refine⟨b, ?_,fin b b0 b1⟩
     have:=ZaZ hk ((ZaS hk).1 hm) b0
     rwa [show b-a= -a+b by grind]
   ·rw[hn] at h
    simp only[if_true] at h
    rcases ZaU a (sgn x.n) x.r with hm|hm|hm
    ·rw[hm] at h;simp at h
    ·rw[hm] at h;simp at h
    ·rw[hm] at h
     have hX:=(ZaS hk).1 hm
     have h1:sg1 (a*a+x.r-y.r) (2*(a*sgn x.n)) x.r=1:=by
      rw[if_neg (by decide),if_neg (by decide)] at h
      omega
     obtain⟨e,e0,he⟩:=Zd2 hk (Zat.1 h1)
     obtain⟨b,c,b0,bc, -,c1,c2, -⟩:=ZcW (Rat.le_of_lt hr2) e0
     refine⟨-c, ?_, ?_⟩
     ·have h2:=ZaZ (e:=y.r+e-c*c) hk he (by grind)
      refine Zmn hk (c:= -a+c) (d:= -sgn x.n) ?_ (ZaZ hk hX (by grind))
      rwa [show(-c-a)*(-a+c)+ -sgn x.n* -sgn x.n*x.r=a*a-c*c+(sgn x.n*sgn x.n)*x.r by grind,hs,show(-c-a)* -sgn x.n+ -sgn x.n*(-a+c)=2*(a*sgn x.n) by grind,show a*a-c*c+1*x.r=a*a+x.r-y.r-e+(y.r+e-c*c) by grind]
     ·exact .inl ⟨by grind,by simp[sgn];grind⟩
 obtain⟨B,h1,h2⟩:=main
 exact⟨B+y.p,by unfold RV.lq;rwa [show B+y.p-x.p=B-(x.p-y.p) by grind],by unfold RV.ql;rwa [show y.p-(B+y.p)= -B by grind]⟩
theorem Zic {x y:RV}(hx:x.ok)(hy:y.ok)(h:cR x y=0):x=y:=by
 have hk:=hx.k
 obtain⟨p,r,n⟩:=x
 obtain⟨p',r',n'⟩:=y
 have hz:=hx.z
 have hz':=hy.z
 have hk':=hy.k
 unfold cR at h
 dsimp only at*
 have hp:∀a,a=p-p'->a=0->p=p':=fun a h1 h2=>by grind
 generalize hA:p-p'=a at*
 by_cases hy0:r'=0
 ·simp only[hy0,if_pos,true_or] at h
  obtain⟨z1,z2⟩:=Zb1.1 h
  rcases z2 with z2|z2
  ·exact(Zg9 _ z2).elim
  ·rw[hp a rfl z1,z2,hy0,hz z2,hz' hy0]
 ·obtain⟨hr2,hsq⟩:=hk'.pos hy0
  simp only[hy0,if_false] at h
  have hc:∀(m n1 k:Int),(n1=1\/n1= -1)->(m=1\/m=0\/m= -1)->(if n1=0\/m=n1 then m else if m=0 then n1 else m*k)=0->m= -n1/\k=0:=fun m n1 k h1 h2 h3=>by
   by_cases q1:n1=0\/m=n1
   ·rw[if_pos q1] at h3;omega
   ·rw[if_neg q1] at h3
    by_cases q2:m=0
    ·rw[if_pos q2] at h3;omega
    ·rw[if_neg q2] at h3
     refine⟨by omega, ?_⟩
     rcases h2 with h2|h2|h2
     ·subst h2;omega
     ·omega
     ·subst h2;omega
  obtain⟨e1,e2⟩:=hc _ _ _ (by cases n' <;> simp) (ZaU _ _ _) h
  obtain⟨z1,z2⟩:=Zb1.1 e2
  have hr0:r≠0:=fun h0=>hsq a (by rw[h0] at z1;grind)
  have ha:a=0:=by
   rcases z2 with z2|z2
   ·have:=Zg9 n
    by_cases h0:a=0
    ·exact h0
    ·have h4:a*sgn n≠0:=fun h5=>by
      rcases Rat.mul_eq_zero.1 h5 with h6|h6
      ·exact h0 h6
      ·exact this h6
     grind
   ·exact(hr0 z2).elim
  have hrr:r=r':=by rw[ha] at z1;grind
  have hnn:n=n':=by
   rw[ha] at e1
   have hr1:=(hk.pos hr0).1
   have s1:sg1 0 1 r=1:=Zat.2 (.inr ⟨by grind,by grind⟩)
   cases n
   ·rw[show sgn false=1 from rfl,s1] at e1
    cases n'
    ·rfl
    ·simp at e1
   ·rw[show sgn true= -1 from rfl,(ZaS hk).2 (by rw[show-(0:Rat)=0 by grind,show- -(1:Rat)=1 by grind];exact Zat.1 s1)] at e1
    cases n'
    ·simp at e1
    ·rfl
  rw[hp a rfl ha,hrr,hnn]
theorem RV.lt_neg {x y:RV}(hx:x.ok)(hy:y.ok)(h:y.lt x):x.neg.lt y.neg:=RV.neg_lt (x:=y.neg) (y:=x.neg) (by rwa [RV.neg_neg hx,RV.neg_neg hy])
theorem Zg3 (x y:RV):cR x y=1\/cR x y=0\/cR x y= -1:=by
 unfold cR
 dsimp only
 have hc:∀(m n1 k:Int),(n1=0\/n1=1\/n1= -1)->(m=1\/m=0\/m= -1)->(k=1\/k=0\/k= -1)->((if n1=0\/m=n1 then m else if m=0 then n1 else m*k)=1\/(if n1=0\/m=n1 then m else if m=0 then n1 else m*k)=0\/(if n1=0\/m=n1 then m else if m=0 then n1 else m*k)= -1):=fun m n1 k h1 h2 h3=>by
  split
  ·exact h2
  ·split
   ·omega
   ·rcases h2 with h2|h2|h2 <;> rcases h3 with h3|h3|h3 <;> subst h2 <;> subst h3 <;> decide
 refine hc _ _ _ ?_ (ZaU _ _ _) (ZaU _ _ _)
 by_cases h0:y.r=0
 ·rw[if_pos h0];exact .inl rfl
 ·rw[if_neg h0];cases y.n <;> simp
theorem ZgD {x y:RV}(hx:x.ok)(hy:y.ok):cR x y= -1↔x.lt y:=⟨Ze4 hx hy,ZpC hx hy⟩
theorem ZdX {x y:RV}(hx:x.ok)(hy:y.ok):cR x y=1↔y.lt x:=by
 constructor
 ·intro h
  refine RV.neg_lt (Ze4 (RV.neg_ok hx) (RV.neg_ok hy) ?_)
  rw[Zmg hx hy,h]
 ·intro h
  have h1:=ZpC (RV.neg_ok hx) (RV.neg_ok hy) (RV.lt_neg hx hy h)
  rw[Zmg hx hy] at h1
  omega
theorem Zng {x y:RV}(hx:x.ok)(hy:y.ok):cR x y=0↔x=y:=by
 refine⟨Zic hx hy,fun h=>?_⟩
 subst h
 rcases Zg3 x x with h|h|h
 ·exact(RV.lt_irr ((ZdX hx hx).1 h)).elim
 ·exact h
 ·exact(RV.lt_irr ((ZgD hx hx).1 h)).elim
theorem RV.tri {x y:RV}(hx:x.ok)(hy:y.ok):x.lt y\/x=y\/y.lt x:=by
 rcases Zg3 x y with h|h|h
 ·exact .inr (.inr ((ZdX hx hy).1 h))
 ·exact .inr (.inl (Zic hx hy h))
 ·exact .inl (Ze4 hx hy h)
end Go.Vt
