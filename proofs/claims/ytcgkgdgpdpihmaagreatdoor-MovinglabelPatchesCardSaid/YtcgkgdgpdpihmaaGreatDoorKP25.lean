/- For any two moving labels and any period, Restrict returns the part during the period, and Patch the second one in place of the first one; patching by a part of itself changes nothing. Conditions: none. (part 25 of 30.) Conditions: those that each statement names. -/
import Derived.Test.YtcgkgdgpdpihmaaGreatDoorProg
import Derived.Test.YtcgkgdgpdpihmaaGreatDoorKP11
import Derived.Test.YtcgkgdgpdpihmaaGreatDoorKP15
import Derived.Test.YtcgkgdgpdpihmaaGreatDoorKP22
import Derived.Test.YtcgkgdgpdpihmaaGreatDoorKP23
import Derived.Test.YtcgkgdgpdpihmaaGreatDoorKP24
set_option linter.unusedSimpArgs false
set_option linter.unusedVariables false
set_option maxHeartbeats 2000000
set_option maxRecDepth 100000
namespace Go.Vt
structure Apx (r α η:Rat):Prop where
 a0:0<=α
 h0:0<η
 lo:α*α<=r
 hi:r<(α+η)*(α+η)
theorem ZhA {r η:Rat}(hr:0<=r)(h:0<η):∃α δ,Apx r α δ/\δ<=η:=by
 obtain⟨k,hk⟩:=Zhy η (r+1) h
 obtain⟨b,h1,h2,h3⟩:=bisect hr k
 have hp:(0:Rat)<((2 ^ k:Nat):Rat):=by
  have:=Nat.two_pow_pos k
  exact_mod_cast this
 generalize ((2 ^ k:Nat):Rat)=P at*
 obtain⟨d,hd⟩:∃d,d=(r+1) / P:=⟨_,rfl⟩
 have hdP:d*P=r+1:=by rw[hd];grind
 rw[<-hd] at h3
 have hd0:0<d:=by
  by_cases hc:0<d
  ·exact hc
  ·have:=ZaM (show d<=0 by grind) (Rat.le_of_lt hp)
   grind
 refine⟨b,d,⟨h1,hd0,h2,h3⟩, ?_⟩
 by_cases hc:d<=η
 ·exact hc
 ·have:=ZbC (show η<d by grind) hp
  grind
theorem ZwB {x:RV}{α η q:Rat}(ha:Apx x.r α η)(h:x.lq q):x.p+sgn x.n*α-η<q:=by
 unfold RV.lq ps at h
 have h1:=ha.a0
 have h2:=ha.h0
 have h3:=ha.lo
 have h4:=ha.hi
 have hs:=Zdz x.n
 generalize x.r=r at*
 generalize hu:q-x.p=u at*
 by_cases hc:x.p+sgn x.n*α-η<q
 ·exact hc
 ·exfalso
  cases hn:x.n
  ·rw[hn] at h hc
   simp only[sgn] at h hc
   rcases h with⟨g1,g2⟩|⟨g1,g2⟩
   ·have:=ZdU (a:=u) (b:=α) (by grind) (by grind)
    grind
   ·grind
  ·rw[hn] at h hc
   simp only[sgn] at h hc
   have hu0:α+η<= -u:=by grind
   rcases h with⟨g1,g2⟩|⟨g1,g2⟩
   ·grind
   ·have h5:(α+η)*(α+η)<=u*u:=by
     have:=Rat.mul_nonneg (show 0<= -u-(α+η) by grind) (show 0<= -u+(α+η) by grind)
     grind
    grind
theorem ZvU {x:RV}{α η q:Rat}(ha:Apx x.r α η)(h:RV.ql q x):q<x.p+sgn x.n*α+η:=by
 unfold RV.ql ps at h
 have h1:=ha.a0
 have h2:=ha.h0
 have h3:=ha.lo
 have h4:=ha.hi
 generalize x.r=r at*
 generalize hu:x.p-q=u at*
 by_cases hc:q<x.p+sgn x.n*α+η
 ·exact hc
 ·exfalso
  cases hn:x.n
  ·rw[hn] at h hc
   simp only[sgn] at h hc
   have hu0:α+η<= -u:=by grind
   rcases h with⟨g1,g2⟩|⟨g1,g2⟩
   ·grind
   ·have h5:(α+η)*(α+η)<=u*u:=by
     have:=Rat.mul_nonneg (show 0<= -u-(α+η) by grind) (show 0<= -u+(α+η) by grind)
     grind
    grind
  ·rw[hn] at h hc
   simp only[sgn] at h hc
   rcases h with⟨g1,g2⟩|⟨g1,g2⟩
   ·have:=ZdU (a:=u) (b:=α) (by grind) (by grind)
    grind
   ·grind
theorem Zq9 {x:RV}{α η q:Rat}(hk:Rk x.r)(ha:Apx x.r α η)(h:x.p+sgn x.n*α+η<=q):x.lq q:=by
  unfold RV.lq ps
  have h1:=ha.a0
  have h2:=ha.h0
  have h3:=ha.lo
  have h4:=ha.hi
  generalize x.r=r at*
  generalize hu:q-x.p=u at*
  cases hn:x.n
  · rw[hn] at h
    simp only[sgn] at h⊢
    have hu0:α+η<=u:=by grind
    refine .inl ⟨by grind, ?_⟩
    have:=Rat.mul_nonneg (show 0<=u-(α+η) by grind) (show 0<=u+(α+η) by grind)
    grind
  · rw[hn] at h
    simp only[sgn] at h⊢
    have hu0:η-α<=u:=by grind
    by_cases c:0<=u
    · by_cases c2:u*u<r
      · exact .inr ⟨by grind,by grind⟩
      · by_cases c3:u*u=r
        · exfalso
          rcases hk with hk|⟨_,hk⟩
          · have h5 : u = 0 := by have : u * u = 0 := by grind
                                  grind
            have h7 : α * α = 0 := by have := Zaq α
                                      grind
            have h6:α=0:=by grind
            grind
          · exact hk u c3
        · refine .inl ⟨?_,by grind⟩
          by_cases c4:u=0
          · have:=Zaq α
            subst c4
            grind
          · grind
    · refine .inr ⟨by grind, ?_⟩
      have:=ZdU (a:= -u) (b:=α) (by grind) (by grind)
      grind
theorem ZqO {x:RV}{α η q:Rat}(hk:Rk x.r)(ha:Apx x.r α η)(h:q<=x.p+sgn x.n*α-η):RV.ql q x:=by
  unfold RV.ql ps
  have h1:=ha.a0
  have h2:=ha.h0
  have h3:=ha.lo
  have h4:=ha.hi
  generalize x.r=r at*
  generalize hu:x.p-q=u at*
  cases hn:x.n
  · rw[hn] at h
    simp only[sgn] at h⊢
    have hu0:η-α<=u:=by grind
    by_cases c:0<=u
    · by_cases c2:u*u<r
      · exact .inr ⟨by grind,by grind⟩
      · by_cases c3:u*u=r
        · exfalso
          rcases hk with hk|⟨_,hk⟩
          · have h5 : u = 0 := by have : u * u = 0 := by grind
                                  grind
            have h7 : α * α = 0 := by have := Zaq α
                                      grind
            have h6:α=0:=by grind
            grind
          · exact hk u c3
        · refine .inl ⟨?_,by grind⟩
          by_cases c4:u=0
          · have:=Zaq α
            subst c4
            grind
          · grind
    · refine .inr ⟨by grind, ?_⟩
      have:=ZdU (a:= -u) (b:=α) (by grind) (by grind)
      grind
  · rw[hn] at h
    simp only[sgn] at h⊢
    have hu0:α+η<=u:=by grind
    refine .inl ⟨by grind, ?_⟩
    have:=Rat.mul_nonneg (show 0<=u-(α+η) by grind) (show 0<=u+(α+η) by grind)
    grind
structure RB (x:RV):Prop where
 o:x.ok
 p:∃z:Int,x.p=(z:Rat) / 12
 r:∃z:Int,x.r=(z:Rat) / 6
 pl:0<=x.p+4
 ph:x.p<=68
 rh:x.r<=12
theorem Za6 {x y A B:Rat}(hx: -A<=x/\x<=A)(hy: -B<=y/\y<=B): -(A*B)<=x*y/\x*y<=A*B:=by
 have h1:=Rat.mul_nonneg (show 0<=A-x by grind) (show 0<=B+y by grind)
 have h2:=Rat.mul_nonneg (show 0<=A+x by grind) (show 0<=B-y by grind)
 have h3:=Rat.mul_nonneg (show 0<=A-x by grind) (show 0<=B-y by grind)
 have h4:=Rat.mul_nonneg (show 0<=A+x by grind) (show 0<=B+y by grind)
 constructor <;> grind
theorem Zm9 {r α δ:Rat}(h:Apx r α δ)(hr:r<=12)(hd:δ<=1 / 1000000000000000):α<=4/\0<=r-α*α/\r-α*α<=1 / 100000000000000:=by
 have h0:=h.a0
 have h1:=h.h0
 have h2:=h.lo
 have h3:=h.hi
 have ha:α<=4:=by
  by_cases c:α<=4
  ·exact c
  ·have:=ZdU (a:=4) (b:=α) (by grind) (by grind)
   grind
 refine⟨ha,by grind, ?_⟩
 have h4:=Za6 (x:=2*α+δ) (y:=δ) (A:=9) (B:=1 / 1000000000000000) ⟨by grind,by grind⟩ ⟨by grind,by grind⟩
 have h5:(α+δ)*(α+δ)=α*α+(2*α+δ)*δ:=by grind
 grind
theorem Zl4 {a S1 S2 r1 r2:Rat}(ha: -72<=a/\a<=72)(h1: -4<=S1/\S1<=4)(h2: -4<=S2/\S2<=4)(hr1:0<=r1/\r1<=12)(hr2:0<=r2/\r2<=12)
  (x1:0<=r1-S1*S1/\r1-S1*S1<=1 / 100000000000000) (x2:0<=r2-S2*S2/\r2-S2*S2<=1 / 100000000000000) (hD: -(1 / 100000000000)<=a+S2-S1/\a+S2-S1<=1 / 100000000000):
  -(1 / 30000)<=(a*a-r1-r2)*(a*a-r1-r2)-4*(r1*r2)/\(a*a-r1-r2)*(a*a-r1-r2)-4*(r1*r2)<=1 / 30000:=by
 have b1:=Za6 (x:=a+S2+S1) (y:=a-S2-S1) (A:=80) (B:=80) ⟨by grind,by grind⟩ ⟨by grind,by grind⟩
 have b2:=Za6 (x:=(a+S2+S1)*(a-S2-S1)) (y:=a-S2+S1) (A:=80*80) (B:=80) b1 ⟨by grind,by grind⟩
 have b3:=Za6 hD b2
 obtain⟨k1,hk1⟩:∃k,k=r1-S1*S1:=⟨_,rfl⟩
 obtain⟨k2,hk2⟩:∃k,k=r2-S2*S2:=⟨_,rfl⟩
 rw[<-hk1] at x1
 rw[<-hk2] at x2
 have ba:=Za6 ha ha
 have b4:=Za6 (x:=a*a-r1-r2) (y:=k1+k2) (A:=6000) (B:=2 / 100000000000000) ⟨by grind,by grind⟩ ⟨by grind,by grind⟩
 have b5:=Za6 (x:=k1+k2) (y:=k1+k2) (A:=1) (B:=1) ⟨by grind,by grind⟩ ⟨by grind,by grind⟩
 have b5':=Za6 (x:=k1+k2) (y:=k1+k2) (A:=2 / 100000000000000) (B:=2 / 100000000000000) ⟨by grind,by grind⟩ ⟨by grind,by grind⟩
 have b6:=Za6 (x:=r1) (y:=k2) (A:=12) (B:=1 / 100000000000000) ⟨by grind,by grind⟩ ⟨by grind,by grind⟩
 have b7:=Za6 (x:=r2) (y:=k1) (A:=12) (B:=1 / 100000000000000) ⟨by grind,by grind⟩ ⟨by grind,by grind⟩
 have b8:=Za6 (x:=k1) (y:=k2) (A:=1 / 100000000000000) (B:=1 / 100000000000000) ⟨by grind,by grind⟩ ⟨by grind,by grind⟩
 have e:(a*a-r1-r2)*(a*a-r1-r2)-4*(r1*r2)=(a+S2-S1)*((a+S2+S1)*(a-S2-S1)*(a-S2+S1))-2*((a*a-r1-r2)*(k1+k2))-(k1+k2)*(k1+k2)-4*(r1*k2)-4*(r2*k1)+4*(k1*k2):=by
  rw[hk1,hk2];grind
 rw[e]
 generalize (a+S2-S1)*((a+S2+S1)*(a-S2-S1)*(a-S2+S1))=X at*
 generalize (a*a-r1-r2)*(k1+k2)=Y at*
 generalize (k1+k2)*(k1+k2)=Z at*
 generalize r1*k2=U at*
 generalize r2*k1=V at*
 generalize k1*k2=W at*
 constructor <;> grind
theorem ZnW {z:Int}(h1: -(1:Rat)<(z:Rat))(h2:(z:Rat)<1):z=0:=by
 have a:((-1:Int):Rat)<(z:Rat):=by simpa using h1
 have b:(z:Rat)<((1:Int):Rat):=by simpa using h2
 have:=Rat.intCast_lt_intCast.1 a
 have:=Rat.intCast_lt_intCast.1 b
 omega
theorem ZmR {a r1 r2:Rat}(ha:∃z:Int,a=(z:Rat) / 12)(h1:∃z:Int,r1=(z:Rat) / 6)(h2:∃z:Int,r2=(z:Rat) / 6)
  (h: -(1 / 30000)<=(a*a-r1-r2)*(a*a-r1-r2)-4*(r1*r2)/\(a*a-r1-r2)*(a*a-r1-r2)-4*(r1*r2)<=1 / 30000):(a*a-r1-r2)*(a*a-r1-r2)=4*(r1*r2):=by
 obtain⟨z,rfl⟩:=ha
 obtain⟨u,rfl⟩:=h1
 obtain⟨v,rfl⟩:=h2
 have e:20736*(((z:Rat) / 12*((z:Rat) / 12)-(u:Rat) / 6-(v:Rat) / 6)*((z:Rat) / 12*((z:Rat) / 12)-(u:Rat) / 6-(v:Rat) / 6)-4*((u:Rat) / 6*((v:Rat) / 6)))=(((z*z-24*u-24*v)*(z*z-24*u-24*v)-2304*(u*v):Int):Rat):=by
  push_cast
  grind
 have hz:=ZnW (z:=(z*z-24*u-24*v)*(z*z-24*u-24*v)-2304*(u*v)) (by rw[<-e];grind) (by rw[<-e];grind)
 rw[hz] at e
 have e2:((0:Int):Rat)=0:=rfl
 rw[e2] at e
 grind
theorem sixth {r:Rat}(h:∃z:Int,r=(z:Rat) / 6)(h0:0<r):1 / 6<=r:=by
 obtain⟨z,rfl⟩:=h
 have h1:((0:Int):Rat)<(z:Rat):=by
  have:((0:Int):Rat)=0:=rfl
  rw[this]
  grind
 have h2:=Rat.intCast_lt_intCast.1 h1
 have h3:((1:Int):Rat)<=(z:Rat):=Rat.intCast_le_intCast.2 (by omega)
 have:((1:Int):Rat)=1:=rfl
 rw[this] at h3
 grind
theorem ZkN {r α δ:Rat}(h:Apx r α δ)(hr:1 / 6<=r)(hd:δ<=1 / 1000000000000000):1 / 4<=α:=by
 by_cases c:1 / 4<=α
 ·exact c
 ·have h0:=h.a0
  have h1:=h.h0
  have h2:=h.hi
  have:=ZdU (a:=α+δ) (b:=1 / 3) (by grind) (by grind)
  grind
theorem Zph {X r:Rat}(hr:0<r):2*(X / (2*r)*r)=X:=by
 have:2*r≠0:=by grind
 grind
theorem Zsp {v r s:Rat}(hr:0<r)(h:(2*(v*r))*(2*(v*r))=4*(r*s)):v*v*r=s:=by
 have:r≠0:=by grind
 grind
theorem ZtI {X u r:Rat}(hu:u≠0)(h:X*X=u*u*r):X / u*(X / u)=r:=by
 have h5:X / u*u=X:=by grind
 generalize X / u=w at*
 have h6:w*w*(u*u)=r*(u*u):=by grind
 have h7:u*u≠0:=by grind
 grind
theorem Zt5 {x y:RV}(hx:RB x)(hy:RB y)(ha12:∃z:Int,y.p-x.p=(z:Rat) / 12)(h:x.lt y){e:Rat}(he0:0<e)(he:e<=1 / 1000000000000):(x.sh e).lt y:=by
 obtain⟨α,δ1,A1,hd1⟩:=ZhA hx.o.k.nn (show(0:Rat)<1 / 1000000000000000 by grind)
 obtain⟨β,δ2,A2,hd2⟩:=ZhA hy.o.k.nn (show(0:Rat)<1 / 1000000000000000 by grind)
 have hlt:=h
 obtain⟨q,q1,q2⟩:=h
 have g1:=ZwB A1 q1
 have g2:=ZvU A2 q2
 by_cases c:x.p+e+sgn x.n*α+δ1<=y.p+sgn y.n*β-δ2
 ·refine⟨x.p+e+sgn x.n*α+δ1, ?_,ZqO hy.o.k A2 c⟩
  exact Zq9 (x:=x.sh e) hx.o.k A1 (by show x.p+e+sgn x.n*α+δ1<=_;grind)
 ·exfalso
  have hd1':=A1.h0
  have hd2':=A2.h0
  have s1:=Zm9 A1 hx.rh hd1
  have s2:=Zm9 A2 hy.rh hd2
  have a1:=A1.a0
  have a2:=A2.a0
  have hr1:=hx.o.k.nn
  have hr2:=hy.o.k.nn
  have hxl:=hx.pl
  have hxh:=hx.ph
  have hyl:=hy.pl
  have hyh:=hy.ph
  have e1:(sgn x.n*α)*(sgn x.n*α)=α*α:=by have:=Zdz x.n;grind
  have e2:(sgn y.n*β)*(sgn y.n*β)=β*β:=by have:=Zdz y.n;grind
  have b1: -4<=sgn x.n*α/\sgn x.n*α<=4:=by cases x.n <;> simp[sgn] <;> grind
  have b2: -4<=sgn y.n*β/\sgn y.n*β<=4:=by cases y.n <;> simp[sgn] <;> grind
  have N:=ZmR ha12 hx.r hy.r (Zl4 (a:=y.p-x.p) (S1:=sgn x.n*α) (S2:=sgn y.n*β) (r1:=x.r) (r2:=y.r) ⟨by grind,by grind⟩ b1 b2 ⟨hr1,hx.rh⟩ ⟨hr2,hy.rh⟩ (by rw[e1];exact⟨s1.2.1,s1.2.2⟩) (by rw[e2];exact⟨s2.2.1,s2.2.2⟩) ⟨by grind,by grind⟩)
  have same:y.p-x.p=0->x.r=y.r->x.n=y.n->False:=fun h1 h2 h3=>by
   have:x=y:=by
    obtain⟨p,r,n⟩:=x
    obtain⟨p',r',n'⟩:=y
    dsimp only at h1 h2 h3
    have h4:p=p':=by grind
    subst h2 h3 h4
    rfl
   subst this
   exact RV.lt_irr hlt
  have sq0:∀u:Rat,u*u=0->u=0:=fun u hu=>by grind
  rcases hx.o.k with k1|⟨k1,k1'⟩
  ·rw[k1] at N
   have n1:(y.p-x.p)*(y.p-x.p)=y.r:=by
    have:=sq0 ((y.p-x.p)*(y.p-x.p)-0-y.r) (by rw[N];grind)
    grind
   rcases hy.o.k with k2|⟨k2,k2'⟩
   ·rw[k2] at n1
    exact same (sq0 _ n1) (by rw[k1,k2]) (by rw[hx.o.z k1,hy.o.z k2])
   ·exact k2' _ n1
  ·rcases hy.o.k with k2|⟨k2,k2'⟩
   ·rw[k2] at N
    have n1:(y.p-x.p)*(y.p-x.p)=x.r:=by
     have:=sq0 ((y.p-x.p)*(y.p-x.p)-x.r-0) (by rw[N];grind)
     grind
    exact k1' _ n1
   ·obtain⟨v,hv⟩:∃v,v=((y.p-x.p)*(y.p-x.p)-x.r-y.r) / (2*x.r):=⟨_,rfl⟩
    have hv1:2*(v*x.r)=(y.p-x.p)*(y.p-x.p)-x.r-y.r:=by rw[hv];exact Zph k1
    have hv2:v*v*x.r=y.r:=Zsp k1 (by rw[hv1];exact N)
    clear hv
    have hv3:(y.p-x.p)*(y.p-x.p)=(1+v)*(1+v)*x.r:=by
     have:(1+v)*(1+v)*x.r=x.r+2*(v*x.r)+v*v*x.r:=by grind
     rw[this,hv1,hv2]
     grind
    by_cases c1:1+v=0
    ·have hvm:v= -1:=by grind
     have n1:y.r=x.r:=by rw[<-hv2,hvm];clear N same sq0 g1 g2 c;grind
     have n2:y.p-x.p=0:=sq0 _ (by rw[hv3,c1];clear N same sq0 g1 g2 c;grind)
     have t1:=ZkN A1 (sixth hx.r k1) hd1
     have t2:=ZkN A2 (sixth hy.r k2) hd2
     cases hxn:x.n <;> cases hyn:y.n
     ·exact same n2 n1.symm (by rw[hxn,hyn])
     ·rw[hxn] at g1 c
      rw[hyn] at g2 c
      simp only[sgn] at g1 g2 c
      grind
     ·rw[hxn] at g1 c
      rw[hyn] at g2 c
      simp only[sgn] at g1 g2 c
      grind
     ·exact same n2 n1.symm (by rw[hxn,hyn])
    ·exact k1' _ (ZtI c1 hv3)
end Go.Vt
namespace Go.Vt
abbrev rl (q:Rat):Rl:=⟨q,0,false⟩
theorem Zli (q:Rat):(rvR (rl q)).ok:=RV.ok_rat q
theorem ps0 {u v:Rat}:ps 0 u v↔0<u:=by
 unfold ps
 constructor
 ·rintro(⟨h, -⟩|⟨-,h⟩)
  ·exact h
  ·have:=Zaq u;grind
 ·intro h
  exact .inl ⟨h,by have:=Rat.mul_pos h h;grind⟩
theorem Zvb {p q:Rat}:ri (rl p)<ri (rl q)↔p<q:=by
 rw[Ri.lt_def,Zcm (Zli p),Zcm (Zli q)]
 constructor
 ·rintro⟨c,h1,h2⟩
  have h1:=ps0.1 h1
  have h2:=ps0.1 h2
  have e1:(rvR (rl p)).p=p:=rfl
  have e2:(rvR (rl q)).p=q:=rfl
  rw[e1] at h1
  rw[e2] at h2
  grind
 ·intro h
  refine⟨(p+q) / 2,ps0.2 ?_,ps0.2 ?_⟩
  ·show 0<(p+q) / 2-p;grind
  ·show 0<q-(p+q) / 2;grind
theorem Znp {k:Nat}{q:Rat}(h:M q<=k)(hk:1<=k):RlB k (rl q):=⟨Zli q,h,Wi (show M 0<=1 by decide) hk⟩
end Go.Vt
namespace Go.Vt
open Go.RowKit Go.Proofs
open Go.Proofs.Tryz (prog)
section
def stp (k:Nat):Rat:=Rat.divInt 1 (2 ^ k:Nat)
theorem Zv2 :stp 0=Rat.divInt 1 1:=rfl
theorem Zpo (k:Nat):stp k*Rat.divInt 1 2=stp (k+1):=by
 unfold stp
 rw[Rat.divInt_mul_divInt]
 congr 1
theorem ZqQ {k:Nat}(h:k<=60):M (stp k)<=8:=by
 unfold stp
 refine Zcg (Wi (show mg (1:Int)<=1 by decide) (by decide)) ?_ (by decide)
 have h1:2 ^ k<=2 ^ 60:=Nat.pow_le_pow_right (by decide) h
 show(mag ((2 ^ k:Nat):Int).natAbs).size<=8
 rw[Z1,Int.natAbs_natCast]
 exact Nat.lt_of_le_of_lt h1 (by decide)
theorem ZkP (k:Nat):0<stp k:=by
 unfold stp
 have h:=Nat.two_pow_pos k
 rw[Rat.divInt_eq_div]
 have h1:(0:Rat)<(((2 ^ k:Nat):Int):Rat):=by
  rw[Rat.intCast_natCast]
  exact_mod_cast h
 have h2:((1:Int):Rat)=1:=rfl
 rw[h2]
 generalize (((2 ^ k:Nat):Int):Rat)=P at*
 by_cases c:0<1 / P
 ·exact c
 ·have h3:1 / P*P=1:=by grind
  have:=ZaM (show 1 / P<=0 by grind) (Rat.le_of_lt h1)
  grind
theorem ZsO :stp 40<=1 / 1000000000000:=by decide+kernel
noncomputable def midF (c:Za):Nat->Nat->Rl
 |0,_=>c.From
 |n+1,i=>if cl (shR c.From (stp i)) c.To<0 then shR c.From (stp i) else midF c n (i+1)
noncomputable def midR (c:Za):Rl:=if c.From=c.To then c.From else midF c 60 0
set_option maxHeartbeats 8000000 in
instance Zw8 (c:Za):SpecC prog 25 [vIv c] (vR (midR c)) (IvOk 3 c):=⟨fun hp w=>by
 have q1:(1:Int)≠0/\(-9223372036854775808<=(1:Int)/\(1:Int)<=9223372036854775807)/\(-9223372036854775808<=(1:Int)/\(1:Int)<=9223372036854775807):=by decide
 have q2:(2:Int)≠0/\(-9223372036854775808<=(1:Int)/\(1:Int)<=9223372036854775807)/\(-9223372036854775808<=(2:Int)/\(2:Int)<=9223372036854775807):=by decide
 refine Zb Tryz.func25 rfl Tryz.ntmps25 rfl ?_
 repeat(refine wkB ?_;intros)
 rename_i b1 b2
 by_cases c0:c.From=c.To
 ·have e:midR c=c.From:=by unfold midR;rw[if_pos c0]
  rw[e]
  simp only[Wc c0]
  repeat(refine wkB ?_;intros)
  exact rtC rfl rfl
 ·have e:midR c=midF c 60 0:=by unfold midR;rw[if_neg c0]
  rw[e]
  obtain⟨F,hF⟩:∃F,F=midF c 60 0:=⟨_,rfl⟩
  rw[<-hF]
  simp only[We c0]
  repeat(first|(refine wkB ?_;intros)|(refine wnM ?_ ?_;(focus(first|exact q1|exact q2));intros))
  rename_i b3
  rw[<-Zv2]
  refine Zo (S:=Nat) (fun i=>i<=60/\F=midF c (60-i) i) (fun i=>[(1, .pointer (some ⟨b1,0,none⟩)),(2, .pointer (some ⟨b2,0,none⟩)),(3, .pointer (some ⟨b3,0,none⟩)),(4, .int .i64 (i:Nat))]) (fun i=>[⟨b3,Zl (Q (stp i)),33⟩,⟨b2,Zf (Zg Zae),35⟩,⟨b1,rI c,37⟩]) (fun i=>60-i) 0 ⟨Wm _,hF⟩ sbB slB (fun i hi=>?_)
  clear hF e
  obtain⟨hi,he⟩:=hi
  have hM:=ZqQ hi
  have q3:M c.From.P<=268435456/\M (stp i)<=268435456:=⟨Wi hp.a.p (by decide),by omega⟩
  have q4:RlB B28 (shR c.From (stp i))/\RlB B28 c.To:=⟨(ZqV (hp.a.mono (show 3<=8 by decide)) hM).mono (by decide),hp.b.mono (by decide)⟩
  have q5:M (stp i)<=268435456/\M (Rat.divInt 1 2)<=268435456:=⟨by omega,by decide⟩
  repeat(refine wkB ?_;intros)
  refine Zk rfl (fun h=>?_) (fun h=>?_)
  ·have hlt:i<60:=by have:=Wa h;omega
   rw[show 60-i=(60-(i+1))+1 by omega,midF] at he
   repeat(first|(refine wkB ?_;intros)|(refine wnM ?_ ?_;(focus(first|exact q3|exact q4));intros))
   by_cases c1:cl (shR c.From (stp i)) c.To<0
   ·rw[if_pos c1] at he
    rw[he]
    simp only[Wc c1]
    repeat(refine wkB ?_;intros)
    exact rtC rfl rfl
   ·rw[if_neg c1] at he
    simp only[We c1]
    repeat(refine wkB ?_;intros)
    (refine ZE (.v [1] (.e1 0 (.v [2] (.e1 3 (.fin))))) (([]:List Blk)) (h:=?_);refine wkX ?_)
    (repeat(first|refine wkH ?_|(refine tC rfl rfl ?_ ?_;focus(first|exact q2|exact q5))))
    repeat(first|(refine wkT ?_;intros)|(refine tC rfl rfl ?_ ?_;focus(first|exact q2|exact q5))|(refine uC rfl rfl ?_ ?_;focus(first|exact q2|exact q5))|(refine eN rfl rfl ?_ ?_;(focus(first|exact q2|exact q5));intro _;(try simp only[Wf,Wg,Wh])))
    all_goals rw[Zpo]
    all_goals repeat(first|(refine wkB ?_;intros)|(refine wnM ?_ ?_;(focus(exact⟨by omega,by omega⟩));intros))
    all_goals exact Zc (i+1) ⟨hlt,he⟩ sbB slB (by omega)
  ·have hge:i=60:=by have:=Wb h;omega
   subst hge
   rw[show 60-60=0 from rfl,midF] at he
   rw[he]
   repeat(refine wkB ?_;intros)
   exact rtC rfl rfl⟩
end
section
def Dsc (x:Rl):Prop:=∃w:WI,x=insT w
theorem Zpd :((List.range 12).all fun e=>(List.range 3).all fun f=>match rtQ (Rat.divInt (e:Int) (1+(f:Int))) with|some q=>decide (q=0)||(decide (q=1)||(decide (q=2)||decide (q=3)))|none=>true)=true:=by decide+kernel
theorem Zs1 {w:WI}{q:Rat}(h:rtQ (inR w)=some q):∃z:Int,q=(z:Rat)/\0<=z/\z<=3:=by
 have h1:=Zpd
 rw[List.all_eq_true] at h1
 have h2:=h1 (w.R % 12).toNat (List.mem_range.2 (by omega))
 rw[List.all_eq_true] at h2
 have h3:=h2 (w.E % 3).toNat (List.mem_range.2 (by omega))
 rw[show(((w.R % 12).toNat:Nat):Int)=w.R % 12 by omega,show(((w.E % 3).toNat:Nat):Int)=w.E % 3 by omega] at h3
 unfold inR at h
 rw[h] at h3
 simp only[Bool.or_eq_true,decide_eq_true_eq] at h3
 rcases h3 with rfl|rfl|rfl|rfl
 ·exact⟨0,rfl,by decide,by decide⟩
 ·exact⟨1,rfl,by decide,by decide⟩
 ·exact⟨2,rfl,by decide,by decide⟩
 ·exact⟨3,rfl,by decide,by decide⟩
theorem div12 {a d:Int}(hd:1<=d/\d<=4):∃z:Int,Rat.divInt a d=(z:Rat) / 12:=by
 rcases(by omega:d=1\/d=2\/d=3\/d=4) with rfl|rfl|rfl|rfl
 ·exact⟨12*a,by rw[Rat.divInt_eq_div];push_cast;grind⟩
 ·exact⟨6*a,by rw[Rat.divInt_eq_div];push_cast;grind⟩
 ·exact⟨4*a,by rw[Rat.divInt_eq_div];push_cast;grind⟩
 ·exact⟨3*a,by rw[Rat.divInt_eq_div];push_cast;grind⟩
theorem div6 {a d:Int}(hd:1<=d/\d<=3):∃z:Int,Rat.divInt a d=(z:Rat) / 6:=by
 rcases(by omega:d=1\/d=2\/d=3) with rfl|rfl|rfl
 ·exact⟨6*a,by rw[Rat.divInt_eq_div];push_cast;grind⟩
 ·exact⟨3*a,by rw[Rat.divInt_eq_div];push_cast;grind⟩
 ·exact⟨2*a,by rw[Rat.divInt_eq_div];push_cast;grind⟩
theorem Zm6 {a d b:Int}(hd:1<=d)(h0:0<=a)(h:a<=b):0<=Rat.divInt a d/\Rat.divInt a d<=(b:Rat):=by
 rw[Rat.divInt_eq_div]
 have h1:((1:Int):Rat)<=(d:Rat):=Rat.intCast_le_intCast.2 hd
 have h2:((0:Int):Rat)<=(a:Rat):=Rat.intCast_le_intCast.2 h0
 have h3:(a:Rat)<=(b:Rat):=Rat.intCast_le_intCast.2 h
 have e1:((1:Int):Rat)=1:=rfl
 have e0:((0:Int):Rat)=0:=rfl
 rw[e1] at h1
 rw[e0] at h2
 generalize (d:Rat)=D at*
 generalize (a:Rat)=A at*
 generalize (b:Rat)=B at*
 have h4:A / D*D=A:=by grind
 generalize A / D=X at*
 constructor
 ·by_cases c:0<=X
  ·exact c
  ·have:=ZbC (show X<0 by grind) (show 0<D by grind)
   grind
 ·by_cases c:X<=B
  ·exact c
  ·have h5:=ZaM (show B<=X by grind) (show 0<=D by grind)
   have h6:=Rat.mul_nonneg (show 0<=B by grind) (show 0<=D-1 by grind)
   have h7:=ZbC (show B<X by grind) (show 0<D by grind)
   grind
theorem ZhT {x:Rl}(h:Dsc x):RB (rvR x):=by
 obtain⟨w,rfl⟩:=h
 have hok:(rvR (insT w)).ok:=ZmX (Znx w)
 have hP:=div12 (a:=w.P % 64) (d:=1+w.D % 4) (by omega)
 have hR:=div6 (a:=w.R % 12) (d:=1+w.E % 3) (by omega)
 have hPl:=Zm6 (a:=w.P % 64) (d:=1+w.D % 4) (b:=63) (by omega) (by omega) (by omega)
 have hRl:=Zm6 (a:=w.R % 12) (d:=1+w.E % 3) (b:=12) (by omega) (by omega) (by omega)
 have e63:((63:Int):Rat)=63:=rfl
 have e12:((12:Int):Rat)=12:=rfl
 rw[e63] at hPl
 rw[e12] at hRl
 have ez:((0:Int):Rat)=0:=rfl
 have h0:∃z:Int,(0:Rat)=(z:Rat) / 6:=⟨0,by rw[ez];grind⟩
 have hx:(∃z:Int,(insT w).P=(z:Rat) / 12)/\(∃z:Int,(insT w).R=(z:Rat) / 6)/\0<=(insT w).P+4/\(insT w).P<=68/\(insT w).R<=12:=by
  unfold insT ofR
  cases hq:rtQ (inR w) with
  |none=>
   refine⟨hP,hR, ?_, ?_,hRl.2⟩
   ·show 0<=Rat.divInt (w.P % 64) (1+w.D % 4)+4;grind
   ·show Rat.divInt (w.P % 64) (1+w.D % 4)<=68;grind
  |some q=>
   obtain⟨z,rfl,z1,z2⟩:=Zs1 hq
   obtain⟨p,hp⟩:=hP
   have b1:((0:Int):Rat)<=(z:Rat):=Rat.intCast_le_intCast.2 z1
   have b2:(z:Rat)<=((3:Int):Rat):=Rat.intCast_le_intCast.2 z2
   have e0:((0:Int):Rat)=0:=rfl
   have e3:((3:Int):Rat)=3:=rfl
   rw[e0] at b1
   rw[e3] at b2
   have hi:inP w=Rat.divInt (w.P % 64) (1+w.D % 4):=rfl
   rw[<-hi] at hPl hp
   dsimp only
   refine⟨?_,h0, ?_, ?_,by grind⟩
   ·split
    ·exact⟨p-12*z,by rw[hp];push_cast;grind⟩
    ·exact⟨p+12*z,by rw[hp];push_cast;grind⟩
   ·split <;> grind
   ·split <;> grind
 exact⟨hok,hx.1,hx.2.1,hx.2.2.1,hx.2.2.2.1,hx.2.2.2.2⟩
theorem ZiI {x y:Rl}(hx:(rvR x).ok)(hy:(rvR y).ok):ri x<ri y↔(rvR x).lt (rvR y):=by
 unfold ri
 rw[dif_pos hx,dif_pos hy]
 exact Iff.rfl
theorem Zsb {x y:Rl}(hx:Dsc x)(hy:Dsc y)(h:ri x<ri y){e:Rat}(he0:0<e)(he:e<=1 / 1000000000000):ri (shR x e)<ri y:=by
 have a:=ZhT hx
 have b:=ZhT hy
 have hd:∃z:Int,(rvR y).p-(rvR x).p=(z:Rat) / 12:=by
  obtain⟨z1,h1⟩:=a.p
  obtain⟨z2,h2⟩:=b.p
  exact⟨z2-z1,by rw[h1,h2];push_cast;grind⟩
 exact(ZiI (x:=shR x e) (RV.sh_ok a.o e) b.o).2 (Zt5 a b hd ((ZiI a.o b.o).1 h) he0 he)
theorem Zwl {x:Rl}(hx:(rvR x).ok){e:Rat}(he:0<e):ri x<ri (shR x e):=by
 refine(ZiI (y:=shR x e) hx (RV.sh_ok hx e)).2 ?_
 show(rvR x).lt ((rvR x).sh e)
 obtain⟨α,δ,A,hd⟩:=ZhA hx.k.nn (show 0<e / 2 by grind)
 exact⟨(rvR x).p+sgn (rvR x).n*α+δ,Zq9 hx.k A (by grind),ZqO (x:=(rvR x).sh e) hx.k A (by show _<=(rvR x).p+e+sgn (rvR x).n*α-δ;grind)⟩
theorem ZhY (c:Za):∀n i,(∃j,i<=j/\j<i+n/\cl (shR c.From (stp j)) c.To<0)->∃j,midF c n i=shR c.From (stp j)/\cl (shR c.From (stp j)) c.To<0
 |0,i,⟨j,h1,h2,_⟩=>by omega
 |n+1,i,⟨j,h1,h2,h3⟩=>by
  rw[midF]
  split
  ·rename_i h;exact⟨i,rfl,h⟩
  ·rename_i h
   refine ZhY c n (i+1) ⟨j, ?_,by omega,h3⟩
   rcases(by omega:j=i\/i+1<=j) with rfl|h4
   ·exact(h h3).elim
   ·exact h4
theorem ZkL {c:Za}(h1:Dsc c.From)(h2:Dsc c.To):(c.From=c.To->midR c=c.From)/\(ri c.From<ri c.To->ri c.From<ri (midR c)/\ri (midR c)<ri c.To):=by
 refine⟨fun h=>by unfold midR;rw[if_pos h],fun h=>?_⟩
 have hne:c.From≠c.To:=fun e=>by rw[e] at h;grind
 unfold midR
 rw[if_neg hne]
 obtain⟨j,e,hj⟩:=ZhY c 60 0 ⟨40,Wm _,by decide,Zaa.2 (Zsb h1 h2 h (ZkP 40) ZsO)⟩
 rw[e]
 exact⟨Zwl (ZhT h1).o (ZkP j),Zaa.1 hj⟩
theorem ZrB {c:Za}(h1:IvOk 3 c):RlB 17 (midR c):=by
 have hF:∀n i,i+n<=60->RlB 17 (midF c n i):=fun n=>by
  induction n with
  |zero=>exact fun i _=>h1.a.mono (by decide)
  |succ n ih=>
   intro i hi
   rw[midF]
   split
   ·exact(ZqV (h1.a.mono (show 3<=8 by decide)) (ZqQ (by omega)))
   ·exact ih (i+1) (by omega)
 unfold midR
 split
 ·exact h1.a.mono (by decide)
 ·exact hF 60 0 (Wl _)
end
section
def lfO (op:Int)(v w:Option Int):Option Int:=
 if op=1 then(match v,w with|some x,some y=>some (10*x+y)|_,_=>none)
 else if op=2 then(match w with|some y=>some y|none=>v)
 else if op=3 then(match v,w with|some x,some y=>some (if x=y then 1 else 0)|_,_=>none)
 else if op=4 then(match v,w with|some x,some y=>some (if x<y then 1 else 0)|_,_=>none)
 else(match v with|some x=>some (10*x)|none=>none)
structure ShP (l:List PU):Prop where
 n:l.length<=160
 k:∀u∈l,IvOk 3 u.In
abbrev allL (a b:List PU):List Za:=inL a++inL b
noncomputable def celL (a b:List PU):List Za:=celR (nrmS (allL a b)) (enR (allL a b))
theorem Zfx {l:List PU}(h:ShP l):(∀i∈inL l,IvOk 3 i)/\(inL l).length=l.length:=by
 unfold inL
 refine⟨fun i hi=>?_,ZJ _ _ _⟩
 rw[Z5] at hi
 obtain⟨u,h1,rfl⟩:=List.mem_map.1 hi
 exact h.k u h1
theorem Zb7 {a b:List PU}(ha:ShP a)(hb:ShP b):(∀i∈allL a b,IvOk 3 i)/\(allL a b).length<=320:=by
 have h1:=Zfx ha
 have h2:=Zfx hb
 have:=ha.n
 have:=hb.n
 refine⟨fun i hi=>(List.mem_append.1 hi).elim (h1.1 i) (h2.1 i), ?_⟩
 rw[Wp]
 omega
theorem Zgl {a b:List PU}(ha:ShP a)(hb:ShP b)(hn:(nrmS (allL a b)).length<=1024):CelIn (nrmS (allL a b)) (enR (allL a b)):=by
 obtain⟨h1,h2⟩:=Zb7 ha hb
 have h3:=ZbW (allL a b)
 exact⟨hn,by omega,fun i hi=>(ZbT h1 i hi).mono (by decide),(Zb3 (fun i hi=>(h1 i hi).mono (by decide))).b⟩
theorem Zj6 {a b:List PU}(ha:ShP a)(hb:ShP b):∀i∈celL a b,IvOk 3 i:=fun i hi=>by
 obtain⟨h1,h2⟩:=Zb7 ha hb
 have h3:∀i∈allL a b,RlB 3 i.From/\RlB 3 i.To:=fun i hi=>⟨(h1 i hi).a,(h1 i hi).b⟩
 have:=ZfX (Pr:=RlB 3) (Zb0 h3) (ZeU h3) i hi
 exact⟨this.1,this.2⟩
theorem Zhx {a b:List PU}(ha:ShP a)(hb:ShP b)(hn:(nrmS (allL a b)).length<=1024):(celL a b).length<=8192:=by
 have h2:=(Zb7 ha hb).2
 have h3:=ZbW (allL a b)
 have h4:=Zh9 (nrmS (allL a b)) (enR (allL a b))
 unfold celL
 omega
set_option maxHeartbeats 8000000 in
theorem Zi7 (v1 v2:Value)(a b:List PU)(w:World)(hv1:ArgS w v1 rP a)(hv2:ArgS w v2 rP b)(ha:ShP a)(hb:ShP b)(hn:(nrmS (allL a b)).length<=1024):
  Calls prog 23 [v1,v2].toArray w (RetM (SlS rI 20 (celL a b)) (fun q=>vSl q) (fun q=>mS 37 q) w):=by
 have:=ArgC.mk hv1
 have:=ArgC.mk hv2
 have hna:=ha.n
 have hnb:=hb.n
 have hla:=(Zfx ha).2
 have hlb:=(Zfx hb).2
 have hall:=Zb7 ha hb
 have p1:a.length<=1048576:=by omega
 have p2:b.length<=1048576:=by omega
 have p3:(allL a b).length<=1024/\∀i∈allL a b,IvOk B28 i:=⟨by omega,fun i hi=>(hall.1 i hi).mono (by decide)⟩
 have p4:(allL a b).length<=65536/\∀i∈allL a b,IvOk B28 i:=⟨by omega,p3.2⟩
 have p5:=Zgl ha hb hn
 refine Zb Tryz.func23 rfl Tryz.ntmps23 rfl ?_
 repeat(first|(refine wkB ?_;intros)|(refine wnM ?_ ?_;(focus(first|exact p1|exact p2));intros))
 refine sV rfl rfl ?_ ?_ ?_
 ·rfl
 ·exact⟨by omega,by omega⟩
 intro s3
 repeat(first|(refine wkB ?_;intros)|(refine wnM ?_ ?_;(focus(first|exact p3|exact p4|exact p5));intros))
 rename_i s4
 exact Zr rfl rfl (fun w hw=>⟨s4,rfl,hw.sub suB⟩)
instance Zx6 (w0:World)(L:List Blk)(v1 v2:Value)(a b:List PU)[h1:LstC w0 L v1 PU rP a][h2:LstC w0 L v2 PU rP b]:SpecR prog w0 L 23 [v1,v2] (SlS rI 20 (celL a b)) (fun q=>vSl q) (fun q=>mS 37 q) ((ShP a/\ShP b)/\(nrmS (allL a b)).length<=1024):=⟨fun hp w hw=>Zi7 v1 v2 a b w (h1.out w hw) (h2.out w hw) hp.1.1 hp.1.2 hp.2⟩
noncomputable def lf1 (op:Int)(a b:List PU)(c:Za)(out:List PU):List PU:=match lfO op (atL a (midR c)) (atL b (midR c)) with
 |some x=>out++[⟨c,x⟩]
 |none=>out
noncomputable def lfS (op:Int)(a b:List PU)(cs:List Za):Nat->List PU
 |0=>[]
 |i+1=>lf1 op a b (gi cs (i:Int)) (lfS op a b cs i)
theorem Zev (op:Int)(a b:List PU)(cs:List Za):∀i,(lfS op a b cs i).length<=i
 |0=>Wl _
 |i+1=>by
  have h1:=Zev op a b cs i
  rw[lfS]
  unfold lf1
  split
  ·simp;exact h1
  ·omega
noncomputable def lfU (op:Int)(a b:List PU):List PU:=lfS op a b (celL a b) (celL a b).length
noncomputable def lfR (op:Int)(a b:List PU):List PU:=jnL (lfU op a b) (lfU op a b).length
theorem Zkq {l:List PU}{t:Rl}{x:Int}{N:Int}(h:∀u∈l, -N<=u.Label/\u.Label<=N)(e:atL l t=some x): -N<=x/\x<=N:=by
 unfold atL at e
 rw[Option.map_eq_some_iff] at e
 obtain⟨u,h1,rfl⟩:=e
 exact h u (List.mem_of_find?_eq_some h1)
set_option maxHeartbeats 64000000 in
theorem Zju (op:Int)(v1 v2:Value)(a b:List PU)(w:World)(hop:op=1\/op=2\/op=3\/op=4\/op=5)(hv1:ArgS w v1 rP a)(hv2:ArgS w v2 rP b)(ha:ShP a)(hb:ShP b)(hn:(nrmS (allL a b)).length<=1024)(hA:∀u∈a, -1000<=u.Label/\u.Label<=1000)(hB:∀u∈b, -1000<=u.Label/\u.Label<=1000):
  Calls prog 46 [.int .i64 op,v1,v2].toArray w (RetM (SlS rP 21 (lfR op a b)) (fun q=>vSl q) (fun q=>mS 46 q) w):=by
 have:=ArgC.mk hv1
 have:=ArgC.mk hv2
 have hna:=ha.n
 have hnb:=hb.n
 have hcl:=Zhx ha hb hn
 have hco:=Zj6 ha hb
 have p1:(ShP a/\ShP b)/\(nrmS (allL a b)).length<=1024:=⟨⟨ha,hb⟩,hn⟩
 have hul:(lfU op a b).length<=1048576:=by have:=Zev op a b (celL a b) (celL a b).length;unfold lfU;omega
 have hfin:∀s:List PU,s=lfU op a b->jnL s s.length=lfR op a b:=fun s h=>by rw[h];rfl
 have hU:lfU op a b=lfS op a b (celL a b) (celL a b).length:=rfl
 refine Zb Tryz.func46 rfl Tryz.ntmps46 rfl ?_
 repeat(first|(refine wkB ?_;intros)|(refine wnM ?_ ?_;(focus(exact p1));intros))
 rename_i r
 refine ZW (S:=SlS rP 21 (lfU op a b)) (fun _=>True) (fun q=>[(7,vSl q)]) (fun q=>mS 46 q) ?_ (fun q _=>?_)
 ·rw[hU]
  clear hfin hul hU
  generalize celL a b=cs at*
  refine Zo (S:=(_:Nat)×(o:List PU)×SlS rP 21 o) (fun q=>q.1<=cs.length/\q.2.1=lfS op a b cs q.1) (fun q=>[(0, .int .i64 op),(1,v1),(2,v2),(7,vSl q.2.2),(8,vSl r),(9, .int .i64 (q.1:Nat))]) (fun q=>mS 46 q.2.2++mS 37 r) (fun q=>cs.length-q.1) ⟨0,[],SlS.no⟩ ⟨Wm _,rfl⟩ sbB suB (fun q hq=>?_)
  obtain⟨i,out,s⟩:=q
  obtain⟨hq,ho⟩:=hq
  dsimp only at hq ho⊢
  have hln:out.length<=i:=by rw[ho];exact Zev op a b cs i
  have hend:i=cs.length->out=lfS op a b cs cs.length:=fun h=>by rw[ho,h]
  have hnx:lf1 op a b (gi cs (i:Int)) out=lfS op a b cs (i+1):=by rw[ho];rfl
  clear ho
  repeat(refine wkB ?_;intros)
  refine Zk rfl (fun h=>?_) (fun h=>?_)
  ·have hlt:i<cs.length:=by have:=Wa h;omega
   rcases r.cases 37 with⟨y0,y1,y2⟩|⟨bc,cc,sp,hcc,y1,y2,yne⟩
   ·rw[y0] at hlt;cases hlt
   simp only[y1,y2]
   have hci:=hco (gi cs (i:Int)) (Zu (by omega))
   have hmB:=ZrB hci
   have hLa:=fun t x=>Zkq (l:=a) (t:=t) (x:=x) (N:=1000) hA
   have hLb:=fun t x=>Zkq (l:=b) (t:=t) (x:=x) (N:=1000) hB
   have q1:a.length<=1048576/\(∀u∈a,IvOk B28 u.In)/\RtB (midR (gi cs (i:Int))):=⟨by omega,fun u hu=>(ha.k u hu).mono (by decide),hmB.mono (by decide)⟩
   have q2:b.length<=1048576/\(∀u∈b,IvOk B28 u.In)/\RtB (midR (gi cs (i:Int))):=⟨by omega,fun u hu=>(hb.k u hu).mono (by decide),hmB.mono (by decide)⟩
   unfold lf1 at hnx
   rcases hop with rfl|rfl|rfl|rfl|rfl
   all_goals repeat(first|(refine wkB ?_;intros)|(refine wnM ?_ ?_;(focus(first|exact hci|exact q1|exact q2));intros))
   ·rcases hv:atL a (midR (gi cs (i:Int))) with _|x <;> rw[hv] at hnx
    rotate_left
    ·rcases hw:atL b (midR (gi cs (i:Int))) with _|y <;> rw[hw] at hnx
     rotate_left
     ·have bx:=hLa _ _ hv
      have by_:=hLb _ _ hw
      simp only[Option.getD_some,Option.getD_none,Option.isSome_some,Option.isSome_none]
      have ho:lfO 1 (some x) (some y)=some (10*x+y):=by simp[lfO]
      rw[ho] at hnx
      dsimp only at hnx
      repeat(first|(refine wkB ?_;intros)|(refine wnM ?_ ?_;(focus(exact⟨by omega,by omega⟩));intros))
      refine sU (k:=21) (enc:=rP) (s:=s) rfl rfl ?_ ?_ ?_ ?_
      ·rfl
      ·rfl
      ·exact⟨by decide,by omega,by omega⟩
      intro s'
      repeat(first|(refine wkB ?_;intros)|(refine wnM ?_ ?_;(focus(exact⟨by omega,by omega⟩));intros))
      exact Zc ⟨i+1,_,s'⟩ ⟨hlt,hnx⟩ (by(try simp only[y1]);exact sbB) (by(try simp only[y2,Wf,Wg]);exact suB) (by show cs.length-(i+1)<cs.length-i;omega)
     ·have bx:=hLa _ _ hv
      simp only[Option.getD_some,Option.getD_none,Option.isSome_some,Option.isSome_none]
      have ho:lfO 1 (some x) (none)=none:=by simp[lfO]
      rw[ho] at hnx
      dsimp only at hnx
      repeat(first|(refine wkB ?_;intros)|(refine wnM ?_ ?_;(focus(exact⟨by omega,by omega⟩));intros))
      exact Zc ⟨i+1,_,s⟩ ⟨hlt,hnx⟩ (by(try simp only[y1]);exact sbB) (by(try simp only[y2,Wf,Wg]);exact suB) (by show cs.length-(i+1)<cs.length-i;omega)
    ·rcases hw:atL b (midR (gi cs (i:Int))) with _|y <;> rw[hw] at hnx
     rotate_left
     ·have by_:=hLb _ _ hw
      simp only[Option.getD_some,Option.getD_none,Option.isSome_some,Option.isSome_none]
      have ho:lfO 1 (none) (some y)=none:=by simp[lfO]
      rw[ho] at hnx
      dsimp only at hnx
      repeat(first|(refine wkB ?_;intros)|(refine wnM ?_ ?_;(focus(exact⟨by omega,by omega⟩));intros))
      exact Zc ⟨i+1,_,s⟩ ⟨hlt,hnx⟩ (by(try simp only[y1]);exact sbB) (by(try simp only[y2,Wf,Wg]);exact suB) (by show cs.length-(i+1)<cs.length-i;omega)
     ·simp only[Option.getD_some,Option.getD_none,Option.isSome_some,Option.isSome_none]
      have ho:lfO 1 (none) (none)=none:=by simp[lfO]
      rw[ho] at hnx
      dsimp only at hnx
      repeat(first|(refine wkB ?_;intros)|(refine wnM ?_ ?_;(focus(exact⟨by omega,by omega⟩));intros))
      exact Zc ⟨i+1,_,s⟩ ⟨hlt,hnx⟩ (by(try simp only[y1]);exact sbB) (by(try simp only[y2,Wf,Wg]);exact suB) (by show cs.length-(i+1)<cs.length-i;omega)
   ·rcases hv:atL a (midR (gi cs (i:Int))) with _|x <;> rw[hv] at hnx
    rotate_left
    ·rcases hw:atL b (midR (gi cs (i:Int))) with _|y <;> rw[hw] at hnx
     rotate_left
     ·have bx:=hLa _ _ hv
      have by_:=hLb _ _ hw
      simp only[Option.getD_some,Option.getD_none,Option.isSome_some,Option.isSome_none]
      have ho:lfO 2 (some x) (some y)=some (y):=by simp[lfO]
      rw[ho] at hnx
      dsimp only at hnx
      repeat(first|(refine wkB ?_;intros)|(refine wnM ?_ ?_;(focus(exact⟨by omega,by omega⟩));intros))
      refine sU (k:=21) (enc:=rP) (s:=s) rfl rfl ?_ ?_ ?_ ?_
      ·rfl
      ·rfl
      ·exact⟨by decide,by omega,by omega⟩
      intro s'
      repeat(first|(refine wkB ?_;intros)|(refine wnM ?_ ?_;(focus(exact⟨by omega,by omega⟩));intros))
      exact Zc ⟨i+1,_,s'⟩ ⟨hlt,hnx⟩ (by(try simp only[y1]);exact sbB) (by(try simp only[y2,Wf,Wg]);exact suB) (by show cs.length-(i+1)<cs.length-i;omega)
     ·have bx:=hLa _ _ hv
      simp only[Option.getD_some,Option.getD_none,Option.isSome_some,Option.isSome_none]
      have ho:lfO 2 (some x) (none)=some (x):=by simp[lfO]
      rw[ho] at hnx
      dsimp only at hnx
      repeat(first|(refine wkB ?_;intros)|(refine wnM ?_ ?_;(focus(exact⟨by omega,by omega⟩));intros))
      refine sU (k:=21) (enc:=rP) (s:=s) rfl rfl ?_ ?_ ?_ ?_
      ·rfl
      ·rfl
      ·exact⟨by decide,by omega,by omega⟩
      intro s'
      repeat(first|(refine wkB ?_;intros)|(refine wnM ?_ ?_;(focus(exact⟨by omega,by omega⟩));intros))
      exact Zc ⟨i+1,_,s'⟩ ⟨hlt,hnx⟩ (by(try simp only[y1]);exact sbB) (by(try simp only[y2,Wf,Wg]);exact suB) (by show cs.length-(i+1)<cs.length-i;omega)
    ·rcases hw:atL b (midR (gi cs (i:Int))) with _|y <;> rw[hw] at hnx
     rotate_left
     ·have by_:=hLb _ _ hw
      simp only[Option.getD_some,Option.getD_none,Option.isSome_some,Option.isSome_none]
      have ho:lfO 2 (none) (some y)=some (y):=by simp[lfO]
      rw[ho] at hnx
      dsimp only at hnx
      repeat(first|(refine wkB ?_;intros)|(refine wnM ?_ ?_;(focus(exact⟨by omega,by omega⟩));intros))
      refine sU (k:=21) (enc:=rP) (s:=s) rfl rfl ?_ ?_ ?_ ?_
      ·rfl
      ·rfl
      ·exact⟨by decide,by omega,by omega⟩
      intro s'
      repeat(first|(refine wkB ?_;intros)|(refine wnM ?_ ?_;(focus(exact⟨by omega,by omega⟩));intros))
      exact Zc ⟨i+1,_,s'⟩ ⟨hlt,hnx⟩ (by(try simp only[y1]);exact sbB) (by(try simp only[y2,Wf,Wg]);exact suB) (by show cs.length-(i+1)<cs.length-i;omega)
     ·simp only[Option.getD_some,Option.getD_none,Option.isSome_some,Option.isSome_none]
      have ho:lfO 2 (none) (none)=none:=by simp[lfO]
      rw[ho] at hnx
      dsimp only at hnx
      repeat(first|(refine wkB ?_;intros)|(refine wnM ?_ ?_;(focus(exact⟨by omega,by omega⟩));intros))
      exact Zc ⟨i+1,_,s⟩ ⟨hlt,hnx⟩ (by(try simp only[y1]);exact sbB) (by(try simp only[y2,Wf,Wg]);exact suB) (by show cs.length-(i+1)<cs.length-i;omega)
   ·rcases hv:atL a (midR (gi cs (i:Int))) with _|x <;> rw[hv] at hnx
    rotate_left
    ·rcases hw:atL b (midR (gi cs (i:Int))) with _|y <;> rw[hw] at hnx
     rotate_left
     ·have bx:=hLa _ _ hv
      have by_:=hLb _ _ hw
      simp only[Option.getD_some,Option.getD_none,Option.isSome_some,Option.isSome_none]
      repeat(refine wkB ?_;intros)
      by_cases c:x=y
      ·simp only[Wc c]
       have ho:lfO 3 (some x) (some y)=some (1):=by simp[lfO,c]
       rw[ho] at hnx
       dsimp only at hnx
       repeat(first|(refine wkB ?_;intros)|(refine wnM ?_ ?_;(focus(exact⟨by omega,by omega⟩));intros))
       refine sU (k:=21) (enc:=rP) (s:=s) rfl rfl ?_ ?_ ?_ ?_
       ·rfl
       ·rfl
       ·exact⟨by decide,by omega,by omega⟩
       intro s'
       repeat(first|(refine wkB ?_;intros)|(refine wnM ?_ ?_;(focus(exact⟨by omega,by omega⟩));intros))
       exact Zc ⟨i+1,_,s'⟩ ⟨hlt,hnx⟩ (by(try simp only[y1]);exact sbB) (by(try simp only[y2,Wf,Wg]);exact suB) (by show cs.length-(i+1)<cs.length-i;omega)
      ·simp only[We c]
       have ho:lfO 3 (some x) (some y)=some (0):=by simp[lfO,c]
       rw[ho] at hnx
       dsimp only at hnx
       repeat(first|(refine wkB ?_;intros)|(refine wnM ?_ ?_;(focus(exact⟨by omega,by omega⟩));intros))
       refine sU (k:=21) (enc:=rP) (s:=s) rfl rfl ?_ ?_ ?_ ?_
       ·rfl
       ·rfl
       ·exact⟨by decide,by omega,by omega⟩
       intro s'
       repeat(first|(refine wkB ?_;intros)|(refine wnM ?_ ?_;(focus(exact⟨by omega,by omega⟩));intros))
       exact Zc ⟨i+1,_,s'⟩ ⟨hlt,hnx⟩ (by(try simp only[y1]);exact sbB) (by(try simp only[y2,Wf,Wg]);exact suB) (by show cs.length-(i+1)<cs.length-i;omega)
     ·have bx:=hLa _ _ hv
      simp only[Option.getD_some,Option.getD_none,Option.isSome_some,Option.isSome_none]
      repeat(refine wkB ?_;intros)
      by_cases c:x=(0:Int)
      ·simp only[Wc c]
       have ho:lfO 3 (some x) (none)=none:=by simp[lfO]
       rw[ho] at hnx
       dsimp only at hnx
       repeat(first|(refine wkB ?_;intros)|(refine wnM ?_ ?_;(focus(exact⟨by omega,by omega⟩));intros))
       exact Zc ⟨i+1,_,s⟩ ⟨hlt,hnx⟩ (by(try simp only[y1]);exact sbB) (by(try simp only[y2,Wf,Wg]);exact suB) (by show cs.length-(i+1)<cs.length-i;omega)
      ·simp only[We c]
       have ho:lfO 3 (some x) (none)=none:=by simp[lfO]
       rw[ho] at hnx
       dsimp only at hnx
       repeat(first|(refine wkB ?_;intros)|(refine wnM ?_ ?_;(focus(exact⟨by omega,by omega⟩));intros))
       exact Zc ⟨i+1,_,s⟩ ⟨hlt,hnx⟩ (by(try simp only[y1]);exact sbB) (by(try simp only[y2,Wf,Wg]);exact suB) (by show cs.length-(i+1)<cs.length-i;omega)
    ·rcases hw:atL b (midR (gi cs (i:Int))) with _|y <;> rw[hw] at hnx
     rotate_left
     ·have by_:=hLb _ _ hw
      simp only[Option.getD_some,Option.getD_none,Option.isSome_some,Option.isSome_none]
      repeat(refine wkB ?_;intros)
      by_cases c:(0:Int)=y
      ·simp only[Wc c]
       have ho:lfO 3 (none) (some y)=none:=by simp[lfO]
       rw[ho] at hnx
       dsimp only at hnx
       repeat(first|(refine wkB ?_;intros)|(refine wnM ?_ ?_;(focus(exact⟨by omega,by omega⟩));intros))
       exact Zc ⟨i+1,_,s⟩ ⟨hlt,hnx⟩ (by(try simp only[y1]);exact sbB) (by(try simp only[y2,Wf,Wg]);exact suB) (by show cs.length-(i+1)<cs.length-i;omega)
      ·simp only[We c]
       have ho:lfO 3 (none) (some y)=none:=by simp[lfO]
       rw[ho] at hnx
       dsimp only at hnx
       repeat(first|(refine wkB ?_;intros)|(refine wnM ?_ ?_;(focus(exact⟨by omega,by omega⟩));intros))
       exact Zc ⟨i+1,_,s⟩ ⟨hlt,hnx⟩ (by(try simp only[y1]);exact sbB) (by(try simp only[y2,Wf,Wg]);exact suB) (by show cs.length-(i+1)<cs.length-i;omega)
     ·simp only[Option.getD_some,Option.getD_none,Option.isSome_some,Option.isSome_none]
      repeat(refine wkB ?_;intros)
      have ho:lfO 3 (none) (none)=none:=by simp[lfO]
      rw[ho] at hnx
      dsimp only at hnx
      repeat(first|(refine wkB ?_;intros)|(refine wnM ?_ ?_;(focus(exact⟨by omega,by omega⟩));intros))
      exact Zc ⟨i+1,_,s⟩ ⟨hlt,hnx⟩ (by(try simp only[y1]);exact sbB) (by(try simp only[y2,Wf,Wg]);exact suB) (by show cs.length-(i+1)<cs.length-i;omega)
   ·rcases hv:atL a (midR (gi cs (i:Int))) with _|x <;> rw[hv] at hnx
    rotate_left
    ·rcases hw:atL b (midR (gi cs (i:Int))) with _|y <;> rw[hw] at hnx
     rotate_left
     ·have bx:=hLa _ _ hv
      have by_:=hLb _ _ hw
      simp only[Option.getD_some,Option.getD_none,Option.isSome_some,Option.isSome_none]
      repeat(refine wkB ?_;intros)
      by_cases c:x<y
      ·simp only[Wc c]
       have ho:lfO 4 (some x) (some y)=some (1):=by simp[lfO,c]
       rw[ho] at hnx
       dsimp only at hnx
       repeat(first|(refine wkB ?_;intros)|(refine wnM ?_ ?_;(focus(exact⟨by omega,by omega⟩));intros))
       refine sU (k:=21) (enc:=rP) (s:=s) rfl rfl ?_ ?_ ?_ ?_
       ·rfl
       ·rfl
       ·exact⟨by decide,by omega,by omega⟩
       intro s'
       repeat(first|(refine wkB ?_;intros)|(refine wnM ?_ ?_;(focus(exact⟨by omega,by omega⟩));intros))
       exact Zc ⟨i+1,_,s'⟩ ⟨hlt,hnx⟩ (by(try simp only[y1]);exact sbB) (by(try simp only[y2,Wf,Wg]);exact suB) (by show cs.length-(i+1)<cs.length-i;omega)
      ·simp only[We c]
       have ho:lfO 4 (some x) (some y)=some (0):=by simp[lfO,c]
       rw[ho] at hnx
       dsimp only at hnx
       repeat(first|(refine wkB ?_;intros)|(refine wnM ?_ ?_;(focus(exact⟨by omega,by omega⟩));intros))
       refine sU (k:=21) (enc:=rP) (s:=s) rfl rfl ?_ ?_ ?_ ?_
       ·rfl
       ·rfl
       ·exact⟨by decide,by omega,by omega⟩
       intro s'
       repeat(first|(refine wkB ?_;intros)|(refine wnM ?_ ?_;(focus(exact⟨by omega,by omega⟩));intros))
       exact Zc ⟨i+1,_,s'⟩ ⟨hlt,hnx⟩ (by(try simp only[y1]);exact sbB) (by(try simp only[y2,Wf,Wg]);exact suB) (by show cs.length-(i+1)<cs.length-i;omega)
     ·have bx:=hLa _ _ hv
      simp only[Option.getD_some,Option.getD_none,Option.isSome_some,Option.isSome_none]
      repeat(refine wkB ?_;intros)
      by_cases c:x<(0:Int)
      ·simp only[Wc c]
       have ho:lfO 4 (some x) (none)=none:=by simp[lfO]
       rw[ho] at hnx
       dsimp only at hnx
       repeat(first|(refine wkB ?_;intros)|(refine wnM ?_ ?_;(focus(exact⟨by omega,by omega⟩));intros))
       exact Zc ⟨i+1,_,s⟩ ⟨hlt,hnx⟩ (by(try simp only[y1]);exact sbB) (by(try simp only[y2,Wf,Wg]);exact suB) (by show cs.length-(i+1)<cs.length-i;omega)
      ·simp only[We c]
       have ho:lfO 4 (some x) (none)=none:=by simp[lfO]
       rw[ho] at hnx
       dsimp only at hnx
       repeat(first|(refine wkB ?_;intros)|(refine wnM ?_ ?_;(focus(exact⟨by omega,by omega⟩));intros))
       exact Zc ⟨i+1,_,s⟩ ⟨hlt,hnx⟩ (by(try simp only[y1]);exact sbB) (by(try simp only[y2,Wf,Wg]);exact suB) (by show cs.length-(i+1)<cs.length-i;omega)
    ·rcases hw:atL b (midR (gi cs (i:Int))) with _|y <;> rw[hw] at hnx
     rotate_left
     ·have by_:=hLb _ _ hw
      simp only[Option.getD_some,Option.getD_none,Option.isSome_some,Option.isSome_none]
      repeat(refine wkB ?_;intros)
      by_cases c:(0:Int)<y
      ·simp only[Wc c]
       have ho:lfO 4 (none) (some y)=none:=by simp[lfO]
       rw[ho] at hnx
       dsimp only at hnx
       repeat(first|(refine wkB ?_;intros)|(refine wnM ?_ ?_;(focus(exact⟨by omega,by omega⟩));intros))
       exact Zc ⟨i+1,_,s⟩ ⟨hlt,hnx⟩ (by(try simp only[y1]);exact sbB) (by(try simp only[y2,Wf,Wg]);exact suB) (by show cs.length-(i+1)<cs.length-i;omega)
      ·simp only[We c]
       have ho:lfO 4 (none) (some y)=none:=by simp[lfO]
       rw[ho] at hnx
       dsimp only at hnx
       repeat(first|(refine wkB ?_;intros)|(refine wnM ?_ ?_;(focus(exact⟨by omega,by omega⟩));intros))
       exact Zc ⟨i+1,_,s⟩ ⟨hlt,hnx⟩ (by(try simp only[y1]);exact sbB) (by(try simp only[y2,Wf,Wg]);exact suB) (by show cs.length-(i+1)<cs.length-i;omega)
     ·simp only[Option.getD_some,Option.getD_none,Option.isSome_some,Option.isSome_none]
      repeat(refine wkB ?_;intros)
      have ho:lfO 4 (none) (none)=none:=by simp[lfO]
      rw[ho] at hnx
      dsimp only at hnx
      repeat(first|(refine wkB ?_;intros)|(refine wnM ?_ ?_;(focus(exact⟨by omega,by omega⟩));intros))
      exact Zc ⟨i+1,_,s⟩ ⟨hlt,hnx⟩ (by(try simp only[y1]);exact sbB) (by(try simp only[y2,Wf,Wg]);exact suB) (by show cs.length-(i+1)<cs.length-i;omega)
   ·rcases hv:atL a (midR (gi cs (i:Int))) with _|x <;> rw[hv] at hnx
    rotate_left
    ·rcases hw:atL b (midR (gi cs (i:Int))) with _|y <;> rw[hw] at hnx
     rotate_left
     ·have bx:=hLa _ _ hv
      have by_:=hLb _ _ hw
      simp only[Option.getD_some,Option.getD_none,Option.isSome_some,Option.isSome_none]
      have ho:lfO 5 (some x) (some y)=some (10*x):=by simp[lfO]
      rw[ho] at hnx
      dsimp only at hnx
      repeat(first|(refine wkB ?_;intros)|(refine wnM ?_ ?_;(focus(exact⟨by omega,by omega⟩));intros))
      refine sU (k:=21) (enc:=rP) (s:=s) rfl rfl ?_ ?_ ?_ ?_
      ·rfl
      ·rfl
      ·exact⟨by decide,by omega,by omega⟩
      intro s'
      repeat(first|(refine wkB ?_;intros)|(refine wnM ?_ ?_;(focus(exact⟨by omega,by omega⟩));intros))
      exact Zc ⟨i+1,_,s'⟩ ⟨hlt,hnx⟩ (by(try simp only[y1]);exact sbB) (by(try simp only[y2,Wf,Wg]);exact suB) (by show cs.length-(i+1)<cs.length-i;omega)
     ·have bx:=hLa _ _ hv
      simp only[Option.getD_some,Option.getD_none,Option.isSome_some,Option.isSome_none]
      have ho:lfO 5 (some x) (none)=some (10*x):=by simp[lfO]
      rw[ho] at hnx
      dsimp only at hnx
      repeat(first|(refine wkB ?_;intros)|(refine wnM ?_ ?_;(focus(exact⟨by omega,by omega⟩));intros))
      refine sU (k:=21) (enc:=rP) (s:=s) rfl rfl ?_ ?_ ?_ ?_
      ·rfl
      ·rfl
      ·exact⟨by decide,by omega,by omega⟩
      intro s'
      repeat(first|(refine wkB ?_;intros)|(refine wnM ?_ ?_;(focus(exact⟨by omega,by omega⟩));intros))
      exact Zc ⟨i+1,_,s'⟩ ⟨hlt,hnx⟩ (by(try simp only[y1]);exact sbB) (by(try simp only[y2,Wf,Wg]);exact suB) (by show cs.length-(i+1)<cs.length-i;omega)
    ·rcases hw:atL b (midR (gi cs (i:Int))) with _|y <;> rw[hw] at hnx
     rotate_left
     ·have by_:=hLb _ _ hw
      simp only[Option.getD_some,Option.getD_none,Option.isSome_some,Option.isSome_none]
      have ho:lfO 5 (none) (some y)=none:=by simp[lfO]
      rw[ho] at hnx
      dsimp only at hnx
      repeat(first|(refine wkB ?_;intros)|(refine wnM ?_ ?_;(focus(exact⟨by omega,by omega⟩));intros))
      exact Zc ⟨i+1,_,s⟩ ⟨hlt,hnx⟩ (by(try simp only[y1]);exact sbB) (by(try simp only[y2,Wf,Wg]);exact suB) (by show cs.length-(i+1)<cs.length-i;omega)
     ·simp only[Option.getD_some,Option.getD_none,Option.isSome_some,Option.isSome_none]
      have ho:lfO 5 (none) (none)=none:=by simp[lfO]
      rw[ho] at hnx
      dsimp only at hnx
      repeat(first|(refine wkB ?_;intros)|(refine wnM ?_ ?_;(focus(exact⟨by omega,by omega⟩));intros))
      exact Zc ⟨i+1,_,s⟩ ⟨hlt,hnx⟩ (by(try simp only[y1]);exact sbB) (by(try simp only[y2,Wf,Wg]);exact suB) (by show cs.length-(i+1)<cs.length-i;omega)
  ·have hge:i=cs.length:=by have:=Wb h;omega
   obtain⟨s',f1,f2⟩:=SlS.turn 46 (hend hge) s
   repeat(refine wkB ?_;intros)
   exact Ze s' trivial (by rw[f1];exact sbB) (by rw[f2];exact suB)
 repeat(first|(refine wkB ?_;intros)|(refine wnM ?_ ?_;(focus(exact hul));intros))
 rename_i r2
 exact Zr rfl rfl (fun w hw=>⟨r2,rfl,hw.sub suB⟩)
end
section
theorem NfP.ok {l:List PU}(h:NfP l):∀u∈l,okI u.In:=fun u hu=>h.nf.ok (absQ u) (List.mem_map_of_mem hu)
theorem NfP.bf {l:List PU}(h:NfP l){i j:Nat}(hij:i<j)(hj:j<l.length):bfI (gi l (i:Int)).In (gi l (j:Int)).In:=by
 have:=(List.pairwise_map.1 h.nf.pw)
 have:=List.pairwise_iff_getElem.1 this i j (by omega) hj hij
 rw[Zt hj,Zt (by omega)]
 exact this.bf
theorem ZnB (l:List PU){i:Nat}(h:i<l.length):gi (mpN toU l l.length) (i:Int)=toU (gi l (i:Int)):=by
 rw[Z5,Zt (by rw[Ws];exact h),Zt h,List.getElem_map]
theorem Zko (l:List PU):(mpN toU l l.length).length=l.length:=ZJ toU l l.length
theorem ZDw {l:List PU}(h:NfP l)(t:Rl):∃c,Cut (mpN toU l l.length) t c:=by
 have hm:∀n,n<=l.length->∃c,c<=n/\(∀j:Nat,j<c->ri (gi l (j:Int)).In.To<ri t)/\∀j:Nat,c<=j->j<n->ri t<=ri (gi l (j:Int)).In.To:=fun n=>by
  induction n with
  |zero=>exact fun _=>⟨0,Wl _,fun j hj=>by omega,fun j h1 h2=>by omega⟩
  |succ n ih=>
   intro hn
   obtain⟨c,c1,c2,c3⟩:=ih (by omega)
   by_cases c0:ri (gi l (n:Int)).In.To<ri t
   ·refine⟨n+1,Wl _,fun j hj=>?_,fun j h1 h2=>by omega⟩
    rcases(by omega:j<n\/j=n) with h1|rfl
    ·have hb:=h.bf h1 (by omega)
     have ho:=h.ok (gi l (n:Int)) (Zu (by omega))
     unfold bfI at hb
     unfold okI at ho
     grind
    ·exact c0
   ·refine⟨c,by omega,c2,fun j h1 h2=>?_⟩
    rcases(by omega:j<n\/j=n) with h3|rfl
    ·exact c3 j h1 h3
    ·grind
 obtain⟨c,c1,c2,c3⟩:=hm l.length (Wl _)
 refine⟨c,⟨by rw[Zko];exact c1,fun j hj=>?_,fun j h1 h2=>?_⟩⟩
 ·rw[ZnB l (by omega)];exact c2 j hj
 ·rw[Zko] at h2
  rw[ZnB l h2];exact c3 j h1 h2
theorem Zk5 (us:List PU)(x:Int){i:Za}:∀m,m<=us.length->(i∈whL us x m↔∃u∈us.take m,u.Label=x/\i=u.In)
 |0,_=>by simp[whL]
 |m+1,hm=>by
  have ih:=Zk5 us x (i:=i) m (by omega)
  rw[Wn (by omega),<-Zt (by omega),whL]
  simp only[Wv,Wo]
  split
  ·rename_i hc
   rw[Wv,Wo,ih]
   constructor
   ·rintro(⟨u,h1,h2⟩|h1)
    ·exact⟨u, .inl h1,h2⟩
    ·exact⟨_, .inr rfl,hc,h1⟩
   ·rintro⟨u,h1|h1,h2⟩
    ·exact .inl ⟨u,h1,h2⟩
    ·rw[h1] at h2;exact .inr h2.2
  ·rename_i hc
   rw[ih]
   constructor
   ·rintro⟨u,h1,h2⟩;exact⟨u, .inl h1,h2⟩
   ·rintro⟨u,h1|h1,h2⟩
    ·exact⟨u,h1,h2⟩
    ·rw[h1] at h2;exact(hc h2.1).elim
theorem ZgA {us:List PU}{x:Int}{i:Za}:i∈whL us x us.length↔∃u∈us,u.Label=x/\i=u.In:=by
 rw[Zk5 us x _ (Wl _),List.take_length]
theorem Zn7 (l:List PU):pIv l=inL l:=by
 unfold pIv
 rw[Z5,Z5,List.map_map,inL,Z5]
 rfl
theorem Zo7 {l:List PU}{z:Ri}:HoldP (inL l) z↔∃u∈l,memI u.In z:=by
 unfold HoldP inL
 rw[Z5]
 constructor
 ·rintro⟨i,h1,h2⟩
  obtain⟨u,h3,rfl⟩:=List.mem_map.1 h1
  exact⟨u,h3,h2⟩
 ·rintro⟨u,h1,h2⟩
  exact⟨_,List.mem_map.2 ⟨u,h1,rfl⟩,h2⟩
end
end Go.Vt
