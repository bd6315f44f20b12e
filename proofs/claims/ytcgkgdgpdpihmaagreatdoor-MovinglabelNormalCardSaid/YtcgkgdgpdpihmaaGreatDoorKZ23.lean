/- For any up to 8 stretches, Normal returns the normal form of their units in any order, if no two have an instant in common, and ErrOverlap otherwise. Conditions: none. (part 23 of 28.) Conditions: those that each statement names. -/
import Derived.Test.YtcgkgdgpdpihmaaGreatDoorProg
import Derived.Test.YtcgkgdgpdpihmaaGreatDoorKZ9
import Derived.Test.YtcgkgdgpdpihmaaGreatDoorKZ11
import Derived.Test.YtcgkgdgpdpihmaaGreatDoorKZ15
import Derived.Test.YtcgkgdgpdpihmaaGreatDoorKZ20
import Derived.Test.YtcgkgdgpdpihmaaGreatDoorKZ22
set_option linter.unusedSimpArgs false
set_option linter.unusedVariables false
set_option maxHeartbeats 2000000
set_option maxRecDepth 100000
set_option linter.unusedSectionVars false
namespace Go.Vt
structure Apx (r α η:Rat):Prop where
 a0:0<=α
 h0:0<η
 lo:α*α<=r
 hi:r<(α+η)*(α+η)
theorem Zhh {r η:Rat}(hr:0<=r)(h:0<η):∃α δ,Apx r α δ/\δ<=η:=by
 obtain⟨k,hk⟩:=ZhL η (r+1) h
 obtain⟨b,h1,h2,h3⟩:=bisect hr k
 have hp:(0:Rat)<((2 ^ k:Nat):Rat):=by
  have:=Nat.two_pow_pos k
  exact_mod_cast this
 generalize ((2 ^ k:Nat):Rat)=P at*
 obtain⟨d,hd⟩:∃d,d=(r+1) / P:=⟨_,rfl⟩
 have hdP:d*P=r+1:=by rw[hd];grind
 rw[<-hd] at h3
 have hd0:0<d:=by
  by_cases hc:0<d
  ·exact hc
  ·have:=ZaI (show d<=0 by grind) (Rat.le_of_lt hp)
   grind
 refine⟨b,d,⟨h1,hd0,h2,h3⟩, ?_⟩
 by_cases hc:d<=η
 ·exact hc
 ·have:=Zbm (show η<d by grind) hp
  grind
theorem Ztr {x:RV}{α η q:Rat}(ha:Apx x.r α η)(h:x.lq q):x.p+sgn x.n*α-η<q:=by
 unfold RV.lq ps at h
 have h1:=ha.a0
 have h2:=ha.h0
 have h3:=ha.lo
 have h4:=ha.hi
 have hs:=Zdk x.n
 generalize x.r=r at*
 generalize hu:q-x.p=u at*
 by_cases hc:x.p+sgn x.n*α-η<q
 ·exact hc
 ·exfalso
  cases hn:x.n
  ·rw[hn] at h hc
   simp only[sgn] at h hc
   rcases h with⟨g1,g2⟩|⟨g1,g2⟩
   ·have:=Zdu (a:=u) (b:=α) (by grind) (by grind)
    grind
   ·grind
  ·rw[hn] at h hc
   simp only[sgn] at h hc
   have hu0:α+η<= -u:=by grind
   rcases h with⟨g1,g2⟩|⟨g1,g2⟩
   ·grind
   ·have h5:(α+η)*(α+η)<=u*u:=by
     have:=Rat.mul_nonneg (show 0<= -u-(α+η) by grind) (show 0<= -u+(α+η) by grind)
     grind
    grind
theorem ZtG {x:RV}{α η q:Rat}(ha:Apx x.r α η)(h:RV.ql q x):q<x.p+sgn x.n*α+η:=by
 unfold RV.ql ps at h
 have h1:=ha.a0
 have h2:=ha.h0
 have h3:=ha.lo
 have h4:=ha.hi
 generalize x.r=r at*
 generalize hu:x.p-q=u at*
 by_cases hc:q<x.p+sgn x.n*α+η
 ·exact hc
 ·exfalso
  cases hn:x.n
  ·rw[hn] at h hc
   simp only[sgn] at h hc
   have hu0:α+η<= -u:=by grind
   rcases h with⟨g1,g2⟩|⟨g1,g2⟩
   ·grind
   ·have h5:(α+η)*(α+η)<=u*u:=by
     have:=Rat.mul_nonneg (show 0<= -u-(α+η) by grind) (show 0<= -u+(α+η) by grind)
     grind
    grind
  ·rw[hn] at h hc
   simp only[sgn] at h hc
   rcases h with⟨g1,g2⟩|⟨g1,g2⟩
   ·have:=Zdu (a:=u) (b:=α) (by grind) (by grind)
    grind
   ·grind
theorem Zo9 {x:RV}{α η q:Rat}(hk:Rk x.r)(ha:Apx x.r α η)(h:x.p+sgn x.n*α+η<=q):x.lq q:=by
  unfold RV.lq ps
  have h1:=ha.a0
  have h2:=ha.h0
  have h3:=ha.lo
  have h4:=ha.hi
  generalize x.r=r at*
  generalize hu:q-x.p=u at*
  cases hn:x.n
  · rw[hn] at h
    simp only[sgn] at h⊢
    have hu0:α+η<=u:=by grind
    refine .inl ⟨by grind, ?_⟩
    have:=Rat.mul_nonneg (show 0<=u-(α+η) by grind) (show 0<=u+(α+η) by grind)
    grind
  · rw[hn] at h
    simp only[sgn] at h⊢
    have hu0:η-α<=u:=by grind
    by_cases c:0<=u
    · by_cases c2:u*u<r
      · exact .inr ⟨by grind,by grind⟩
      · by_cases c3:u*u=r
        · exfalso
          rcases hk with hk|⟨_,hk⟩
          · have h5 : u = 0 := by have : u * u = 0 := by grind
                                  grind
            have h7 : α * α = 0 := by have := Zak α
                                      grind
            have h6:α=0:=by grind
            grind
          · exact hk u c3
        · refine .inl ⟨?_,by grind⟩
          by_cases c4:u=0
          · have:=Zak α
            subst c4
            grind
          · grind
    · refine .inr ⟨by grind, ?_⟩
      have:=Zdu (a:= -u) (b:=α) (by grind) (by grind)
      grind
theorem ZoI {x:RV}{α η q:Rat}(hk:Rk x.r)(ha:Apx x.r α η)(h:q<=x.p+sgn x.n*α-η):RV.ql q x:=by
  unfold RV.ql ps
  have h1:=ha.a0
  have h2:=ha.h0
  have h3:=ha.lo
  have h4:=ha.hi
  generalize x.r=r at*
  generalize hu:x.p-q=u at*
  cases hn:x.n
  · rw[hn] at h
    simp only[sgn] at h⊢
    have hu0:η-α<=u:=by grind
    by_cases c:0<=u
    · by_cases c2:u*u<r
      · exact .inr ⟨by grind,by grind⟩
      · by_cases c3:u*u=r
        · exfalso
          rcases hk with hk|⟨_,hk⟩
          · have h5 : u = 0 := by have : u * u = 0 := by grind
                                  grind
            have h7 : α * α = 0 := by have := Zak α
                                      grind
            have h6:α=0:=by grind
            grind
          · exact hk u c3
        · refine .inl ⟨?_,by grind⟩
          by_cases c4:u=0
          · have:=Zak α
            subst c4
            grind
          · grind
    · refine .inr ⟨by grind, ?_⟩
      have:=Zdu (a:= -u) (b:=α) (by grind) (by grind)
      grind
  · rw[hn] at h
    simp only[sgn] at h⊢
    have hu0:α+η<=u:=by grind
    refine .inl ⟨by grind, ?_⟩
    have:=Rat.mul_nonneg (show 0<=u-(α+η) by grind) (show 0<=u+(α+η) by grind)
    grind
structure RB (x:RV):Prop where
 o:x.ok
 p:∃z:Int,x.p=(z:Rat) / 12
 r:∃z:Int,x.r=(z:Rat) / 6
 pl:0<=x.p+4
 ph:x.p<=68
 rh:x.r<=12
theorem ZaS {x y A B:Rat}(hx: -A<=x/\x<=A)(hy: -B<=y/\y<=B): -(A*B)<=x*y/\x*y<=A*B:=by
 have h1:=Rat.mul_nonneg (show 0<=A-x by grind) (show 0<=B+y by grind)
 have h2:=Rat.mul_nonneg (show 0<=A+x by grind) (show 0<=B-y by grind)
 have h3:=Rat.mul_nonneg (show 0<=A-x by grind) (show 0<=B-y by grind)
 have h4:=Rat.mul_nonneg (show 0<=A+x by grind) (show 0<=B+y by grind)
 constructor <;> grind
theorem Zmn {r α δ:Rat}(h:Apx r α δ)(hr:r<=12)(hd:δ<=1 / 1000000000000000):α<=4/\0<=r-α*α/\r-α*α<=1 / 100000000000000:=by
 have h0:=h.a0
 have h1:=h.h0
 have h2:=h.lo
 have h3:=h.hi
 have ha:α<=4:=by
  by_cases c:α<=4
  ·exact c
  ·have:=Zdu (a:=4) (b:=α) (by grind) (by grind)
   grind
 refine⟨ha,by grind, ?_⟩
 have h4:=ZaS (x:=2*α+δ) (y:=δ) (A:=9) (B:=1 / 1000000000000000) ⟨by grind,by grind⟩ ⟨by grind,by grind⟩
 have h5:(α+δ)*(α+δ)=α*α+(2*α+δ)*δ:=by grind
 grind
theorem ZkW {a S1 S2 r1 r2:Rat}(ha: -72<=a/\a<=72)(h1: -4<=S1/\S1<=4)(h2: -4<=S2/\S2<=4)(hr1:0<=r1/\r1<=12)(hr2:0<=r2/\r2<=12)
  (x1:0<=r1-S1*S1/\r1-S1*S1<=1 / 100000000000000) (x2:0<=r2-S2*S2/\r2-S2*S2<=1 / 100000000000000) (hD: -(1 / 100000000000)<=a+S2-S1/\a+S2-S1<=1 / 100000000000):
  -(1 / 30000)<=(a*a-r1-r2)*(a*a-r1-r2)-4*(r1*r2)/\(a*a-r1-r2)*(a*a-r1-r2)-4*(r1*r2)<=1 / 30000:=by
 have b1:=ZaS (x:=a+S2+S1) (y:=a-S2-S1) (A:=80) (B:=80) ⟨by grind,by grind⟩ ⟨by grind,by grind⟩
 have b2:=ZaS (x:=(a+S2+S1)*(a-S2-S1)) (y:=a-S2+S1) (A:=80*80) (B:=80) b1 ⟨by grind,by grind⟩
 have b3:=ZaS hD b2
 obtain⟨k1,hk1⟩:∃k,k=r1-S1*S1:=⟨_,rfl⟩
 obtain⟨k2,hk2⟩:∃k,k=r2-S2*S2:=⟨_,rfl⟩
 rw[<-hk1] at x1
 rw[<-hk2] at x2
 have ba:=ZaS ha ha
 have b4:=ZaS (x:=a*a-r1-r2) (y:=k1+k2) (A:=6000) (B:=2 / 100000000000000) ⟨by grind,by grind⟩ ⟨by grind,by grind⟩
 have b5:=ZaS (x:=k1+k2) (y:=k1+k2) (A:=1) (B:=1) ⟨by grind,by grind⟩ ⟨by grind,by grind⟩
 have b5':=ZaS (x:=k1+k2) (y:=k1+k2) (A:=2 / 100000000000000) (B:=2 / 100000000000000) ⟨by grind,by grind⟩ ⟨by grind,by grind⟩
 have b6:=ZaS (x:=r1) (y:=k2) (A:=12) (B:=1 / 100000000000000) ⟨by grind,by grind⟩ ⟨by grind,by grind⟩
 have b7:=ZaS (x:=r2) (y:=k1) (A:=12) (B:=1 / 100000000000000) ⟨by grind,by grind⟩ ⟨by grind,by grind⟩
 have b8:=ZaS (x:=k1) (y:=k2) (A:=1 / 100000000000000) (B:=1 / 100000000000000) ⟨by grind,by grind⟩ ⟨by grind,by grind⟩
 have e:(a*a-r1-r2)*(a*a-r1-r2)-4*(r1*r2)=(a+S2-S1)*((a+S2+S1)*(a-S2-S1)*(a-S2+S1))-2*((a*a-r1-r2)*(k1+k2))-(k1+k2)*(k1+k2)-4*(r1*k2)-4*(r2*k1)+4*(k1*k2):=by
  rw[hk1,hk2];grind
 rw[e]
 generalize (a+S2-S1)*((a+S2+S1)*(a-S2-S1)*(a-S2+S1))=X at*
 generalize (a*a-r1-r2)*(k1+k2)=Y at*
 generalize (k1+k2)*(k1+k2)=Z at*
 generalize r1*k2=U at*
 generalize r2*k1=V at*
 generalize k1*k2=W at*
 constructor <;> grind
theorem ZlZ {z:Int}(h1: -(1:Rat)<(z:Rat))(h2:(z:Rat)<1):z=0:=by
 have a:((-1:Int):Rat)<(z:Rat):=by simpa using h1
 have b:(z:Rat)<((1:Int):Rat):=by simpa using h2
 have:=Rat.intCast_lt_intCast.1 a
 have:=Rat.intCast_lt_intCast.1 b
 omega
theorem Zmg {a r1 r2:Rat}(ha:∃z:Int,a=(z:Rat) / 12)(h1:∃z:Int,r1=(z:Rat) / 6)(h2:∃z:Int,r2=(z:Rat) / 6)
  (h: -(1 / 30000)<=(a*a-r1-r2)*(a*a-r1-r2)-4*(r1*r2)/\(a*a-r1-r2)*(a*a-r1-r2)-4*(r1*r2)<=1 / 30000):(a*a-r1-r2)*(a*a-r1-r2)=4*(r1*r2):=by
 obtain⟨z,rfl⟩:=ha
 obtain⟨u,rfl⟩:=h1
 obtain⟨v,rfl⟩:=h2
 have e:20736*(((z:Rat) / 12*((z:Rat) / 12)-(u:Rat) / 6-(v:Rat) / 6)*((z:Rat) / 12*((z:Rat) / 12)-(u:Rat) / 6-(v:Rat) / 6)-4*((u:Rat) / 6*((v:Rat) / 6)))=(((z*z-24*u-24*v)*(z*z-24*u-24*v)-2304*(u*v):Int):Rat):=by
  push_cast
  grind
 have hz:=ZlZ (z:=(z*z-24*u-24*v)*(z*z-24*u-24*v)-2304*(u*v)) (by rw[<-e];grind) (by rw[<-e];grind)
 rw[hz] at e
 have e2:((0:Int):Rat)=0:=rfl
 rw[e2] at e
 grind
theorem sixth {r:Rat}(h:∃z:Int,r=(z:Rat) / 6)(h0:0<r):1 / 6<=r:=by
 obtain⟨z,rfl⟩:=h
 have h1:((0:Int):Rat)<(z:Rat):=by
  have:((0:Int):Rat)=0:=rfl
  rw[this]
  grind
 have h2:=Rat.intCast_lt_intCast.1 h1
 have h3:((1:Int):Rat)<=(z:Rat):=Rat.intCast_le_intCast.2 (by omega)
 have:((1:Int):Rat)=1:=rfl
 rw[this] at h3
 grind
theorem ZjX {r α δ:Rat}(h:Apx r α δ)(hr:1 / 6<=r)(hd:δ<=1 / 1000000000000000):1 / 4<=α:=by
 by_cases c:1 / 4<=α
 ·exact c
 ·have h0:=h.a0
  have h1:=h.h0
  have h2:=h.hi
  have:=Zdu (a:=α+δ) (b:=1 / 3) (by grind) (by grind)
  grind
theorem Znw {X r:Rat}(hr:0<r):2*(X / (2*r)*r)=X:=by
 have:2*r≠0:=by grind
 grind
theorem Zpt {v r s:Rat}(hr:0<r)(h:(2*(v*r))*(2*(v*r))=4*(r*s)):v*v*r=s:=by
 have:r≠0:=by grind
 grind
theorem Zq9 {X u r:Rat}(hu:u≠0)(h:X*X=u*u*r):X / u*(X / u)=r:=by
 have h5:X / u*u=X:=by grind
 generalize X / u=w at*
 have h6:w*w*(u*u)=r*(u*u):=by grind
 have h7:u*u≠0:=by grind
 grind
theorem Zr3 {x y:RV}(hx:RB x)(hy:RB y)(ha12:∃z:Int,y.p-x.p=(z:Rat) / 12)(h:x.lt y){e:Rat}(he0:0<e)(he:e<=1 / 1000000000000):(x.sh e).lt y:=by
 obtain⟨α,δ1,A1,hd1⟩:=Zhh hx.o.k.nn (show(0:Rat)<1 / 1000000000000000 by grind)
 obtain⟨β,δ2,A2,hd2⟩:=Zhh hy.o.k.nn (show(0:Rat)<1 / 1000000000000000 by grind)
 have hlt:=h
 obtain⟨q,q1,q2⟩:=h
 have g1:=Ztr A1 q1
 have g2:=ZtG A2 q2
 by_cases c:x.p+e+sgn x.n*α+δ1<=y.p+sgn y.n*β-δ2
 ·refine⟨x.p+e+sgn x.n*α+δ1, ?_,ZoI hy.o.k A2 c⟩
  exact Zo9 (x:=x.sh e) hx.o.k A1 (by show x.p+e+sgn x.n*α+δ1<=_;grind)
 ·exfalso
  have hd1':=A1.h0
  have hd2':=A2.h0
  have s1:=Zmn A1 hx.rh hd1
  have s2:=Zmn A2 hy.rh hd2
  have a1:=A1.a0
  have a2:=A2.a0
  have hr1:=hx.o.k.nn
  have hr2:=hy.o.k.nn
  have hxl:=hx.pl
  have hxh:=hx.ph
  have hyl:=hy.pl
  have hyh:=hy.ph
  have e1:(sgn x.n*α)*(sgn x.n*α)=α*α:=by have:=Zdk x.n;grind
  have e2:(sgn y.n*β)*(sgn y.n*β)=β*β:=by have:=Zdk y.n;grind
  have b1: -4<=sgn x.n*α/\sgn x.n*α<=4:=by cases x.n <;> simp[sgn] <;> grind
  have b2: -4<=sgn y.n*β/\sgn y.n*β<=4:=by cases y.n <;> simp[sgn] <;> grind
  have N:=Zmg ha12 hx.r hy.r (ZkW (a:=y.p-x.p) (S1:=sgn x.n*α) (S2:=sgn y.n*β) (r1:=x.r) (r2:=y.r) ⟨by grind,by grind⟩ b1 b2 ⟨hr1,hx.rh⟩ ⟨hr2,hy.rh⟩ (by rw[e1];exact⟨s1.2.1,s1.2.2⟩) (by rw[e2];exact⟨s2.2.1,s2.2.2⟩) ⟨by grind,by grind⟩)
  have same:y.p-x.p=0->x.r=y.r->x.n=y.n->False:=fun h1 h2 h3=>by
   have:x=y:=by
    obtain⟨p,r,n⟩:=x
    obtain⟨p',r',n'⟩:=y
    dsimp only at h1 h2 h3
    have h4:p=p':=by grind
    subst h2 h3 h4
    rfl
   subst this
   exact RV.lt_irr hlt
  have sq0:∀u:Rat,u*u=0->u=0:=fun u hu=>by grind
  rcases hx.o.k with k1|⟨k1,k1'⟩
  ·rw[k1] at N
   have n1:(y.p-x.p)*(y.p-x.p)=y.r:=by
    have:=sq0 ((y.p-x.p)*(y.p-x.p)-0-y.r) (by rw[N];grind)
    grind
   rcases hy.o.k with k2|⟨k2,k2'⟩
   ·rw[k2] at n1
    exact same (sq0 _ n1) (by rw[k1,k2]) (by rw[hx.o.z k1,hy.o.z k2])
   ·exact k2' _ n1
  ·rcases hy.o.k with k2|⟨k2,k2'⟩
   ·rw[k2] at N
    have n1:(y.p-x.p)*(y.p-x.p)=x.r:=by
     have:=sq0 ((y.p-x.p)*(y.p-x.p)-x.r-0) (by rw[N];grind)
     grind
    exact k1' _ n1
   ·obtain⟨v,hv⟩:∃v,v=((y.p-x.p)*(y.p-x.p)-x.r-y.r) / (2*x.r):=⟨_,rfl⟩
    have hv1:2*(v*x.r)=(y.p-x.p)*(y.p-x.p)-x.r-y.r:=by rw[hv];exact Znw k1
    have hv2:v*v*x.r=y.r:=Zpt k1 (by rw[hv1];exact N)
    clear hv
    have hv3:(y.p-x.p)*(y.p-x.p)=(1+v)*(1+v)*x.r:=by
     have:(1+v)*(1+v)*x.r=x.r+2*(v*x.r)+v*v*x.r:=by grind
     rw[this,hv1,hv2]
     grind
    by_cases c1:1+v=0
    ·have hvm:v= -1:=by grind
     have n1:y.r=x.r:=by rw[<-hv2,hvm];clear N same sq0 g1 g2 c;grind
     have n2:y.p-x.p=0:=sq0 _ (by rw[hv3,c1];clear N same sq0 g1 g2 c;grind)
     have t1:=ZjX A1 (sixth hx.r k1) hd1
     have t2:=ZjX A2 (sixth hy.r k2) hd2
     cases hxn:x.n <;> cases hyn:y.n
     ·exact same n2 n1.symm (by rw[hxn,hyn])
     ·rw[hxn] at g1 c
      rw[hyn] at g2 c
      simp only[sgn] at g1 g2 c
      grind
     ·rw[hxn] at g1 c
      rw[hyn] at g2 c
      simp only[sgn] at g1 g2 c
      grind
     ·exact same n2 n1.symm (by rw[hxn,hyn])
    ·exact k1' _ (Zq9 c1 hv3)
end Go.Vt
namespace Go.Vt
abbrev rl (q:Rat):Rl:=⟨q,0,false⟩
theorem ZkI (q:Rat):(rvR (rl q)).ok:=RV.ok_rat q
theorem ps0 {u v:Rat}:ps 0 u v↔0<u:=by
 unfold ps
 constructor
 ·rintro(⟨h, -⟩|⟨-,h⟩)
  ·exact h
  ·have:=Zak u;grind
 ·intro h
  exact .inl ⟨h,by have:=Rat.mul_pos h h;grind⟩
theorem ZsW {p q:Rat}:ri (rl p)<ri (rl q)↔p<q:=by
 rw[Ri.lt_def,Zcd (ZkI p),Zcd (ZkI q)]
 constructor
 ·rintro⟨c,h1,h2⟩
  have h1:=ps0.1 h1
  have h2:=ps0.1 h2
  have e1:(rvR (rl p)).p=p:=rfl
  have e2:(rvR (rl q)).p=q:=rfl
  rw[e1] at h1
  rw[e2] at h2
  grind
 ·intro h
  refine⟨(p+q) / 2,ps0.2 ?_,ps0.2 ?_⟩
  ·show 0<(p+q) / 2-p;grind
  ·show 0<q-(p+q) / 2;grind
theorem ZrQ {k:Nat}{q:Rat}(h:M q<=k)(hk:1<=k):RlB k (rl q):=⟨ZkI q,h,Wi (show M 0<=1 by decide) hk⟩
end Go.Vt
namespace Go.Vt
open Go.RowKit Go.Proofs
open Go.Proofs.Tryz (prog)
section
def stp (k:Nat):Rat:=Rat.divInt 1 (2 ^ k:Nat)
theorem Zs4 :stp 0=Rat.divInt 1 1:=rfl
theorem Zn4 (k:Nat):stp k*Rat.divInt 1 2=stp (k+1):=by
 unfold stp
 rw[Rat.divInt_mul_divInt]
 congr 1
theorem Zo7 {k:Nat}(h:k<=60):M (stp k)<=8:=by
 unfold stp
 refine Zb2 (Wi (show mg (1:Int)<=1 by decide) (by decide)) ?_ (by decide)
 have h1:2 ^ k<=2 ^ 60:=Nat.pow_le_pow_right (by decide) h
 show(mag ((2 ^ k:Nat):Int).natAbs).size<=8
 rw[Zab,Int.natAbs_natCast]
 exact Nat.lt_of_le_of_lt h1 (by decide)
theorem Zi8 (k:Nat):0<stp k:=by
 unfold stp
 have h:=Nat.two_pow_pos k
 rw[Rat.divInt_eq_div]
 have h1:(0:Rat)<(((2 ^ k:Nat):Int):Rat):=by
  rw[Rat.intCast_natCast]
  exact_mod_cast h
 have h2:((1:Int):Rat)=1:=rfl
 rw[h2]
 generalize (((2 ^ k:Nat):Int):Rat)=P at*
 by_cases c:0<1 / P
 ·exact c
 ·have h3:1 / P*P=1:=by grind
  have:=ZaI (show 1 / P<=0 by grind) (Rat.le_of_lt h1)
  grind
theorem ZrX :stp 40<=1 / 1000000000000:=by decide+kernel
noncomputable def midF (c:Za):Nat->Nat->Rl
 |0,_=>c.From
 |n+1,i=>if cl (shR c.From (stp i)) c.To<0 then shR c.From (stp i) else midF c n (i+1)
noncomputable def midR (c:Za):Rl:=if c.From=c.To then c.From else midF c 60 0
set_option maxHeartbeats 8000000 in
instance Zu5 (c:Za):SpecC prog 25 [vIv c] (vR (midR c)) (IvOk 3 c):=⟨fun hp w=>by
 have q1:(1:Int)≠0/\(-9223372036854775808<=(1:Int)/\(1:Int)<=9223372036854775807)/\(-9223372036854775808<=(1:Int)/\(1:Int)<=9223372036854775807):=by decide
 have q2:(2:Int)≠0/\(-9223372036854775808<=(1:Int)/\(1:Int)<=9223372036854775807)/\(-9223372036854775808<=(2:Int)/\(2:Int)<=9223372036854775807):=by decide
 refine Zb Tryz.func25 rfl Tryz.ntmps25 rfl ?_
 repeat(refine wkB ?_;intros)
 rename_i b1 b2
 by_cases c0:c.From=c.To
 ·have e:midR c=c.From:=by unfold midR;rw[if_pos c0]
  rw[e]
  simp only[Wc c0]
  repeat(refine wkB ?_;intros)
  exact rtC rfl rfl
 ·have e:midR c=midF c 60 0:=by unfold midR;rw[if_neg c0]
  rw[e]
  obtain⟨F,hF⟩:∃F,F=midF c 60 0:=⟨_,rfl⟩
  rw[<-hF]
  simp only[We c0]
  repeat(first|(refine wkB ?_;intros)|(refine wnM ?_ ?_;(focus(first|exact q1|exact q2));intros))
  rename_i b3
  rw[<-Zs4]
  refine Zp (S:=Nat) (fun i=>i<=60/\F=midF c (60-i) i) (fun i=>[(1, .pointer (some ⟨b1,0,none⟩)),(2, .pointer (some ⟨b2,0,none⟩)),(3, .pointer (some ⟨b3,0,none⟩)),(4, .int .i64 (i:Nat))]) (fun i=>[⟨b3,Zk (Q (stp i)),33⟩,⟨b2,Zd (Ze Z9),35⟩,⟨b1,rI c,37⟩]) (fun i=>60-i) 0 ⟨Wm _,hF⟩ sbB slB (fun i hi=>?_)
  clear hF e
  obtain⟨hi,he⟩:=hi
  have hM:=Zo7 hi
  have q3:M c.From.P<=268435456/\M (stp i)<=268435456:=⟨Wi hp.a.p (by decide),by omega⟩
  have q4:RlB B28 (shR c.From (stp i))/\RlB B28 c.To:=⟨(ZoR (hp.a.mono (show 3<=8 by decide)) hM).mono (by decide),hp.b.mono (by decide)⟩
  have q5:M (stp i)<=268435456/\M (Rat.divInt 1 2)<=268435456:=⟨by omega,by decide⟩
  repeat(refine wkB ?_;intros)
  refine Zi rfl (fun h=>?_) (fun h=>?_)
  ·have hlt:i<60:=by have:=Wa h;omega
   rw[show 60-i=(60-(i+1))+1 by omega,midF] at he
   repeat(first|(refine wkB ?_;intros)|(refine wnM ?_ ?_;(focus(first|exact q3|exact q4));intros))
   by_cases c1:cl (shR c.From (stp i)) c.To<0
   ·rw[if_pos c1] at he
    rw[he]
    simp only[Wc c1]
    repeat(refine wkB ?_;intros)
    exact rtC rfl rfl
   ·rw[if_neg c1] at he
    simp only[We c1]
    repeat(refine wkB ?_;intros)
    (refine ZE (.v [1] (.e1 0 (.v [2] (.e1 3 (.fin))))) (([]:List Blk)) (h:=?_);refine wkX ?_)
    (repeat(first|refine wkH ?_|(refine tC rfl rfl ?_ ?_;focus(first|exact q2|exact q5))))
    repeat(first|(refine wkT ?_;intros)|(refine tC rfl rfl ?_ ?_;focus(first|exact q2|exact q5))|(refine uC rfl rfl ?_ ?_;focus(first|exact q2|exact q5))|(refine eN rfl rfl ?_ ?_;(focus(first|exact q2|exact q5));intro _;(try simp only[Wf,Wg,Wh])))
    all_goals rw[Zn4]
    all_goals repeat(first|(refine wkB ?_;intros)|(refine wnM ?_ ?_;(focus(exact⟨by omega,by omega⟩));intros))
    all_goals exact Zf (i+1) ⟨hlt,he⟩ sbB slB (by omega)
  ·have hge:i=60:=by have:=Wb h;omega
   subst hge
   rw[show 60-60=0 from rfl,midF] at he
   rw[he]
   repeat(refine wkB ?_;intros)
   exact rtC rfl rfl⟩
end
section
def Dsc (x:Rl):Prop:=∃w:WI,x=insT w
theorem Zno :((List.range 12).all fun e=>(List.range 3).all fun f=>match rtQ (Rat.divInt (e:Int) (1+(f:Int))) with|some q=>decide (q=0)||(decide (q=1)||(decide (q=2)||decide (q=3)))|none=>true)=true:=by decide+kernel
theorem ZqO {w:WI}{q:Rat}(h:rtQ (inR w)=some q):∃z:Int,q=(z:Rat)/\0<=z/\z<=3:=by
 have h1:=Zno
 rw[List.all_eq_true] at h1
 have h2:=h1 (w.R % 12).toNat (List.mem_range.2 (by omega))
 rw[List.all_eq_true] at h2
 have h3:=h2 (w.E % 3).toNat (List.mem_range.2 (by omega))
 rw[show(((w.R % 12).toNat:Nat):Int)=w.R % 12 by omega,show(((w.E % 3).toNat:Nat):Int)=w.E % 3 by omega] at h3
 unfold inR at h
 rw[h] at h3
 simp only[Bool.or_eq_true,decide_eq_true_eq] at h3
 rcases h3 with rfl|rfl|rfl|rfl
 ·exact⟨0,rfl,by decide,by decide⟩
 ·exact⟨1,rfl,by decide,by decide⟩
 ·exact⟨2,rfl,by decide,by decide⟩
 ·exact⟨3,rfl,by decide,by decide⟩
theorem div12 {a d:Int}(hd:1<=d/\d<=4):∃z:Int,Rat.divInt a d=(z:Rat) / 12:=by
 rcases(by omega:d=1\/d=2\/d=3\/d=4) with rfl|rfl|rfl|rfl
 ·exact⟨12*a,by rw[Rat.divInt_eq_div];push_cast;grind⟩
 ·exact⟨6*a,by rw[Rat.divInt_eq_div];push_cast;grind⟩
 ·exact⟨4*a,by rw[Rat.divInt_eq_div];push_cast;grind⟩
 ·exact⟨3*a,by rw[Rat.divInt_eq_div];push_cast;grind⟩
theorem div6 {a d:Int}(hd:1<=d/\d<=3):∃z:Int,Rat.divInt a d=(z:Rat) / 6:=by
 rcases(by omega:d=1\/d=2\/d=3) with rfl|rfl|rfl
 ·exact⟨6*a,by rw[Rat.divInt_eq_div];push_cast;grind⟩
 ·exact⟨3*a,by rw[Rat.divInt_eq_div];push_cast;grind⟩
 ·exact⟨2*a,by rw[Rat.divInt_eq_div];push_cast;grind⟩
theorem ZmT {a d b:Int}(hd:1<=d)(h0:0<=a)(h:a<=b):0<=Rat.divInt a d/\Rat.divInt a d<=(b:Rat):=by
 rw[Rat.divInt_eq_div]
 have h1:((1:Int):Rat)<=(d:Rat):=Rat.intCast_le_intCast.2 hd
 have h2:((0:Int):Rat)<=(a:Rat):=Rat.intCast_le_intCast.2 h0
 have h3:(a:Rat)<=(b:Rat):=Rat.intCast_le_intCast.2 h
 have e1:((1:Int):Rat)=1:=rfl
 have e0:((0:Int):Rat)=0:=rfl
 rw[e1] at h1
 rw[e0] at h2
 generalize (d:Rat)=D at*
 generalize (a:Rat)=A at*
 generalize (b:Rat)=B at*
 have h4:A / D*D=A:=by grind
 generalize A / D=X at*
 constructor
 ·by_cases c:0<=X
  ·exact c
  ·have:=Zbm (show X<0 by grind) (show 0<D by grind)
   grind
 ·by_cases c:X<=B
  ·exact c
  ·have h5:=ZaI (show B<=X by grind) (show 0<=D by grind)
   have h6:=Rat.mul_nonneg (show 0<=B by grind) (show 0<=D-1 by grind)
   have h7:=Zbm (show B<X by grind) (show 0<D by grind)
   grind
theorem ZhQ {x:Rl}(h:Dsc x):RB (rvR x):=by
 obtain⟨w,rfl⟩:=h
 have hok:(rvR (insT w)).ok:=Zlb (ZlO w)
 have hP:=div12 (a:=w.P % 64) (d:=1+w.D % 4) (by omega)
 have hR:=div6 (a:=w.R % 12) (d:=1+w.E % 3) (by omega)
 have hPl:=ZmT (a:=w.P % 64) (d:=1+w.D % 4) (b:=63) (by omega) (by omega) (by omega)
 have hRl:=ZmT (a:=w.R % 12) (d:=1+w.E % 3) (b:=12) (by omega) (by omega) (by omega)
 have e63:((63:Int):Rat)=63:=rfl
 have e12:((12:Int):Rat)=12:=rfl
 rw[e63] at hPl
 rw[e12] at hRl
 have ez:((0:Int):Rat)=0:=rfl
 have h0:∃z:Int,(0:Rat)=(z:Rat) / 6:=⟨0,by rw[ez];grind⟩
 have hx:(∃z:Int,(insT w).P=(z:Rat) / 12)/\(∃z:Int,(insT w).R=(z:Rat) / 6)/\0<=(insT w).P+4/\(insT w).P<=68/\(insT w).R<=12:=by
  unfold insT ofR
  cases hq:rtQ (inR w) with
  |none=>
   refine⟨hP,hR, ?_, ?_,hRl.2⟩
   ·show 0<=Rat.divInt (w.P % 64) (1+w.D % 4)+4;grind
   ·show Rat.divInt (w.P % 64) (1+w.D % 4)<=68;grind
  |some q=>
   obtain⟨z,rfl,z1,z2⟩:=ZqO hq
   obtain⟨p,hp⟩:=hP
   have b1:((0:Int):Rat)<=(z:Rat):=Rat.intCast_le_intCast.2 z1
   have b2:(z:Rat)<=((3:Int):Rat):=Rat.intCast_le_intCast.2 z2
   have e0:((0:Int):Rat)=0:=rfl
   have e3:((3:Int):Rat)=3:=rfl
   rw[e0] at b1
   rw[e3] at b2
   have hi:inP w=Rat.divInt (w.P % 64) (1+w.D % 4):=rfl
   rw[<-hi] at hPl hp
   dsimp only
   refine⟨?_,h0, ?_, ?_,by grind⟩
   ·split
    ·exact⟨p-12*z,by rw[hp];push_cast;grind⟩
    ·exact⟨p+12*z,by rw[hp];push_cast;grind⟩
   ·split <;> grind
   ·split <;> grind
 exact⟨hok,hx.1,hx.2.1,hx.2.2.1,hx.2.2.2.1,hx.2.2.2.2⟩
theorem Zg8 {x y:Rl}(hx:(rvR x).ok)(hy:(rvR y).ok):ri x<ri y↔(rvR x).lt (rvR y):=by
 unfold ri
 rw[dif_pos hx,dif_pos hy]
 exact Iff.rfl
theorem ZpN {x y:Rl}(hx:Dsc x)(hy:Dsc y)(h:ri x<ri y){e:Rat}(he0:0<e)(he:e<=1 / 1000000000000):ri (shR x e)<ri y:=by
 have a:=ZhQ hx
 have b:=ZhQ hy
 have hd:∃z:Int,(rvR y).p-(rvR x).p=(z:Rat) / 12:=by
  obtain⟨z1,h1⟩:=a.p
  obtain⟨z2,h2⟩:=b.p
  exact⟨z2-z1,by rw[h1,h2];push_cast;grind⟩
 exact(Zg8 (x:=shR x e) (RV.sh_ok a.o e) b.o).2 (Zr3 a b hd ((Zg8 a.o b.o).1 h) he0 he)
theorem Ztp {x:Rl}(hx:(rvR x).ok){e:Rat}(he:0<e):ri x<ri (shR x e):=by
 refine(Zg8 (y:=shR x e) hx (RV.sh_ok hx e)).2 ?_
 show(rvR x).lt ((rvR x).sh e)
 obtain⟨α,δ,A,hd⟩:=Zhh hx.k.nn (show 0<e / 2 by grind)
 exact⟨(rvR x).p+sgn (rvR x).n*α+δ,Zo9 hx.k A (by grind),ZoI (x:=(rvR x).sh e) hx.k A (by show _<=(rvR x).p+e+sgn (rvR x).n*α-δ;grind)⟩
theorem ZhH (c:Za):∀n i,(∃j,i<=j/\j<i+n/\cl (shR c.From (stp j)) c.To<0)->∃j,midF c n i=shR c.From (stp j)/\cl (shR c.From (stp j)) c.To<0
 |0,i,⟨j,h1,h2,_⟩=>by omega
 |n+1,i,⟨j,h1,h2,h3⟩=>by
  rw[midF]
  split
  ·rename_i h;exact⟨i,rfl,h⟩
  ·rename_i h
   refine ZhH c n (i+1) ⟨j, ?_,by omega,h3⟩
   rcases(by omega:j=i\/i+1<=j) with rfl|h4
   ·exact(h h3).elim
   ·exact h4
theorem ZjY {c:Za}(h1:Dsc c.From)(h2:Dsc c.To):(c.From=c.To->midR c=c.From)/\(ri c.From<ri c.To->ri c.From<ri (midR c)/\ri (midR c)<ri c.To):=by
 refine⟨fun h=>by unfold midR;rw[if_pos h],fun h=>?_⟩
 have hne:c.From≠c.To:=fun e=>by rw[e] at h;grind
 unfold midR
 rw[if_neg hne]
 obtain⟨j,e,hj⟩:=ZhH c 60 0 ⟨40,Wm _,by decide,Zac.2 (ZpN h1 h2 h (Zi8 40) ZrX)⟩
 rw[e]
 exact⟨Ztp (ZhQ h1).o (Zi8 j),Zac.1 hj⟩
theorem Zp1 {c:Za}(h1:IvOk 3 c):RlB 17 (midR c):=by
 have hF:∀n i,i+n<=60->RlB 17 (midF c n i):=fun n=>by
  induction n with
  |zero=>exact fun i _=>h1.a.mono (by decide)
  |succ n ih=>
   intro i hi
   rw[midF]
   split
   ·exact(ZoR (h1.a.mono (show 3<=8 by decide)) (Zo7 (by omega)))
   ·exact ih (i+1) (by omega)
 unfold midR
 split
 ·exact h1.a.mono (by decide)
 ·exact hF 60 0 (Wl _)
end
section
def cmL (xs:List Int):Nat->List Int
 |0=>[]
 |j+1=>if 0<j/\gi xs (j:Int)=gi xs ((j-1:Nat):Int) then cmL xs j else cmL xs j++[gi xs (j:Int)]
def cmI' (xs:List Int):List Int:=cmL xs xs.length
theorem ZjD (xs:List Int):∀j,0<j->cmL xs j≠[]
 |0,h=>absurd h (Nat.lt_irrefl _)
 |j+1,_=>by
  rw[cmL]
  split
  ·rename_i h;exact ZjD xs j h.1
  ·simp
theorem Zqw {xs:List Int}{z:Int}:∀j,j<=xs.length->(z∈cmL xs j↔z∈xs.take j)
 |0,_=>by simp[cmL]
 |j+1,h=>by
  have ih:=Zqw (xs:=xs) (z:=z) j (by omega)
  have ht:xs.take (j+1)=xs.take j++[gi xs (j:Int)]:=by rw[Wn h,Zr h]
  rw[cmL,ht]
  split
  ·rename_i hc
   rw[ih,Wv]
   constructor
   ·exact .inl
   ·rintro(h1|h1)
    ·exact h1
    ·rw[Wo] at h1
     rw[h1,hc.2,Zr (by omega)]
     exact List.mem_take_iff_getElem.2 ⟨j-1,by omega,rfl⟩
  ·rw[Wv,Wv,ih]
structure CmQ (xs:List Int)(k i:Nat)(ys:List Int):Prop where
 ki:k<i
 k0:0<k
 im:i<=xs.length
 len:ys.length=xs.length
 tk:ys.take k=cmL xs i
 eq:∀j:Nat,i-1<=j->j<xs.length->gi ys (j:Int)=gi xs (j:Int)
theorem CmQ.skip {xs ys:List Int}{k i:Nat}(h:CmQ xs k i ys)(hi:i<xs.length)(he:gi xs (i:Int)=gi xs ((i-1:Nat):Int)):CmQ xs k (i+1) ys:=
 ⟨by have:=h.ki;omega,h.k0,hi,h.len,by rw[cmL,if_pos ⟨by have:=h.ki;omega,he⟩];exact h.tk,fun j h1 h2=>h.eq j (by omega) h2⟩
theorem CmQ.keep {xs ys:List Int}{k i:Nat}(h:CmQ xs k i ys)(hi:i<xs.length)(he:gi xs (i:Int)≠gi xs ((i-1:Nat):Int)):CmQ xs (k+1) (i+1) (ys.set k (gi xs (i:Int))):=by
 have hk:=h.ki
 have hl:=h.len
 refine⟨by omega,by omega,hi,by rw[List.length_set];exact hl, ?_,fun j h1 h2=>?_⟩
 ·rw[cmL,if_neg (fun hc=>he hc.2),<-h.tk,Wn (by rw[List.length_set];omega),List.take_set_of_le (Wl k)]
  simp
 ·rw[Zr (by rw[List.length_set];omega),List.getElem_set_ne (by omega),<-Zr (by omega)]
  exact h.eq j (by omega) h2
theorem Zeo {xs:List Int}:∀{m:Nat},m<=xs.length->(∀j:Nat,0<j->j<m->gi xs (j:Int)≠gi xs ((j-1:Nat):Int))->cmL xs m=xs.take m
 |0,_,_=>rfl
 |m+1,hm,h=>by
  rw[cmL,if_neg (fun hc=>h m hc.1 (Nat.lt_succ_self m) hc.2),Zeo (by omega) (fun j h1 h2=>h j h1 (by omega)),Wn hm,Zr hm]
theorem CmQ.start {xs:List Int}{k:Nat}(hk:0<k)(hm:k<xs.length)(he:gi xs (k:Int)=gi xs ((k-1:Nat):Int))(h:∀j:Nat,0<j->j<k->gi xs (j:Int)≠gi xs ((j-1:Nat):Int)):CmQ xs k (k+1) xs:=
 ⟨Nat.lt_succ_self _,hk,hm,rfl,by rw[cmL,if_pos ⟨hk,he⟩,Zeo (Nat.le_of_lt hm) h],fun _ _ _=>rfl⟩
set_option maxHeartbeats 8000000 in
theorem ZgB (w0 w:World)(L L1:List Blk)(xs:List Int)(s:SlS (eI .i64) 1 xs)[hd:OwnS 3 s L L1](hl:xs.length<=1048576)(hw:Own w0 L w):
  Calls prog 85 [vSl s].toArray w (RetX w0 (SlS (eI .i64) 1 (cmI' xs)) (fun s=>vSl s) (fun s=>mS 3 s++L1)):=by
 have hw1:=hw.perm hd.out
 refine Zai Tryz.func85 rfl Tryz.ntmps85 rfl hw1 ?_
 repeat(refine wkB ?_;intros)
 by_cases h2:xs.length<2
 ·simp only[Wc (show(xs.length:Int)<2 by omega)]
  have e:cmI' xs=xs:=by
   unfold cmI'
   rw[Zeo (Wl _) (fun j h1 h3=>by omega),List.take_length]
  obtain⟨s',e1,e2⟩:=SlS.turn 3 e.symm s
  repeat(refine wkB ?_;intros)
  exact ZA rfl rfl (fun w hw=>⟨s',by show Ending.returned (vSl s)=Ending.returned (vSl s');rw[e1],by show Own w0 (mS _ s'++L1) w;rw[e2];exact hw⟩)
 simp only[We (show¬(xs.length:Int)<2 by omega)]
 rcases s.cases 3 with⟨x0, -, -⟩|⟨bs,c,sp,h1,hv,hmS,hne⟩
 ·rw[x0] at h2
  simp at h2
 simp only[hv,hmS,Wf,Wg]
 repeat(refine wkB ?_;intros)
 refine Zp (S:=Nat) (fun m=>m+1<=xs.length/\∀j:Nat,0<j->j<m+1->gi xs (j:Int)≠gi xs ((j-1:Nat):Int)) (fun m=>[(0, .slice (some ⟨bs,0,none⟩) xs.length c),(3, .int .i64 ((m+1:Nat)))]) (fun _=>⟨bs,row (eI .i64) xs sp,3⟩::L1) (fun m=>xs.length-m) 0 ⟨by omega,fun j h1 h2=>by omega⟩ sbB slB (fun m hm=>?_)
 obtain⟨hm,hall⟩:=hm
 repeat(refine wkB ?_;intros)
 refine Zi rfl (fun h=>?_) (fun h=>?_)
 ·have hlt:m+1<xs.length:=by have:=Wa h;omega
  have e1:((m+1:Nat):Int)-1=(m:Int):=by omega
  repeat(refine wkB ?_;intros)
  refine jD 10 10 (h:=?_)
  (repeat(refine wkH ?_))
  simp only[e1]
  (repeat(refine wkH ?_))
  refine Zo ?_
  refine Zq ?_
  by_cases hq:gi xs ((m+1:Nat):Int)=gi xs (m:Int)
  ·simp only[Wc hq]
   have hst:=CmQ.start (k:=m+1) (Nat.succ_pos m) hlt hq hall
   repeat(first|(refine wkB ?_;intros)|(refine wnM ?_ ?_;(focus(exact⟨by omega,by omega⟩));intros))
   refine Zp (S:=Nat×Nat×List Int) (fun q=>CmQ xs q.1 q.2.1 q.2.2/\m+1<q.2.1) (fun q=>[(0, .slice (some ⟨bs,0,none⟩) xs.length c),(3, .int .i64 (q.1:Nat)),(4, .slice (some ⟨bs,(m+1)*1,none⟩) (xs.length-(m+1)) (c-(m+1))),(5, .int .i64 ((q.2.1-(m+1):Nat)))]) (fun q=>⟨bs,row (eI .i64) q.2.2 sp,3⟩::L1) (fun q=>xs.length-q.2.1) (m+1,m+2,xs) ⟨hst,Nat.lt_succ_self _⟩ (by rw[show m+2-(m+1)=1 by omega];exact sbB) slB (fun q hq2=>?_)
   obtain⟨k,i,ys⟩:=q
   obtain⟨hq2,hmi⟩:=hq2
   have hki:=hq2.ki
   have him:=hq2.im
   have hyl:=hq2.len
   have hk0:=hq2.k0
   simp only at hq2 hki him hyl hk0 hmi⊢
   obtain⟨d,rfl⟩:∃d,i=m+1+(d+1):=⟨i-(m+1)-1,by omega⟩
   rw[show m+1+(d+1)-(m+1)=d+1 by omega]
   repeat(refine wkB ?_;intros)
   refine Zi rfl (fun h3=>?_) (fun h3=>?_)
   ·have hlt3:m+1+(d+1)<xs.length:=by have:=Wa h3;omega
    have e4:((d+1:Nat):Int)-1=(d:Int):=by omega
    have g1:=hq2.eq (m+1+(d+1)) (by omega) hlt3
    have g2:=hq2.eq (m+1+d) (by omega) (by omega)
    have e5:(m+1)*1+((d+1:Nat):Int).toNat*1=0+((m+1+(d+1):Nat):Int).toNat*1:=by omega
    have e6:(m+1)*1+((d:Nat):Int).toNat*1=0+((m+1+d:Nat):Int).toNat*1:=by omega
    repeat(refine wkB ?_;intros)
    refine jD 10 10 (h:=?_)
    (repeat(refine wkH ?_))
    simp only[e5]
    (repeat(refine wkH ?_))
    simp only[e4]
    (repeat(refine wkH ?_))
    simp only[e6]
    (repeat(refine wkH ?_))
    refine Zo ?_
    refine Zq ?_
    rw[g1,g2]
    have e7:((m+1+(d+1)-1:Nat):Int)=((m+1+d:Nat):Int):=by omega
    by_cases hq3:gi xs ((m+1+(d+1):Nat):Int)=gi xs ((m+1+d:Nat):Int)
    ·simp only[Wc hq3,Bool.not_true]
     repeat(first|(refine wkB ?_;intros)|(refine wnM ?_ ?_;(focus(exact⟨by omega,by omega⟩));intros))
     exact Zf (k,m+1+(d+1)+1,ys) ⟨hq2.skip hlt3 (by rw[e7];exact hq3),by simp only;omega⟩ (by simp only;rw[show m+1+(d+1)+1-(m+1)=d+1+1 by omega];exact sbB) slB (by show xs.length-(m+1+(d+1)+1)<xs.length-(m+1+(d+1));omega)
    ·simp only[We hq3,Bool.not_false]
     repeat(refine wkB ?_;intros)
     simp only[e5]
     repeat(first|(refine wkB ?_;intros)|(refine wnM ?_ ?_;(focus(exact⟨by omega,by omega⟩));intros))
     rw[g1]
     have hkk:=hq2.keep hlt3 (by rw[e7];exact hq3)
     exact Zf (k+1,m+1+(d+1)+1,ys.set k (gi xs ((m+1+(d+1):Nat):Int))) ⟨hkk,by simp only;omega⟩ (by simp only;rw[show m+1+(d+1)+1-(m+1)=d+1+1 by omega];exact sbB) slB (by show xs.length-(m+1+(d+1)+1)<xs.length-(m+1+(d+1));omega)
   ·have hge:m+1+(d+1)=xs.length:=by have:=Wb h3;omega
    have htk:ys.take k=cmI' xs:=by rw[hq2.tk,hge];rfl
    have hfl:(cmI' xs).length=k:=by rw[<-htk,Wt];omega
    repeat(first|(refine wkB ?_;intros)|(refine wnM ?_ ?_;(focus(exact⟨by omega,by omega,by omega⟩));intros))
    refine sClr (enc:=eI .i64) (k:=1) (i:=k) (ys:=ys) (z:= .int .i64 0) (zc:=#[.int .i64 0]) (hz:=⟨by kernel_rfl,rfl⟩) rfl (by omega) (by omega) rfl (EncC.one (enc:=eI .i64) (0:Int)) (fun zs hzs=>?_)
    repeat(first|(refine wkB ?_;intros)|(refine wnM ?_ ?_;(focus(exact⟨by omega,by omega,by omega⟩));intros))
    refine ZA rfl rfl (fun w hw=>⟨SlS.at_ bs c (zs++sp) ?_ ?_, ?_, ?_⟩)
    ·rw[hfl]
     refine⟨by omega, ?_⟩
     rw[Wp,hzs,h1.2]
     omega
    ·exact ZjD xs xs.length (by omega)
    ·show Ending.returned _=Ending.returned (.slice (some ⟨bs,0,none⟩) (cmI' xs).length c)
     rw[hfl]
    ·show Own w0 (⟨bs,row (eI .i64) (cmI' xs) (zs++sp),_⟩::L1) w
     rw[<-htk]
     exact hw
  ·simp only[We hq]
   repeat(first|(refine wkB ?_;intros)|(refine wnM ?_ ?_;(focus(exact⟨by omega,by omega⟩));intros))
   exact Zf (m+1) ⟨by omega,fun j h1 h2=>by
    by_cases e:j=m+1
    ·subst e;exact hq
    ·exact hall j h1 (by omega)⟩ sbB slB (by omega)
 ·have hge:m+1=xs.length:=by have:=Wb h;omega
  have e:cmI' xs=xs:=by
   unfold cmI'
   rw[Zeo (Wl _) (fun j h1 h3=>hall j h1 (by omega)),List.take_length]
  obtain⟨s',e1,e2⟩:=SlS.turn 3 e.symm s
  repeat(refine wkB ?_;intros)
  exact ZA rfl rfl (fun w hw=>⟨s',by show Ending.returned _=Ending.returned (vSl s');rw[e1,hv],by show Own w0 (mS _ s'++L1) w;rw[e2,hmS];exact hw⟩)
end
section
instance (priority :=high) ZzX {P:Program}{w0:World}{n:Nat}{L:List Blk}{E:Env}{T T0:TypeId}{x:Operand}{b:Nat}{i:Int}{a1 a2:Sl}[IsC (evl E x) (.pointer (some ⟨b,0+i.toNat*1,none⟩))][h:AtC w0 L b (row eSlc [a1,a2] []) T0][hv:LdC P T (eSlc (gi [a1,a2] i)) 0 (.slice (gi [a1,a2] i).a (gi [a1,a2] i).len (gi [a1,a2] i).cap)]:YsC P w0 n L E (.load T x) (.slice (gi [a1,a2] i).a (gi [a1,a2] i).len (gi [a1,a2] i).cap) (0<=i/\i<2):=⟨fun hi=>Zj4.out (by show i.toNat<2;omega)⟩
theorem Zqk (x y:Ev):∀w:World,(Instr.buildSlice 213 2 [(0,vEv x),(1,vEv y)].toArray).run prog w= .ok (.slice (some ⟨w.heap.size,0,none⟩) 2 2) (w.alloc (.cells (row eEv [x,y] []) 216)):=fun w=>by kernel_rfl
instance Zz8 (x y:Ev):BsC prog 213 2 [(0,vEv x),(1,vEv y)] (row eEv [x,y] []) 216:=⟨Zqk x y⟩
instance (priority :=high) ZAr {P:Program}{w0:World}{n:Nat}{L:List Blk}{E:Env}{T T0:TypeId}{x:Operand}{b:Nat}{i a1 a2:Int}[IsC (evl E x) (.pointer (some ⟨b,0+i.toNat*1,none⟩))][h:AtC w0 L b (row (eI .i64) [a1,a2] []) T0][hv:LdC P T (eI .i64 (gi [a1,a2] i)) 0 (.int .i64 (gi [a1,a2] i))]:YsC P w0 n L E (.load T x) (.int .i64 (gi [a1,a2] i)) (0<=i/\i<2):=⟨fun hi=>Zj4.out (by show i.toNat<2;omega)⟩
instance Zy9 (x:Ev):LdC prog 3 (eEv x) (10+Int.toNat 0*1) (.int .i64 x.n0):=⟨ZD⟩
instance Zzj (x:Ev):LdC prog 3 (eEv x) (10+Int.toNat 1*1) (.int .i64 x.n1):=⟨ZD⟩
set_option maxHeartbeats 4000000 in
theorem ZkT (kf:FuncId)(kp:Bool->Bool->Bool)[CallC prog kf](hkp:∀a b,SpecC prog kf [.bool a, .bool b] (.bool (kp a b)) True)(v1 v2:Value)(is js:List Za)(w:World)(hv1:ArgS w v1 rI is)(hv2:ArgS w v2 rI js)(hl:2*is.length+2*js.length<=65536)(hk0:kp false false=false)(ho1:∀i∈is,BdOk (bdF i)/\BdOk (bdL i))(ho2:∀i∈js,BdOk (bdF i)/\BdOk (bdL i)):
  Calls prog 138 [v1,v2,vFn kf].toArray w (RetM (SlS rI 20 (swpR kp is js)) (fun s=>vSl s) (fun s=>mS 37 s) w):=by
 refine Zb Tryz.func138 rfl Tryz.ntmps138 rfl ?_
 obtain⟨p1,c1,rfl⟩:=hv1.form
 obtain⟨p2,c2,rfl⟩:=hv2.form
 repeat(refine wkB ?_;intros)
 rename_i b23
 refine Zp (S:=(ys:List Ev)×Nat×SlS eEv 12 ys) (fun s=>s.1=evK is js s.2.1/\s.2.1<=2) (fun s=>[(2,vFn kf),(7,vSl s.2.2),(23, .slice (some ⟨b23,0,none⟩) 2 2),(24, .int .i64 2),(25, .int .i64 (s.2.1:Nat))])
  (fun s=>mS 216 s.2.2++[⟨b23,row eSlc [⟨p1,is.length,c1⟩,⟨p2,js.length,c2⟩] [],47⟩]) (fun s=>2-s.2.1) ⟨[],0,SlS.no⟩ ⟨rfl,Wm _⟩ sbB slB (fun s hs=>?_)
 obtain⟨ys,k,s⟩:=s
 obtain⟨hys,hk⟩:=hs
 simp only at hys hk s⊢
 have hz:prog.info? 0=prog.info? 0:=rfl
 repeat(refine wkB ?_;intros)
 rcases(by omega:k=0\/k=1\/k=2) with h0|h0|h0
 ·subst h0
  simp only[Wc (show((0:Nat):Int)<2 by omega)]
  repeat(refine wkB ?_;intros)
  simp only[show gi [(⟨p1,is.length,c1⟩:Sl),⟨p2,js.length,c2⟩] ((0:Nat):Int)=⟨p1,is.length,c1⟩ from rfl]
  repeat(refine wkB ?_;intros)
  refine Zp (S:=(zs:List Ev)×Nat×SlS eEv 12 zs) (fun r=>r.1=evA is r.2.1/\r.2.1<=is.length) (fun r=>[(2,vFn kf),(7,vSl r.2.2),(8, .int .i64 0),(23, .slice (some ⟨b23,0,none⟩) 2 2),(24, .int .i64 2),(25, .int .i64 0),(30, .slice p1 is.length c1),(31, .int .i64 is.length),(32, .int .i64 (r.2.1:Nat))])
   (fun r=>mS 216 r.2.2++[⟨b23,row eSlc [⟨p1,is.length,c1⟩,⟨p2,js.length,c2⟩] [],47⟩]) (fun r=>is.length-r.2.1) ⟨ys,0,s⟩ ⟨hys,Wm _⟩ sbB slB (fun r hr=>?_)
  obtain⟨zs,m,r⟩:=r
  obtain⟨hzs,hm⟩:=hr
  simp only at hzs hm r⊢
  repeat(refine wkB ?_;intros)
  refine Zi rfl (fun h=>?_) (fun h=>?_)
  ·have hlt:m<is.length:=by have:=Wa h;omega
   have hne:is≠[]:=fun h0=>by rw[h0] at hlt;simp at hlt
   obtain⟨bw,ow,cw,hvw,hcw,hrow⟩:=hv1.blk (k:=19) hne []
   injection hvw with e1 e2 e3
   subst e1
   subst e3
   have hrow':∀L,RowC w L bw ow Za rI is:=fun L=>⟨fun w' hw'=>hrow.out w' (hw'.sub (Wk _))⟩
   have hel:=Zew is m
   repeat(refine wkB ?_;intros)
   rename_i b11
   obtain⟨iv,hiv⟩:∃iv,iv=gi is (m:Int):=⟨_,rfl⟩
   simp only[<-hiv]
   (refine Zca [0,1,2,3,4,5] [6,7] [8,9] ([⟨b11,Zj (Zl iv),37⟩]) (h:=?_);refine wkI ?_)
   (repeat(refine wkH ?_))
   repeat(refine wkT ?_;intros)
   repeat(refine wkB ?_;intros)
   refine sU rfl rfl ?_ ?_ ?_ ?_
   ·rfl
   ·rfl
   ·exact⟨by decide,by rw[hzs];omega,by rw[hzs];omega⟩
   intro r'
   repeat(first|(refine wkB ?_;intros)|(refine wnM ?_ ?_;(focus(exact⟨by omega,by omega⟩));intros))
   exact Zf ⟨_,m+1,r'⟩ ⟨by show zs++_=evA is m++_;rw[hzs,hiv],hlt⟩ sbB suB (by show is.length-(m+1)<is.length-m;omega)
  ·have hge:m=is.length:=by have:=Wb h;omega
   subst hge
   repeat(refine wkB ?_;intros)
   exact Zf ⟨zs,1,r⟩ ⟨hzs,Nat.le_of_ble_eq_true rfl⟩ sbB suB (by show 2-1<2-0;decide)
 ·subst h0
  simp only[Wc (show((1:Nat):Int)<2 by omega)]
  repeat(refine wkB ?_;intros)
  simp only[show gi [(⟨p1,is.length,c1⟩:Sl),⟨p2,js.length,c2⟩] ((1:Nat):Int)=⟨p2,js.length,c2⟩ from rfl]
  repeat(refine wkB ?_;intros)
  refine Zp (S:=(zs:List Ev)×Nat×SlS eEv 12 zs) (fun r=>r.1=evA is is.length++evB js r.2.1/\r.2.1<=js.length) (fun r=>[(2,vFn kf),(7,vSl r.2.2),(8, .int .i64 1),(23, .slice (some ⟨b23,0,none⟩) 2 2),(24, .int .i64 2),(25, .int .i64 1),(30, .slice p2 js.length c2),(31, .int .i64 js.length),(32, .int .i64 (r.2.1:Nat))])
   (fun r=>mS 216 r.2.2++[⟨b23,row eSlc [⟨p1,is.length,c1⟩,⟨p2,js.length,c2⟩] [],47⟩]) (fun r=>js.length-r.2.1) ⟨ys,0,s⟩ ⟨by rw[evB,Wh];exact hys,Wm _⟩ sbB slB (fun r hr=>?_)
  obtain⟨zs,m,r⟩:=r
  obtain⟨hzs,hm⟩:=hr
  simp only at hzs hm r⊢
  repeat(refine wkB ?_;intros)
  refine Zi rfl (fun h=>?_) (fun h=>?_)
  ·have hlt:m<js.length:=by have:=Wa h;omega
   have hne:js≠[]:=fun h0=>by rw[h0] at hlt;simp at hlt
   obtain⟨bw,ow,cw,hvw,hcw,hrow⟩:=hv2.blk (k:=19) hne []
   injection hvw with e1 e2 e3
   subst e1
   subst e3
   have hrow':∀L,RowC w L bw ow Za rI js:=fun L=>⟨fun w' hw'=>hrow.out w' (hw'.sub (Wk _))⟩
   have hel:=ZfT js m
   have hel2:=Zew is is.length
   repeat(refine wkB ?_;intros)
   rename_i b11
   obtain⟨iv,hiv⟩:∃iv,iv=gi js (m:Int):=⟨_,rfl⟩
   simp only[<-hiv]
   (refine Zca [0,1,2,3,4,5] [6,7] [8,9] ([⟨b11,Zj (Zl iv),37⟩]) (h:=?_);refine wkI ?_)
   (repeat(refine wkH ?_))
   repeat(refine wkT ?_;intros)
   repeat(refine wkB ?_;intros)
   refine sU rfl rfl ?_ ?_ ?_ ?_
   ·rfl
   ·rfl
   ·exact⟨by decide,by rw[hzs,Wp];omega,by rw[hzs,Wp];omega⟩
   intro r'
   repeat(first|(refine wkB ?_;intros)|(refine wnM ?_ ?_;(focus(exact⟨by omega,by omega⟩));intros))
   exact Zf ⟨_,m+1,r'⟩ ⟨by show zs++_=evA is is.length++(evB js m++_);rw[hzs,hiv,List.append_assoc],hlt⟩ sbB suB (by show js.length-(m+1)<js.length-m;omega)
  ·have hge:m=js.length:=by have:=Wb h;omega
   subst hge
   repeat(refine wkB ?_;intros)
   exact Zf ⟨zs,2,r⟩ ⟨hzs,Nat.le_of_ble_eq_true rfl⟩ sbB suB (by show 2-2<2-1;decide)
 ·subst h0
  simp only[We (show¬((2:Nat):Int)<2 by omega)]
  have hlen2:ys.length<=65536:=by
   rw[hys]
   show(evA is is.length++evB js js.length).length<=65536
   rw[Wp,Zew,ZfT]
   exact hl
  have hbd:∀u∈ys,BdOk u.b:=by
   rw[hys]
   intro u hu
   rcases List.mem_append.1 (show u∈evA is is.length++evB js js.length from hu) with h1|h1
   ·exact Zll ho1 _ (Wl _) u h1
   ·exact ZlX ho2 _ (Wl _) u h1
  repeat(refine wkB ?_;intros)
  refine sZ rfl rfl ?_ ?_
  ·exact⟨by omega,hbd⟩
  intro s'
  obtain⟨⟨es,hso⟩,s3,hv3⟩:=s'
  dsimp only
  dsimp only at s3 hv3
  repeat(refine wkB ?_;intros)
  rename_i b15 b16
  have hzl:ys.length=es.length:=hso.p.length_eq.symm
  have hzb:∀u∈es,BdOk u.b:=fun u hu=>hbd u (hso.p.mem_iff.1 hu)
  have hz1:∀u∈es,Ev1 u:=fun u hu=>by
   have h2:=hso.p.mem_iff.1 hu
   rw[hys] at h2
   rcases List.mem_append.1 (show u∈evA is is.length++evB js js.length from h2) with h3|h3
   ·exact ZoN _ _ u h3
   ·exact ZoU _ _ u h3
  simp only[<-hv3,hzl]
  refine Zp (S:=(q:SwS)×Nat×SlS rI 20 q.out) (fun r=>r.1=sws kp es r.2.1/\r.2.1<=es.length) (fun r=>[(2,vFn kf),(7,vSl s3),(14,vSl r.2.2),(15, .pointer (some ⟨b15,0,none⟩)),(16, .pointer (some ⟨b16,0,none⟩)),(17, .bool r.1.on),(57,vSl s3),(58, .int .i64 es.length),(59, .int .i64 (r.2.1:Nat))])
   (fun r=>mS 37 r.2.2++(⟨b16,ZK (ZO r.1.fr),193⟩::⟨b15,row (eI .i64) [r.1.n0,r.1.n1] [],78⟩::mS 216 s3)) (fun r=>es.length-r.2.1) ⟨sws kp es 0,0,SlS.no⟩ ⟨rfl,Wm _⟩ sbB suB (fun r hr=>?_)
  obtain⟨q,m,r⟩:=r
  obtain⟨hq,hm⟩:=hr
  simp only at hq hm r⊢
  repeat(refine wkB ?_;intros)
  refine Zi rfl (fun h=>?_) (fun h=>?_)
  ·have hlt:m<es.length:=by have:=Wa h;omega
   rcases s3.cases 216 with⟨h0, -, -⟩|⟨bE,cE,spE,hc1,hvE,hmE,hneE⟩
   ·rw[h0] at hlt;simp at hlt
   ·simp only[hvE,hmE]
    obtain⟨w1,w2⟩:=ZjL (kp:=kp) hz1 m (by omega)
    rw[<-hq] at w1 w2
    obtain⟨w3,w4⟩:=hz1 _ (Zt (i:=(m:Int)) (xs:=es) (by omega))
    repeat(refine wkB ?_;intros)
    rename_i b19
    have q0:gi [q.n0,q.n1] 0=q.n0:=rfl
    have q1:gi [q.n0,q.n1] 1=q.n1:=rfl
    refine ZV (S:=Unit) (fun _=>True) (fun _=>[(2,vFn kf),(7, .slice (some ⟨bE,0,none⟩) es.length cE),(14,vSl r),(15, .pointer (some ⟨b15,0,none⟩)),(16, .pointer (some ⟨b16,0,none⟩)),(17, .bool q.on),(18, .int .i64 (m:Nat)),(19, .pointer (some ⟨b19,0,none⟩)),(57, .slice (some ⟨bE,0,none⟩) es.length cE),(58, .int .i64 es.length),(59, .int .i64 (m:Nat))])
     (fun _=>⟨b19,eEv (gi es (m:Int)),216⟩::(mS 37 r++[⟨b16,ZK (ZO q.fr),193⟩,⟨b15,row (eI .i64) [q.n0+(gi es (m:Int)).n0,q.n1+(gi es (m:Int)).n1] [],78⟩,⟨bE,row eEv es spE,216⟩])) ?_ (fun _ _=>?_)
    ·(refine ZE (.v [0,2,3,4,6,8,9,10] (.e2 1 (.v [5] (.e1 7 (.v [11,12] (.e1 13 (.v [14] (.e1 15 (.fin))))))) 7 (.v [11] (.e1 1 (.v [5,12] (.e1 13 (.v [14] (.e1 15 (.fin))))))))) ([⟨b19,eEv (gi es (m:Int)),216⟩]) (h:=?_);refine wkX ?_)
     repeat' (first|(with_reducible refine And.intro ?_ ?_)|(with_reducible exact True.intro)|(refine wkT ?_;intros)|fail)
     all_goals simp only[q0,q1]
     all_goals refine eR rfl ?_ ?_
     all_goals first|exact Nat.le_of_ble_eq_true rfl|skip
     repeat' (first|(with_reducible refine And.intro ?_ ?_)|(with_reducible exact True.intro)|(refine wkT ?_;intros)|fail)
     all_goals refine eR rfl ?_ ?_
     all_goals first|exact Nat.le_of_ble_eq_true rfl|skip
     repeat' (first|(with_reducible refine And.intro ?_ ?_)|(with_reducible exact True.intro)|(refine wkT ?_;intros)|fail)
     all_goals exact Zg () trivial sbB suB
    repeat(refine wkB ?_;intros)
    obtain⟨x,hx⟩:∃x,x=gi es (m:Int):=⟨_,rfl⟩
    obtain⟨nx,hnx⟩:∃nx,nx=gi es ((m+1:Nat):Int):=⟨_,rfl⟩
    obtain⟨N0,hN0⟩:∃N0,N0=q.n0+(gi es (m:Int)).n0:=⟨_,rfl⟩
    obtain⟨N1,hN1⟩:∃N1,N1=q.n1+(gi es (m:Int)).n1:=⟨_,rfl⟩
    simp only[<-hN0,<-hN1]
    have hxo:=hzb _ (Zt (i:=(m:Int)) (xs:=es) (by omega))
    have e1:(m:Int)+1=((m+1:Nat):Int):=by omega
    refine ZV (S:=Bool) (fun v=>v=decide (m+1<es.length/\cmpB x.b nx.b=0)) (fun v=>[(2,vFn kf),(7, .slice (some ⟨bE,0,none⟩) es.length cE),(14,vSl r),(15, .pointer (some ⟨b15,0,none⟩)),(16, .pointer (some ⟨b16,0,none⟩)),(17, .bool q.on),(18, .int .i64 (m:Nat)),(19, .pointer (some ⟨b19,0,none⟩)),(57, .slice (some ⟨bE,0,none⟩) es.length cE),(58, .int .i64 es.length),(59, .int .i64 (m:Nat)),(94, .bool v)])
     (fun _=>⟨b19,eEv (gi es (m:Int)),216⟩::(mS 37 r++[⟨b16,ZK (ZO q.fr),193⟩,⟨b15,row (eI .i64) [N0,N1] [],78⟩,⟨bE,row eEv es spE,216⟩])) ?_ (fun v hv=>?_)
    ·by_cases hml:m+1<es.length
     ·have hno:=hzb _ (Zt (i:=((m+1:Nat):Int)) (xs:=es) (by omega))
      refine jD 17 17 (h:=?_)
      (repeat(refine wkH ?_))
      simp only[Wc (show(m:Int)+1<(es.length:Int) by omega)]
      (repeat(refine wkH ?_))
      simp only[e1]
      (repeat(first|refine wkH ?_|(refine tC rfl rfl ?_ ?_;focus(exact⟨hxo,hno⟩))))
      refine Zo ?_
      refine Zq ?_
      repeat(refine wkB ?_;intros)
      exact Zg (decide (cmpB (gi es (m:Int)).b (gi es ((m+1:Nat):Int)).b=0)) (by rw[hx,hnx];simp[hml]) sbB suB
     ·refine jD 17 17 (h:=?_)
      (repeat(refine wkH ?_))
      simp only[We (show¬(m:Int)+1<(es.length:Int) by omega)]
      (repeat(refine wkH ?_))
      refine Zo ?_
      refine Zq ?_
      repeat(refine wkB ?_;intros)
      exact Zg false (by simp[hml]) sbB suB
    ·have hsw:sws kp es (m+1)=if m+1<es.length/\cmpB x.b nx.b=0 then⟨N0,N1,q.fr,q.on,q.out⟩ else
       ⟨N0,N1,if kp (decide (0<N0)) (decide (0<N1))&& !q.on then x.b else q.fr,kp (decide (0<N0)) (decide (0<N1)),if kp (decide (0<N0)) (decide (0<N1))&& !q.on then q.out else if !kp (decide (0<N0)) (decide (0<N1))&&q.on then q.out++[bdB q.fr x.b] else q.out⟩:=by
      rw[sws,<-hq,<-hx,<-hnx,hN0,hN1,hx]
     by_cases hc:m+1<es.length/\cmpB x.b nx.b=0
     ·rw[if_pos hc] at hsw
      rw[Wc hc] at hv
      subst hv
      repeat(first|(refine wkB ?_;intros)|(refine wnM ?_ ?_;(focus(exact⟨by omega,by omega⟩));intros))
      exact Zf ⟨⟨N0,N1,q.fr,q.on,q.out⟩,m+1,r⟩ ⟨hsw.symm,hlt⟩ sbB suB (by show es.length-(m+1)<es.length-m;omega)
     ·rw[if_neg hc] at hsw
      rw[We hc] at hv
      subst hv
      repeat(first|(refine wkB ?_;intros)|(refine wnM ?_ ?_;(focus(first|exact trivial|exact⟨by omega,by omega⟩));intros))
      obtain⟨nw,hnw⟩:∃nw,nw=kp (decide (0<N0)) (decide (0<N1)):=⟨_,rfl⟩
      simp only[show gi [N0,N1] 0=N0 from rfl,show gi [N0,N1] 1=N1 from rfl,<-hnw]
      rw[<-hnw] at hsw
      have hol:=ZiY kp es m
      rw[<-hq] at hol
      obtain⟨n0',n1',fr,on,out⟩:=q
      simp only at hol
      simp only at hsw r⊢
      rcases nw with _|_ <;> rcases on with _|_
      ·repeat(first|(refine wkB ?_;intros)|(refine wnM ?_ ?_;(focus(exact⟨by omega,by omega⟩));intros))
       exact Zf ⟨⟨N0,N1,fr,false,out⟩,m+1,r⟩ ⟨hsw.symm,hlt⟩ sbB suB (by show es.length-(m+1)<es.length-m;omega)
      ·repeat(first|(refine wkB ?_;intros)|(refine wnM ?_ ?_;(focus(first|exact trivial|exact⟨by omega,by omega⟩));intros))
       rw[<-hx]
       refine sU rfl rfl ?_ ?_ ?_ ?_
       ·rfl
       ·rfl
       ·exact⟨by decide,by omega,by omega⟩
       intro r'
       repeat(first|(refine wkB ?_;intros)|(refine wnM ?_ ?_;(focus(exact⟨by omega,by omega⟩));intros))
       exact Zf ⟨⟨N0,N1,fr,false,out++[bdB fr x.b]⟩,m+1,r'⟩ ⟨hsw.symm,hlt⟩ sbB suB (by show es.length-(m+1)<es.length-m;omega)
      ·repeat(first|(refine wkB ?_;intros)|(refine wnM ?_ ?_;(focus(exact⟨by omega,by omega⟩));intros))
       rw[<-hx]
       exact Zf ⟨⟨N0,N1,x.b,true,out⟩,m+1,r⟩ ⟨hsw.symm,hlt⟩ sbB suB (by show es.length-(m+1)<es.length-m;omega)
      ·repeat(first|(refine wkB ?_;intros)|(refine wnM ?_ ?_;(focus(exact⟨by omega,by omega⟩));intros))
       exact Zf ⟨⟨N0,N1,fr,true,out⟩,m+1,r⟩ ⟨hsw.symm,hlt⟩ sbB suB (by show es.length-(m+1)<es.length-m;omega)
  ·have hge:m=es.length:=by have:=Wb h;omega
   subst hge
   subst hq
   repeat(refine wkB ?_;intros)
   have hfin:swpR kp is js=(sws kp es es.length).out:=by
    have h1:=Zd3 is is.length
    have h2:=Zd3 js js.length
    have h3:evK is js 2=evA is is.length++evB js js.length:=rfl
    unfold swpR
    rw[<-hys]
    refine(Zqi hk0 hso hbd ?_ ?_).symm
    ·rw[hys,h3,ZaN,h1.1.1,h2.2.1];rfl
    ·rw[hys,h3,ZaN,h1.1.2,h2.2.2];rfl
   obtain⟨r2,hr1,hr2⟩:=r.like hfin
   refine ZA (v:=vSl r2) rfl (by rw[hr1];rfl) (fun w hw=>⟨r2,rfl, ?_⟩)
   dsimp only
   rw[hr2]
   exact hw.sub suB
instance ZxY (w0:World)(L:List Blk)(kf:FuncId)(kp:Bool->Bool->Bool)[CallC prog kf][hkp:∀a b,SpecC prog kf [.bool a, .bool b] (.bool (kp a b)) True](v1 v2:Value)(is js:List Za)[h1:LstC w0 L v1 Za rI is][h2:LstC w0 L v2 Za rI js]:SpecR prog w0 L 138 [v1,v2,vFn kf] (SlS rI 20 (swpR kp is js)) (fun s=>vSl s) (fun s=>mS 37 s) (2*is.length+2*js.length<=65536/\kp false false=false/\(∀i∈is,BdOk (bdF i)/\BdOk (bdL i))/\∀i∈js,BdOk (bdF i)/\BdOk (bdL i)):=⟨fun hp w hw=>ZkT kf kp hkp v1 v2 is js w (h1.out w hw) (h2.out w hw) hp.1 hp.2.1 hp.2.2.1 hp.2.2.2⟩
end
section
instance Zur (a b:Bool):SpecC prog 195 [.bool a, .bool b] (.bool (kpU a b)) True:=⟨fun _ w=>by
 refine Zb Tryz.func195 rfl Tryz.ntmps195 rfl ?_
 rcases a with _|_
 ·repeat(refine wkB ?_;intros)
  exact rtT rfl rfl
 ·repeat(refine wkB ?_;intros)
  exact rtT rfl rfl⟩
structure SwOk (is js:List Za):Prop where
 l:2*is.length+2*js.length<=65536
 a:∀i∈is,BdOk (bdF i)/\BdOk (bdL i)
 b:∀i∈js,BdOk (bdF i)/\BdOk (bdL i)
theorem Zki (v1 v2:Value)(is js:List Za)(w:World)(hv1:ArgS w v1 rI is)(hv2:ArgS w v2 rI js)(h:SwOk is js):
  Calls prog 149 [v1,v2].toArray w (RetM (SlS rI 20 (swpR kpU is js)) (fun s=>vSl s) (fun s=>mS 37 s) w):=by
 have:=ArgC.mk hv1
 have:=ArgC.mk hv2
 refine Zb Tryz.func149 rfl Tryz.ntmps149 rfl ?_
 repeat(first|(refine wkB ?_;intros)|(refine wnM ?_ ?_;(focus(exact⟨h.l,rfl,h.a,h.b⟩));intros))
 rename_i s
 exact ZA rfl rfl (fun w hw=>⟨s,rfl,hw.sub suB⟩)
instance Zwy (w0:World)(L:List Blk)(v1 v2:Value)(is js:List Za)[h1:LstC w0 L v1 Za rI is][h2:LstC w0 L v2 Za rI js]:SpecR prog w0 L 149 [v1,v2] (SlS rI 20 (swpR kpU is js)) (fun s=>vSl s) (fun s=>mS 37 s) (SwOk is js):=⟨fun hp w hw=>Zki v1 v2 is js w (h1.out w hw) (h2.out w hw) hp⟩
theorem ZmJ (v1:Value)(is:List Za)(w:World)(hv1:ArgS w v1 rI is)(h:SwOk is []):
  Calls prog 106 [v1].toArray w (RetM (SlS rI 20 (swpR kpU is [])) (fun s=>vSl s) (fun s=>mS 37 s) w):=by
 have:=ArgC.mk hv1
 have hn:∀L,LstC w L (.slice none 0 0) Za rI []:=fun L=>⟨fun _ _=>⟨.inl ⟨rfl,rfl⟩⟩⟩
 refine Zb Tryz.func106 rfl Tryz.ntmps106 rfl ?_
 repeat(first|(refine wkB ?_;intros)|(refine wnM ?_ ?_;(focus(exact h));intros))
 rename_i s
 exact ZA rfl rfl (fun w hw=>⟨s,rfl,hw.sub suB⟩)
instance ZyG (w0:World)(L:List Blk)(v1:Value)(is:List Za)[h1:LstC w0 L v1 Za rI is]:SpecR prog w0 L 106 [v1] (SlS rI 20 (swpR kpU is [])) (fun s=>vSl s) (fun s=>mS 37 s) (SwOk is []):=⟨fun hp w hw=>ZmJ v1 is w (h1.out w hw) hp⟩
end
end Go.Vt
