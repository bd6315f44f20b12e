/- that the gaps between reports are those of the chain (part 7 of 32.) Conditions: those that each statement names. -/
import Derived.Test.YtjicdlilgjdefaaGreatDoorKG6
set_option linter.unusedSimpArgs false
set_option linter.unusedVariables false
set_option maxHeartbeats 20000000
set_option maxRecDepth 100000
namespace Go.Vt
theorem Zlz {U Y v1 v2 high z2 p:Nat}(hv:0<v1)(hz:z2<4294967296)(hU:U<(high*4294967296+z2+1)*p)(hY:(v1*4294967296+v2)*p<=Y):U<(high / v1+1)*Y:=by
 have h1:=Nat.div_add_mod high v1
 have h2:=Nat.mod_lt high hv
 generalize high / v1=g at*
 generalize high % v1=r at*
 have h3:high+1<=(g+1)*v1:=by rw[Nat.add_mul,Nat.mul_comm g];omega
 have h4:(high+1)*4294967296<=(g+1)*v1*4294967296:=Nat.mul_le_mul_right _ h3
 have h5:high*4294967296+z2+1<=(g+1)*(v1*4294967296+v2):=by
  rw[Nat.mul_add,<-Nat.mul_assoc]
  have:(high+1)*4294967296=high*4294967296+4294967296:=by rw[Nat.add_mul,Nat.one_mul]
  omega
 have h6:(high*4294967296+z2+1)*p<=(g+1)*(v1*4294967296+v2)*p:=Nat.mul_le_mul_right _ h5
 have h7:(g+1)*((v1*4294967296+v2)*p)<=(g+1)*Y:=Nat.mul_le_mul_left _ hY
 rw[<-Nat.mul_assoc] at h7
 omega
theorem ZnL {U Y v1 v2 high rest z2 p g:Nat}(hg:g*v1+rest=high)(ht:rest*4294967296+z2<g*v2)(hU:U<(high*4294967296+z2+1)*p)(hY:(v1*4294967296+v2)*p<=Y):U<g*Y:=by
 have h5:high*4294967296+z2+1<=g*(v1*4294967296+v2):=by
  rw[Nat.mul_add,<-Nat.mul_assoc,<-hg,Nat.add_mul]
  omega
 have h6:(high*4294967296+z2+1)*p<=g*(v1*4294967296+v2)*p:=Nat.mul_le_mul_right _ h5
 have h7:g*((v1*4294967296+v2)*p)<=g*Y:=Nat.mul_le_mul_left _ hY
 rw[<-Nat.mul_assoc] at h7
 omega
theorem ZiQ {U Y v1 v2 high rest z2 p g:Nat}(hv:0<v1)(hg:g*v1+rest=high)(ht:g*v2<=rest*4294967296+z2)(hB:g<4294967296)(hU:(high*4294967296+z2)*p<=U)(hY:Y<=(v1*4294967296+v2+1)*p)(hY0:(v1*4294967296+v2)*p<=Y):g*Y<=U+Y:=by
 have h5:g*(v1*4294967296+v2)<=high*4294967296+z2:=by
  rw[Nat.mul_add,<-Nat.mul_assoc,<-hg,Nat.add_mul]
  omega
 have h6:g*(v1*4294967296+v2)*p<=(high*4294967296+z2)*p:=Nat.mul_le_mul_right _ h5
 have h7:g*Y<=g*((v1*4294967296+v2+1)*p):=Nat.mul_le_mul_left _ hY
 have h8:g*((v1*4294967296+v2+1)*p)=g*(v1*4294967296+v2)*p+g*p:=by
  rw[<-Nat.mul_assoc,Nat.mul_add g (v1*4294967296+v2) 1,Nat.add_mul,Nat.mul_one]
 have h9:g<=v1*4294967296+v2:=by
  have:1*4294967296<=v1*4294967296:=Nat.mul_le_mul_right _ hv
  omega
 have h10:g*p<=(v1*4294967296+v2)*p:=Nat.mul_le_mul_right _ h9
 omega
theorem Zpe {g v1 rest z1 z0:Nat}(hg:g*v1+rest=z0*4294967296+z1)(hz:z0<=v1)(h1:z1<4294967296)(hB:4294967296<=g):rest<4294967296:=by
 have h2:4294967296*v1<=g*v1:=Nat.mul_le_mul_right _ hB
 have h3:z0*4294967296<=v1*4294967296:=Nat.mul_le_mul_right _ hz
 rw[Nat.mul_comm v1 4294967296] at h3
 omega
theorem ZtW {ys:List Nat}{n:Nat}(h:Dg ys)(hn:2<=n)(hl:ys.length=n):(ys[n-1]'(by omega)*4294967296+ys[n-2]'(by omega))*4294967296 ^ (n-2)<=vd ys/\vd ys<(ys[n-1]'(by omega)*4294967296+ys[n-2]'(by omega)+1)*4294967296 ^ (n-2):=by
 have h1:=Za8 ys (n-2) (by omega)
 have h2:ys.drop (n-2)=[ys[n-2]'(by omega),ys[n-1]'(by omega)]:=by
  rw[List.drop_eq_getElem_cons (by omega),List.drop_eq_getElem_cons (by omega),List.drop_eq_nil_of_le (by omega)]
  simp only[show n-2+1=n-1 by omega]
 have h3:=ZbC (ZbZ h (n-2))
 rw[Wt,Nat.min_eq_left (by omega)] at h3
 rw[h2] at h1
 simp only[vd,Nat.mul_zero,Nat.add_zero] at h1
 generalize ys[n-2]'(by omega)=a at*
 generalize ys[n-1]'(by omega)=b at*
 rw[Nat.mul_comm (4294967296 ^ (n-2)),Nat.add_comm a,Nat.mul_comm _ b] at h1
 rw[Nat.add_mul _ 1]
 omega
theorem Zpk {zs:List Nat}{m:Nat}(h:Dg zs)(hm:3<=m)(hl:zs.length=m):((zs[m-1]'(by omega)*4294967296+zs[m-2]'(by omega))*4294967296+zs[m-3]'(by omega))*4294967296 ^ (m-3)<=vd zs/\vd zs<((zs[m-1]'(by omega)*4294967296+zs[m-2]'(by omega))*4294967296+zs[m-3]'(by omega)+1)*4294967296 ^ (m-3):=by
 have h1:=Za8 zs (m-3) (by omega)
 have h2:zs.drop (m-3)=[zs[m-3]'(by omega),zs[m-2]'(by omega),zs[m-1]'(by omega)]:=by
  rw[List.drop_eq_getElem_cons (by omega),List.drop_eq_getElem_cons (by omega),List.drop_eq_getElem_cons (by omega),List.drop_eq_nil_of_le (by omega)]
  simp only[show m-3+1=m-2 by omega,show m-2+1=m-1 by omega]
 have h3:=ZbC (ZbZ h (m-3))
 rw[Wt,Nat.min_eq_left (by omega)] at h3
 rw[h2] at h1
 simp only[vd,Nat.mul_zero,Nat.add_zero] at h1
 generalize zs[m-3]'(by omega)=a at*
 generalize zs[m-2]'(by omega)=b at*
 generalize zs[m-1]'(by omega)=c at*
 have e:a+4294967296*(b+4294967296*c)=(c*4294967296+b)*4294967296+a:=by show _=(c*4294967296+b)*4294967296+a;omega
 rw[e,Nat.mul_comm (4294967296 ^ (m-3))] at h1
 rw[Nat.add_mul _ 1]
 omega
theorem Zi5 {zs ys:List Nat}{i j c b b' g M t r:Nat}(hk:i<ys.length)(hi:i+j<zs.length)(ht:t=c+g*ys[i])(hr:r+b+t % 4294967296=zs[i+j]+b'*4294967296)
  (hS:vd zs+g*vd (ys.take i)*4294967296 ^ j=M+(c+b)*4294967296 ^ (i+j)):
  vd (zs.set (i+j) r)+g*vd (ys.take (i+1))*4294967296 ^ j=M+(t / 4294967296+b')*4294967296 ^ (i+1+j):=by
 have hs:=Zbv zs (i+j) r hi
 have hb:=Nat.div_add_mod t 4294967296
 generalize t / 4294967296=q at*
 generalize t % 4294967296=l at*
 have hy:vd (ys.take (i+1))=vd (ys.take i)+4294967296 ^ i*ys[i]:=by
  rw[Wn hk,ZbN,Wt,Nat.min_eq_left (by omega)]
  simp[vd]
 have e3:g*(vd (ys.take i)+4294967296 ^ i*ys[i])*4294967296 ^ j=g*vd (ys.take i)*4294967296 ^ j+g*ys[i]*4294967296 ^ (i+j):=by rw[Nat.pow_add];grind
 have e4:4294967296 ^ (i+1+j)=4294967296 ^ (i+j)*4294967296:=by rw[show i+1+j=i+j+1 by omega];exact Nat.pow_succ _ _
 rw[hy,e3,e4]
 generalize 4294967296 ^ (i+j)=p at*
 have e1:(r+b+l)*p=(zs[i+j]+b'*4294967296)*p:=by rw[hr]
 have e2:(4294967296*q+l)*p=(c+g*ys[i])*p:=by rw[hb,ht]
 have e5:(q+b')*(p*4294967296)=4294967296*q*p+b'*4294967296*p:=by grind
 rw[e5]
 rw[Nat.add_mul,Nat.add_mul,Nat.add_mul] at e1
 rw[Nat.add_mul,Nat.add_mul] at e2
 rw[Nat.add_mul] at hS
 omega
theorem Zpa {zs ys:List Nat}{i j c M t:Nat}(hk:i<ys.length)(hi:i+j<zs.length)(ht:t=c+(zs[i+j]+ys[i]))
  (hS:vd zs+c*4294967296 ^ (i+j)=M+vd (ys.take i)*4294967296 ^ j):
  vd (zs.set (i+j) (t % 4294967296))+t / 4294967296*4294967296 ^ (i+1+j)=M+vd (ys.take (i+1))*4294967296 ^ j:=by
 have hs:=Zbv zs (i+j) (t % 4294967296) hi
 have hb:=Nat.div_add_mod t 4294967296
 generalize t / 4294967296=q at*
 generalize t % 4294967296=l at*
 have hy:vd (ys.take (i+1))=vd (ys.take i)+4294967296 ^ i*ys[i]:=by
  rw[Wn hk,ZbN,Wt,Nat.min_eq_left (by omega)]
  simp[vd]
 have e3:(vd (ys.take i)+4294967296 ^ i*ys[i])*4294967296 ^ j=vd (ys.take i)*4294967296 ^ j+ys[i]*4294967296 ^ (i+j):=by rw[Nat.pow_add];grind
 have e4:4294967296 ^ (i+1+j)=4294967296 ^ (i+j)*4294967296:=by rw[show i+1+j=i+j+1 by omega];exact Nat.pow_succ _ _
 rw[hy,e3,e4]
 generalize 4294967296 ^ (i+j)=p at*
 have e2:(4294967296*q+l)*p=(c+(zs[i+j]+ys[i]))*p:=by rw[hb,ht]
 have e5:q*(p*4294967296)=4294967296*q*p:=by grind
 rw[e5]
 rw[Nat.add_mul,Nat.add_mul,Nat.add_mul] at e2
 omega
structure Same (zs zs':List Nat)(j n:Nat):Prop where
 len:zs'.length=zs.length
 dg:Dg zs'
 lo:zs'.take j=zs.take j
 hi:zs'.drop (j+n+1)=zs.drop (j+n+1)
theorem ZqO {zs:List Nat}{j n:Nat}(h:Dg zs):Same zs zs j n:=⟨rfl,h,rfl,rfl⟩
theorem Same.set {zs zs':List Nat}{j n:Nat}(h:Same zs zs' j n)(k x:Nat)(h1:j<=k)(h2:k<=j+n)(hx:x<4294967296):Same zs (zs'.set k x) j n:=
 ⟨by rw[List.length_set];exact h.len,Zb8 h.dg _ _ hx,by rw[List.take_set_of_le h1];exact h.lo,by rw[List.drop_set_of_lt (by omega)];exact h.hi⟩
theorem Same.cut {zs zs':List Nat}{j n:Nat}(h:Same zs zs' j n)(hj:j<=zs.length):vd zs'=vd (zs.take j)+4294967296 ^ j*vd (zs'.drop j):=by
 rw[Za8 zs' j (by rw[h.len];exact hj),h.lo]
theorem Same.small {zs zs':List Nat}{j n:Nat}(h:Same zs zs' j n)(hj:j+n<zs.length)(h0:vd (zs.drop (j+n+1))=0):vd (zs'.drop j)<4294967296 ^ (n+1):=by
 have h1:=Za8 (zs'.drop j) (n+1) (by rw[List.length_drop,h.len];omega)
 rw[List.drop_drop,show j+(n+1)=j+n+1 by omega,h.hi,h0,Nat.mul_zero,Nat.add_zero] at h1
 have h2:=ZbC (ZbZ (Znk h.dg j) (n+1))
 rw[Wt,List.length_drop,h.len,Nat.min_eq_left (by omega)] at h2
 omega
theorem ZoU {zs:List Nat}{j n:Nat}(hj:j+n<zs.length)(h:vd (zs.drop j)<4294967296 ^ (n+1)):vd (zs.drop (j+n+1))=0:=by
 have h1:=Za8 (zs.drop j) (n+1) (by rw[List.length_drop];omega)
 rw[List.drop_drop,show j+(n+1)=j+n+1 by omega] at h1
 rcases Nat.eq_zero_or_pos (vd (zs.drop (j+n+1))) with h2|h2
 ·exact h2
 ·have h3:4294967296 ^ (n+1)*1<=4294967296 ^ (n+1)*vd (zs.drop (j+n+1)):=Nat.mul_le_mul_left _ h2
  omega
theorem ZpF {zs ys:List Nat}{j n Y:Nat}(hDz:Dg zs)(hDy:Dg ys)(hn:2<=n)(hly:ys.length=n)(hY:vd ys=Y)(hj:j+n<zs.length)(hlt:vd (zs.drop (j+1))<Y):
  vd (zs.drop (j+n+1))=0/\
  ((zs[j+n]*4294967296+zs[j+n-1]'(by omega))*4294967296+zs[j+n-2]'(by omega))*4294967296 ^ (n-2)<=vd (zs.drop j)/\
  vd (zs.drop j)<((zs[j+n]*4294967296+zs[j+n-1]'(by omega))*4294967296+zs[j+n-2]'(by omega)+1)*4294967296 ^ (n-2)/\
  (ys[n-1]'(by omega)*4294967296+ys[n-2]'(by omega))*4294967296 ^ (n-2)<=Y/\Y<(ys[n-1]'(by omega)*4294967296+ys[n-2]'(by omega)+1)*4294967296 ^ (n-2)/\
  zs[j+n]<=ys[n-1]'(by omega)/\vd (zs.drop j)<4294967296*Y:=by
 obtain⟨y1,y2⟩:=ZtW hDy hn hly
 rw[hY] at y1 y2
 have hYB:Y<4294967296 ^ n:=by rw[<-hY,<-hly];exact ZbC hDy
 have hz0:=Zax hDz (show j<zs.length by omega)
 have hU:vd (zs.drop j)<4294967296*Y:=by
  rw[ZeJ zs j (by omega)]
  omega
 have hUB:vd (zs.drop j)<4294967296 ^ (n+1):=by rw[Nat.pow_succ];omega
 have h0:=ZoU hj hUB
 have hs:vd (zs.drop j)=vd ((zs.drop j).take (n+1)):=by
  have h1:=Za8 (zs.drop j) (n+1) (by rw[List.length_drop];omega)
  rw[List.drop_drop,show j+(n+1)=j+n+1 by omega,h0,Nat.mul_zero,Nat.add_zero] at h1
  exact h1
 have hl3:((zs.drop j).take (n+1)).length=n+1:=by rw[Wt,List.length_drop];omega
 obtain⟨t1,t2⟩:=Zpk (ZbZ (Znk hDz j) (n+1)) (by omega) hl3
 rw[<-hs] at t1 t2
 simp only[List.getElem_take,List.getElem_drop,show n+1-1=n by omega,show n+1-2=n-1 by omega,show n+1-3=n-2 by omega,show j+(n-1)=j+n-1 by omega,show j+(n-2)=j+n-2 by omega] at t1 t2
 refine⟨h0,t1,t2,y1,y2, ?_,hU⟩
 have hy2:=Zax hDy (show n-2<ys.length by omega)
 have hp:0<4294967296 ^ (n-2):=Nat.pow_pos (by omega)
 have h5:((zs[j+n]*4294967296+zs[j+n-1]'(by omega))*4294967296+zs[j+n-2]'(by omega))*4294967296 ^ (n-2)<(4294967296*(ys[n-1]'(by omega)*4294967296+ys[n-2]'(by omega)+1))*4294967296 ^ (n-2):=by
  rw[Nat.mul_assoc 4294967296]
  omega
 have h6:=Nat.lt_of_mul_lt_mul_right h5
 omega
theorem Zpt {zs z1 z2 ys:List Nat}{j n Y g c b e β z0:Nat}(hs1:Same zs z1 j n)(hj:j+n<zs.length)(hly:ys.length=n)(hY:vd ys=Y)
  (h1:vd z1+g*vd (ys.take n)*4294967296 ^ j=vd zs+(c+b)*4294967296 ^ (n+j)) (hd:z1[j+n]'(by rw[hs1.len];exact hj)=z0) (he:e+b+c=z0+β*4294967296) (h2:z2=z1.set (j+n) e) (hs2:Same zs z2 j n):
  vd (z2.drop j)+g*Y=vd (zs.drop j)+β*4294967296 ^ (n+1):=by
 have hl1:j+n<z1.length:=by rw[hs1.len];exact hj
 have hset:=Zbv z1 (j+n) e hl1
 rw[hd,<-h2] at hset
 have hc2:=hs2.cut (by omega)
 have hc0:=Za8 zs j (by omega)
 rw[List.take_of_length_le (by omega),hY] at h1
 rw[hc0] at h1
 rw[hc2] at hset
 have hp:0<4294967296 ^ j:=Nat.pow_pos (by omega)
 have e1:4294967296 ^ (j+n)=4294967296 ^ j*4294967296 ^ n:=Nat.pow_add _ _ _
 have e2:4294967296 ^ (n+j)=4294967296 ^ j*4294967296 ^ n:=by rw[Nat.add_comm];exact e1
 have e3:4294967296 ^ (n+1)=4294967296 ^ n*4294967296:=Nat.pow_succ _ _
 rw[e1] at hset
 rw[e2] at h1
 rw[e3]
 generalize (4294967296:Nat) ^ n=R at*
 generalize (4294967296:Nat) ^ j=P at*
 generalize vd (zs.take j)=low at*
 generalize vd (z2.drop j)=U2 at*
 generalize vd (zs.drop j)=U at*
 generalize vd z1=V at*
 have e4:(e+b+c)*(P*R)=(z0+β*4294967296)*(P*R):=by rw[he]
 have e5:P*(U2+g*Y)=P*(U+β*(R*4294967296)):=by
  have f1:P*(U2+g*Y)=P*U2+g*Y*P:=by grind
  have f2:P*(U+β*(R*4294967296))=P*U+β*4294967296*(P*R):=by grind
  rw[f1,f2]
  rw[Nat.add_mul,Nat.add_mul,Nat.add_mul] at e4
  rw[Nat.add_mul] at h1
  omega
 exact Nat.eq_of_mul_eq_mul_left hp e5
theorem Zpg {zs z2 z3 z4 ys:List Nat}{j n Y c e e' o:Nat}(hs2:Same zs z2 j n)(hs3:Same zs z3 j n)(hj:j+n<zs.length)(hly:ys.length=n)(hY:vd ys=Y)
  (h1:vd z3+c*4294967296 ^ (n+j)=vd z2+vd (ys.take n)*4294967296 ^ j) (hd:z3[j+n]'(by rw[hs3.len];exact hj)=e) (he:e'+o*4294967296=e+c) (h2:z4=z3.set (j+n) e') (hs4:Same zs z4 j n):
  vd (z4.drop j)+o*4294967296 ^ (n+1)=vd (z2.drop j)+Y:=by
 have hl1:j+n<z3.length:=by rw[hs3.len];exact hj
 have hset:=Zbv z3 (j+n) e' hl1
 rw[hd,<-h2] at hset
 have hc4:=hs4.cut (by omega)
 have hc2:=hs2.cut (by omega)
 rw[List.take_of_length_le (by omega),hY] at h1
 rw[hc2] at h1
 rw[hc4] at hset
 have hp:0<4294967296 ^ j:=Nat.pow_pos (by omega)
 have e1:4294967296 ^ (j+n)=4294967296 ^ j*4294967296 ^ n:=Nat.pow_add _ _ _
 have e2:4294967296 ^ (n+j)=4294967296 ^ j*4294967296 ^ n:=by rw[Nat.add_comm];exact e1
 have e3:4294967296 ^ (n+1)=4294967296 ^ n*4294967296:=Nat.pow_succ _ _
 rw[e1] at hset
 rw[e2] at h1
 rw[e3]
 generalize (4294967296:Nat) ^ n=R at*
 generalize (4294967296:Nat) ^ j=P at*
 generalize vd (zs.take j)=low at*
 generalize vd (z4.drop j)=U4 at*
 generalize vd (z2.drop j)=U2 at*
 generalize vd z3=V at*
 have e4:(e'+o*4294967296)*(P*R)=(e+c)*(P*R):=by rw[he]
 have e5:P*(U4+o*(R*4294967296))=P*(U2+Y):=by
  have f1:P*(U4+o*(R*4294967296))=P*U4+o*4294967296*(P*R):=by grind
  have f2:P*(U2+Y)=P*U2+Y*P:=by grind
  rw[f1,f2]
  rw[Nat.add_mul,Nat.add_mul] at e4
  omega
 exact Nat.eq_of_mul_eq_mul_left hp e5
theorem ZlO {U U2 g Y R:Nat}(h:U2+g*Y=U+0*R)(hg:U<(g+1)*Y):U=U2+g*Y/\U2<Y:=by
 rw[Nat.add_mul,Nat.one_mul] at hg
 omega
theorem Zny {U U2 U4 g Y R o:Nat}(h:U2+g*Y=U+1*R)(hle:g*Y<=U+Y)(h2:U2<R)(h4:U4<R)(ho:o<=1)(hb:U4+o*R=U2+Y)(hg:0<g):U=U4+(g-1)*Y/\U4<Y:=by
 obtain⟨k,rfl⟩:∃k,g=k+1:=⟨g-1,by omega⟩
 rw[Nat.add_mul,Nat.one_mul] at h hle
 simp only[Nat.add_sub_cancel]
 have:o=0\/o=1:=by omega
 rcases this with rfl|rfl <;> omega
theorem Zot {zs z' os:List Nat}{A Y j n q:Nat}(hs:Same zs z' j n)(hj:j<=zs.length)(hi:j<os.length)(h0:os[j]=0)(hA:A=vd zs+Y*vd os)(hU:vd (zs.drop j)=vd (z'.drop j)+q*Y):A=vd z'+Y*vd (os.set j q):=by
 have h1:=Zbv os j q hi
 rw[h0,Nat.zero_mul,Nat.add_zero] at h1
 rw[h1,hA,hs.cut hj,Za8 zs j hj,hU]
 grind
theorem Zt0 {a b s r q:Nat}(h:a*2 ^ s=r+b*2 ^ s*q)(hr:r<b*2 ^ s):q=a / b/\r=a % b*2 ^ s:=by
 have hp:0<2 ^ s:=Nat.pow_pos (by omega)
 have hb:0<b:=by
  rcases Nat.eq_zero_or_pos b with h0|h0
  ·subst h0;simp at hr
  ·exact h0
 have h1:q=a*2 ^ s / (b*2 ^ s):=by
  rw[h,Nat.add_mul_div_left _ _ (Nat.mul_pos hb hp),Nat.div_eq_of_lt hr,Nat.zero_add]
 have h2:r=a*2 ^ s % (b*2 ^ s):=by
  rw[h,Nat.add_mul_mod_self_left,Nat.mod_eq_of_lt hr]
 rw[Nat.mul_div_mul_right _ _ hp] at h1
 rw[Nat.mul_mod_mul_right] at h2
 exact⟨h1,h2⟩
end Go.Vt
namespace Go.Vt
open Go.RowKit Go.Proofs
open Go.Proofs.Tryz (prog)
theorem ZrV {P:Program}{w0:World}{n:Nat}{ops:Array Oper}{L:List Blk}{E:Env}{Q:Exit->Act->World->Prop}{rest:List Oper}{ty:TypeId}{pos:String}{aft:Array Edge}{gd:Option (Nat×Bool)}
  {f:FuncId} {xs:List Operand} {l:List Value} {ats:Array TypeId} {t:Tmp} {S:Type} (I:S->Prop) (val:S->Value) (mem:S->List Blk) (hl:Env.evs E xs=some l) [hf:CallC P f] (hc:∀w,Own w0 L w->Calls P f l.toArray w fun e w'=>∃s,I s/\RetO (val s) w0 (mem s) e w')
  (hg:guardB ops E gd=some true) (hd:Nat.blt t n=true) (h:∀s,I s->JO P w0 n ops Q rest ((t,val s)::E) (mem s)):JO P w0 n ops Q (⟨some t, .call ⟨.value (.func f),xs.toArray,ats⟩,ty,pos,aft,gd⟩::rest) E L:=
 ZkT (S:={s:S // I s}) (o:=⟨some t, .call ⟨.value (.func f),xs.toArray,ats⟩,ty,pos,aft,gd⟩) hg hd (fun s=>val s.1) (fun s=>mem s.1) (fun _ _ ha=>ZcF hf.out ha hl)
  (fun w hw=>(hc w hw).mono fun _ _ ⟨s,hs,he,ho⟩=>⟨⟨s,hs⟩,he,ho⟩) (fun s=>h s.1 s.2)
theorem Zfu (b c:Nat)(xs:List Nat)(s:Nat)(fz:Nat×Nat)(hs:s<32)(hD:Dg xs)(hx:xs.length<=1099511627776)(w:World)(hw:w.heap[b]? =some (.cells (dig .u32 xs) 365 fz)):
  Calls prog 272 [.slice (some ⟨b,0,none⟩) xs.length c, .int .i64 s].toArray w (RetB (fun b=> .slice (some ⟨b,0,none⟩) (xs.length+1) (xs.length+1)) (dig .u32 (dgs (vd xs*2 ^ s) (xs.length+1))) 365 w):=by
 obtain⟨os,h1,h2,h3,h4⟩:=ZkQ b c xs s fz hs hD hx w hw
 rw[Zks h2 h1 h3] at h4
 exact h4
instance ZKR (x:Nat):SpecC prog 271 [.int .u32 x] (.int .i64 (32-(Lib.bitLen x:Int))) (x<4294967296):=⟨fun h w=>(Tryz.bits_LeadingZeros32 x w (by omega) (by omega)).mono fun e w' ⟨h1,h2⟩=>by subst h2;exact⟨h1,Ext.refl _⟩⟩
theorem bit32 {x:Nat}(h0:x≠0)(h:x<4294967296):1<=Lib.bitLen x/\Lib.bitLen x<=32/\x<2 ^ Lib.bitLen x:=by
 obtain⟨h1,h2,h3⟩:=Zew (x:=x) (by omega) h0
 refine⟨h1, ?_,h3⟩
 rcases Nat.lt_or_ge 32 (Lib.bitLen x) with h4|h4
 ·have h5:(2:Nat) ^ 32<=2 ^ (Lib.bitLen x-1):=Nat.pow_le_pow_right (by omega) (by omega)
  omega
 ·exact h4
theorem ZgK {b n:Nat}(hb:b≠0)(hn:n=((mag b).size+3) / 4):1<=n/\4294967296 ^ (n-1)<=b/\b<4294967296 ^ n:=by
 have h1:1<=(mag b).size:=by
  rcases Nat.eq_zero_or_pos (mag b).size with h1|h1
  ·exfalso
   have:(mag b).size<=0:=by omega
   rw[ZaS] at this
   omega
  ·exact h1
 refine⟨by omega, ?_, ?_⟩
 ·rw[Zei]
  rcases Nat.lt_or_ge b (256 ^ (4*(n-1))) with h2|h2
  ·have:=ZaS.2 h2
   omega
  ·exact h2
 ·rw[Zei]
  have h2:b<256 ^ (mag b).size:=ZaS.1 (Wl _)
  exact Nat.lt_of_lt_of_le h2 (Nat.pow_le_pow_right (by omega) (by omega))
theorem Zo1 {b n:Nat}(hb:b≠0)(hn:n=((mag b).size+3) / 4):∃t,(dgs b n)[n-1]? =some t/\t≠0/\t<4294967296/\t*4294967296 ^ (n-1)<=b/\b<(t+1)*4294967296 ^ (n-1):=by
 obtain⟨h1,h2,h3⟩:=ZgK hb hn
 have hl:=ZaH n b
 have hD:=Za3 n b
 have hv:vd (dgs b n)=b:=by rw[Zc2,Nat.mod_eq_of_lt h3]
 generalize dgs b n=ds at*
 have hi:n-1<ds.length:=by omega
 refine⟨ds[n-1],by simp[hi], ?_,Zax hD hi, ?_⟩
 ·intro h0
  have h4:=Za8 ds (n-1) (by omega)
  rw[List.drop_eq_getElem_cons hi,List.drop_eq_nil_of_le (by omega),h0] at h4
  have h5:=ZbC (ZbZ hD (n-1))
  rw[Wt,Nat.min_eq_left (by omega)] at h5
  simp[vd] at h4
  omega
 ·have h4:=Za8 ds (n-1) (by omega)
  rw[List.drop_eq_getElem_cons hi,List.drop_eq_nil_of_le (by omega),hv] at h4
  have h5:=ZbC (ZbZ hD (n-1))
  rw[Wt,Nat.min_eq_left (by omega)] at h5
  simp only[vd,Nat.mul_zero,Nat.add_zero] at h4
  rw[Nat.mul_comm (4294967296 ^ (n-1))] at h4
  rw[Nat.add_mul,Nat.one_mul]
  omega
theorem ZqV {a n:Nat}(h:a<4294967296 ^ n):dgs a (n+1)=dgs a n++[0]:=by
 symm
 refine Zks (Zi4 (Za3 _ _) (fun d hd=>by simp at hd;omega)) (by simp[ZaH]) ?_
 rw[ZbN,Zc2,Nat.mod_eq_of_lt h]
 simp[vd]
structure KI (A Y n m k:Nat)(zs os:List Nat):Prop where
 hk:k<=m
 lz:zs.length=m+n
 dz:Dg zs
 lo:os.length=m
 dO:Dg os
 z0:∀i,i<k->os[i]? =some 0
 eq:A=vd zs+Y*vd os
 lt:vd (zs.drop k)<Y
theorem ZoO {b s t n:Nat}(hn:1<=n)(hs:s<=32)(h:b<(t+1)*4294967296 ^ (n-1))(ht:t<2 ^ (32-s)):b*2 ^ s<4294967296 ^ n:=by
 have hp:0<2 ^ s:=Nat.pow_pos (by omega)
 have h1:b*2 ^ s<(t+1)*4294967296 ^ (n-1)*2 ^ s:=Nat.mul_lt_mul_of_pos_right h hp
 have h2:(t+1)*2 ^ s<=2 ^ (32-s)*2 ^ s:=Nat.mul_le_mul_right _ ht
 rw[<-Nat.pow_add,show 32-s+s=32 by omega] at h2
 have h3:(t+1)*2 ^ s*4294967296 ^ (n-1)<=2 ^ 32*4294967296 ^ (n-1):=Nat.mul_le_mul_right _ h2
 have h4:2 ^ 32*4294967296 ^ (n-1)=4294967296 ^ n:=by
  obtain⟨k,rfl⟩:∃k,n=k+1:=⟨n-1,by omega⟩
  rw[Nat.add_sub_cancel,show(4294967296:Nat) ^ (k+1)=4294967296 ^ k*4294967296 from Nat.pow_succ _ _,Nat.mul_comm]
 have h5:(t+1)*4294967296 ^ (n-1)*2 ^ s=(t+1)*2 ^ s*4294967296 ^ (n-1):=by rw[Nat.mul_assoc,Nat.mul_comm (4294967296 ^ (n-1)),<-Nat.mul_assoc]
 omega
theorem Zrj {a b s n m nx:Nat}(ha:a<4294967296 ^ nx)(hb:4294967296 ^ (n-1)<=b)(hn:1<=n)(hm:nx+1=m+n)(hs:s<32):KI (a*2 ^ s) (b*2 ^ s) n m m (dgs (a*2 ^ s) (nx+1)) (List.replicate m 0):=by
 obtain⟨hp1,hp2⟩:=pow31 hs
 have hA:a*2 ^ s<4294967296 ^ (nx+1):=by
  rw[Nat.pow_succ]
  exact Nat.mul_lt_mul'' ha (by omega)
 have hv:vd (dgs (a*2 ^ s) (nx+1))=a*2 ^ s:=by rw[Zc2,Nat.mod_eq_of_lt hA]
 refine⟨Wl _,by rw[ZaH,hm],Za3 _ _,by simp,Zgf _,fun i hi=>by simp[hi],by rw[hv,Zgi];simp, ?_⟩
 have h1:=Za8 (dgs (a*2 ^ s) (nx+1)) m (by rw[ZaH];omega)
 rw[hv] at h1
 have h2:a*2 ^ s<4294967296 ^ nx*2 ^ s:=Nat.mul_lt_mul_of_pos_right ha (by omega)
 have h3:4294967296 ^ nx=4294967296 ^ m*4294967296 ^ (n-1):=by rw[<-Nat.pow_add];congr 1;omega
 have h4:4294967296 ^ m*vd ((dgs (a*2 ^ s) (nx+1)).drop m)<4294967296 ^ m*(4294967296 ^ (n-1)*2 ^ s):=by
  rw[<-Nat.mul_assoc,<-h3]
  omega
 have h5:=Nat.lt_of_mul_lt_mul_left h4
 have h6:4294967296 ^ (n-1)*2 ^ s<=b*2 ^ s:=Nat.mul_le_mul_right _ hb
 omega
theorem Zoo {zs:List Nat}{W i s:Nat}(hD:Dg zs)(hv:vd zs=W*2 ^ s)(hi:i+1<zs.length)(hs:s<32):(zs[i+1]*4294967296+zs[i]) / 2 ^ s % 4294967296=W / 4294967296 ^ i % 4294967296:=by
 have hp:0<2 ^ s:=Nat.pow_pos (by omega)
 have h0:=ZeY zs hD i (by omega)
 have h1:=ZeY zs hD (i+1) hi
 rw[Nat.pow_succ,<-Nat.div_div_eq_div_mul] at h1
 have hW:W=vd zs / 2 ^ s:=by rw[hv,Nat.mul_div_cancel _ hp]
 have e1:W / 4294967296 ^ i=vd zs / 4294967296 ^ i / 2 ^ s:=by rw[hW,Nat.div_div_eq_div_mul,Nat.div_div_eq_div_mul,Nat.mul_comm]
 rw[e1,<-h0,<-h1]
 generalize vd zs / 4294967296 ^ i=Z
 have h2:Z / 4294967296 % 4294967296*4294967296+Z % 4294967296=Z % (4294967296*4294967296):=by rw[Nat.mod_mul];omega
 rw[h2]
 have h3:=Nat.div_add_mod Z (4294967296*4294967296)
 generalize Z % (4294967296*4294967296)=r at*
 generalize Z / (4294967296*4294967296)=k at*
 have h4:(4294967296:Nat)*4294967296*k=2 ^ s*(4294967296*(2 ^ (32-s)*k)):=by
  have h5:(4294967296:Nat)=2 ^ s*2 ^ (32-s):=by rw[<-Nat.pow_add,show s+(32-s)=32 by omega]
  have h6:(4294967296:Nat)*4294967296*k=4294967296*(4294967296*k):=Nat.mul_assoc _ _ _
  rw[h6]
  conv=>lhs;rw[h5]
  rw[show 2 ^ s*2 ^ (32-s)*(2 ^ s*2 ^ (32-s)*k)=2 ^ s*((2 ^ s*2 ^ (32-s))*(2 ^ (32-s)*k)) by grind,<-h5]
 rw[<-h3,h4,Nat.mul_add_div hp,Nat.mul_add_mod]
theorem ZsQ {l:List Nat}{i n:Nat}(hl:l.length=n)(hi:i<n):(l.take i++List.replicate (n-i) 0).set i (l[i]'(by omega))=l.take (i+1)++List.replicate (n-(i+1)) 0:=by
 have h1:(l.take i).length=i:=by rw[Wt];omega
 obtain⟨k,hk⟩:∃k,n-i=k+1:=⟨n-i-1,by omega⟩
 rw[hk,show n-(i+1)=k by omega,List.set_append_right _ _ (by omega),h1,Nat.sub_self,List.replicate_succ,List.set_cons_zero,Wn (by omega),List.append_assoc]
 rfl
theorem Zv3 {Y v1 v2 n:Nat}(hn:2<=n)(h:4294967296 ^ (n-1)<=Y)(hY:Y<(v1*4294967296+v2+1)*4294967296 ^ (n-2))(h2:v2<4294967296):0<v1:=by
 rcases Nat.eq_zero_or_pos v1 with h0|h0
 ·exfalso
  subst h0
  have h1:(0*4294967296+v2+1)*4294967296 ^ (n-2)<=4294967296*4294967296 ^ (n-2):=Nat.mul_le_mul_right _ (by omega)
  have h3:4294967296 ^ (n-1)=4294967296*4294967296 ^ (n-2):=by
   rw[show n-1=n-2+1 by omega,Nat.pow_succ,Nat.mul_comm]
  omega
 ·exact h0
theorem ZrW (a b:Nat)(hb0:b≠0)(ha:(mag a).size<=1099511627776)(hb:(mag b).size<=1099511627776)(w:World):Calls prog 222 [.string (mag a), .string (mag b)].toArray w (Ret (.tuple #[.string (mag (a / b)), .string (mag (a % b))]) w):=by
 refine Zg Tryz.func222 rfl Tryz.ntmps222 rfl ?_
 repeat(refine wkA ?_;intros)
 refine Zl rfl (fun h=>?_) (fun h=>?_)
 ·rw[Wq] at h
  have h1:=Zdl h.1
  have h2:=Zdl h.2
  have h3:=Zdm a
  have h4:=Zdm b
  rw[h1] at h3
  rw[h2] at h4
  simp only[h1,h2]
  have hqd:(a:Int) / (b:Int)=((a / b:Nat):Int):=rfl
  have hrd:(a:Int) % (b:Int)=((a % b:Nat):Int):=rfl
  have hq2:a / b<=a:=Nat.div_le_self _ _
  have hr2:a % b<=a:=Nat.mod_le _ _
  repeat(refine wkA ?_;intros)
  refine jD 10 10 (h:=?_)
  (repeat(refine wkH ?_))
  refine hq (Ziq rfl rfl ?_) rfl rfl ?_
  ·omega
  rw[hqd]
  (repeat(first|refine wkH ?_|(refine tC rfl rfl ?_ ?_;focus(omega))))
  refine hq (Zgd rfl rfl ?_) rfl rfl ?_
  ·omega
  rw[hrd]
  (repeat(first|refine wkH ?_|(refine tC rfl rfl ?_ ?_;focus(omega))))
  refine Zn (Zr ?_)
  repeat(refine wkA ?_;intros)
  exact ZA rfl (Zk rfl) (Zk rfl) (fun w hw=>ZZ hw)
 ·repeat(refine wkA ?_;intros)
  refine Zl rfl (fun h=>?_) (fun h=>?_)
  ·have hlt:=ZmX.1 (Wa h)
   repeat(refine wkA ?_;intros)
   rw[Nat.div_eq_of_lt (by omega),Nat.mod_eq_of_lt (by omega)]
   exact ZA rfl (Zk rfl) (Zk rfl) (fun w hw=>ZZ hw)
  ·have hge:b<=a:=by
    have:=Wb h
    rw[ZmX] at this
    omega
   repeat(refine wkA ?_;intros)
   refine Zbm rfl (fun w' _=>Za1 b hb w') rfl rfl ?_
   intro bY
   obtain⟨nb,hnb⟩:∃nb,nb=((mag b).size+3) / 4:=⟨_,rfl⟩
   obtain⟨na,hna⟩:∃na,na=((mag a).size+3) / 4:=⟨_,rfl⟩
   simp only[<-hnb]
   obtain⟨hn1,hbl,hbh⟩:=ZgK hb0 hnb
   obtain⟨t,ht,ht0,htB,htl,hth⟩:=Zo1 hb0 hnb
   have hvb:vd (dgs b nb)=b:=by rw[hnb,Zbe]
   have hlb:=ZaH nb b
   have hDb:=Za3 nb b
   repeat(refine wkA ?_;intros)
   refine Zl rfl (fun h=>?_) (fun h=>?_)
   ·have hone:nb=1:=by have:=Wa h;omega
    subst hone
    repeat(refine wkA ?_;intros)
    refine Zbm rfl (fun w' _=>Za1 a ha w') rfl rfl ?_
    intro bx
    simp only[<-hna]
    repeat(refine wkA ?_;intros)
    refine jq (Zac rfl (show(dgs b 1)[0+(0:Int).toNat*1]? =some t from ht)) rfl rfl ?_
    have htb:t=b:=by
     simp only[Nat.sub_self,Nat.pow_zero,Nat.mul_one] at htl hth
     omega
    have hva:vd (dgs a na)=a:=by rw[hna,Zbe]
    have hla:=ZaH na a
    have hDa:=Za3 na a
    generalize dgs a na=xs at*
    subst hla
    refine ZrV (S:=List Nat) (fun qs=>qs.length=xs.length/\Dg qs/\vd qs=vd xs / t) (fun _=> .int .u32 ((vd xs % t:Nat):Int)) (fun qs=>[⟨bx,dig .u32 qs,365⟩,⟨bY,dig .u32 (dgs b 1),365⟩]) rfl
     (fun w' hw'=>(ZnS bx xs.length xs t hDa (by omega) htB (by omega) _ w' _ hw').mono fun e w2 ⟨qs,g1,g2,g3,g4⟩=>⟨qs,⟨g1,g2,g3⟩,g4⟩) rfl rfl (fun qs hqs=>?_)
    obtain⟨g1,g2,g3⟩:=hqs
    repeat(refine wkA ?_;intros)
    refine jq (ZbU rfl (fun w' hw'=>Zcm bx xs.length xs.length qs (0,0) (by omega) (Wl _) (by omega) g2 w' (hw'.mem _ MemC.out).2)) rfl rfl ?_
    have e1:vd (qs.take xs.length)=a / b:=by rw[List.take_of_length_le (by omega),g3,hva,htb]
    have e2:vd xs % t=a % b:=by rw[hva,htb]
    rw[e1]
    have hrb:a % b<4294967296:=by have:=Nat.mod_lt a (Nat.pos_of_ne_zero hb0);omega
    simp only[e2]
    repeat(first|(refine wkA ?_;intros)|(refine sC rfl rfl ?_ ?_;focus(omega)))
    exact ZA rfl (Zk rfl) (Zk rfl) (fun w hw=>ZZ hw)
   ·have hn2:2<=nb:=by have:=Wb h;omega
    have hnle:nb<=na:=by have:=Zch hge;omega
    obtain⟨l1,l2,l3⟩:=bit32 ht0 htB
    obtain⟨s,hs⟩:∃s,s=32-Lib.bitLen t:=⟨_,rfl⟩
    have es:(32:Int)-Lib.bitLen t=(s:Int):=by omega
    have hs32:s<32:=by omega
    rw[show Lib.bitLen t=32-s by omega] at l3
    have hYB:=ZoO hn1 (by omega) hth l3
    obtain⟨hp1,hp2⟩:=pow31 hs32
    repeat(refine wkA ?_;intros)
    refine jq (Zac rfl (show(dgs b nb)[0+((nb:Int)-1).toNat*1]? =some t by rw[show 0+((nb:Int)-1).toNat*1=nb-1 by omega];exact ht)) rfl rfl ?_
    repeat(first|(refine wkA ?_;intros)|(refine sC rfl rfl ?_ ?_;focus(exact htB)))
    simp only[es]
    refine Zbm rfl (fun w' _=>Za1 a ha w') rfl rfl ?_
    intro bxa
    simp only[<-hna]
    have hva:vd (dgs a na)=a:=by rw[hna,Zbe]
    have hla:=ZaH na a
    have hDa:=Za3 na a
    have haB:a<4294967296 ^ na:=(ZgK (by omega) hna).2.2
    generalize dgs a na=xs at*
    subst hla
    generalize dgs b nb=ys0 at*
    subst hlb
    repeat(refine wkA ?_;intros)
    refine Zbm rfl (fun w' hw'=>Zfu bxa xs.length xs s (0,0) hs32 hDa (by omega) w' (hw'.mem _ MemC.out).2) rfl rfl ?_
    intro bx
    rw[hva]
    repeat(refine wkA ?_;intros)
    refine Zbm rfl (fun w' hw'=>Zfu bY ys0.length ys0 s (0,0) hs32 hDb (by omega) w' (hw'.mem _ MemC.out).2) rfl rfl ?_
    intro b2
    rw[hvb,ZqV hYB]
    repeat(refine wkA ?_;intros)
    refine jq (ZgF rfl rfl (by omega)) rfl rfl ?_
    rw[Int.toNat_natCast]
    repeat(refine wkA ?_;intros)
    obtain⟨n,hn⟩:∃n,n=ys0.length:=⟨_,rfl⟩
    obtain⟨m,hm⟩:∃m,xs.length+1=m+n:=⟨xs.length+1-n,by omega⟩
    have em:((xs.length+1:Nat):Int)-(ys0.length:Int)=(m:Int):=by omega
    simp only[em]
    simp only[<-hn]
    refine Zcd (k:= .u32) (B:=4) (m:=m) rfl rfl ⟨by omega,by omega⟩ rfl rfl ?_
    intro bo
    repeat(refine wkA ?_;intros)
    have hki:=Zrj (s:=s) haB (by rw[hn];exact hbl) (by omega) hm hs32
    have hlX:=ZaH (xs.length+1) (a*2 ^ s)
    generalize dgs (a*2 ^ s) (xs.length+1)=Xs at*
    rw[<-hn] at hYB
    have hvY:vd (dgs (b*2 ^ s) n)=b*2 ^ s:=by rw[Zc2,Nat.mod_eq_of_lt hYB]
    have hlY:=ZaH n (b*2 ^ s)
    have hDY:=Za3 n (b*2 ^ s)
    generalize dgs (b*2 ^ s) n=ys at*
    simp only[hm]
    have hYlow:4294967296 ^ (n-1)<=b*2 ^ s:=by
     have h1:b*1<=b*2 ^ s:=Nat.mul_le_mul_left _ hp1
     rw[hn]
     omega
    generalize hY:b*2 ^ s=Y at*
    have hm40:m+n<=1099511627776:=by omega
    clear hvb hDb hva hDa ht hth htl
    refine Zm (S:=Nat×List Nat×List Nat) (fun t=>KI (a*2 ^ s) Y n m t.1 t.2.1 t.2.2)
     (fun t=>[(9, .slice (some ⟨b2,0,none⟩) n (n+1)),(12, .int .i64 s),(13, .slice (some ⟨bx,0,none⟩) (m+n) (m+n)),(14, .int .i64 n),(15, .slice (some ⟨bo,0,none⟩) m m),(16, .int .i64 ((t.1:Int)-1))])
     (fun t=>[⟨bo,dig .u32 t.2.2,365⟩,⟨b2,dig .u32 (ys++[0]),365⟩,⟨bx,dig .u32 t.2.1,365⟩]) (fun t=>t.1) (m,Xs,List.replicate m 0) hki
     (by repeat(first|exact ZQ|refine ZH rfl ?_)) (by repeat(first|exact Wj _|exact Wk _|refine List.Sublist.cons_cons _ ?_|refine List.Sublist.cons _ ?_)) (fun t ht=>?_)
    obtain⟨k,zs,os⟩:=t
    simp only at ht⊢
    repeat(refine wkA ?_;intros)
    refine Zl rfl (fun h=>?_) (fun h=>?_)
    ·have hpos:0<k:=by have:=Wa h;omega
     obtain⟨j,rfl⟩:∃j,k=j+1:=⟨k-1,by omega⟩
     obtain⟨kk,klz,kdz,klo,kdo,kz0,keq,klt⟩:=ht
     have hjn:j+n<zs.length:=by omega
     have hj1:j+n-1<zs.length:=by omega
     have hj2:j+n-2<zs.length:=by omega
     have hy1:n-1<ys.length:=by omega
     have hy2:n-2<ys.length:=by omega
     obtain⟨p0,p1,p2,p3,p4,p5,p6⟩:=ZpF kdz hDY (by omega) hlY hvY hjn klt
     have hz0:=Zax kdz hjn
     have hz1:=Zax kdz hj1
     have hz2:=Zax kdz hj2
     have hv1:=Zax hDY hy1
     have hv2:=Zax hDY hy2
     have g1:zs[j+n]? =some zs[j+n]:=List.getElem?_eq_getElem hjn
     have g2:zs[j+n-1]? =some zs[j+n-1]:=List.getElem?_eq_getElem hj1
     have g3:zs[j+n-2]? =some zs[j+n-2]:=List.getElem?_eq_getElem hj2
     have g4:(ys++[0])[n-1]? =some ys[n-1]:=by rw[List.getElem?_append_left hy1];exact List.getElem?_eq_getElem hy1
     have g5:(ys++[0])[n-2]? =some ys[n-2]:=by rw[List.getElem?_append_left hy2];exact List.getElem?_eq_getElem hy2
     generalize hz0':zs[j+n]=z0 at*
     generalize zs[j+n-1]=z1 at*
     generalize zs[j+n-2]=z2 at*
     generalize ys[n-1]=v1 at*
     generalize ys[n-2]=v2 at*
     have hv10:0<v1:=Zv3 (by omega) hYlow p4 hv2
     have ej:((j+1:Nat):Int)-1=(j:Int):=by omega
     simp only[ej]
     repeat(refine wkA ?_;intros)
     refine jD 18 18 (h:=?_)
     (repeat(refine wkH ?_))
     refine hq (Zac rfl (show zs[0+((j:Int)+(n:Int)).toNat*1]? =some z0 by rw[show 0+((j:Int)+(n:Int)).toNat*1=j+n by omega];exact g1)) rfl rfl ?_
     (repeat(refine wkH ?_))
     refine hq (Zef rfl rfl (by decide)) rfl rfl ?_
     (repeat(refine wkH ?_))
     refine hq (Zac rfl (show zs[0+((j:Int)+(n:Int)-1).toNat*1]? =some z1 by rw[show 0+((j:Int)+(n:Int)-1).toNat*1=j+n-1 by omega];exact g2)) rfl rfl ?_
     (repeat(refine wkH ?_))
     refine hq (Zfo rfl rfl) rfl rfl ?_
     rw[Zgo _ _ hz0 hz1]
     (repeat(refine wkH ?_))
     refine Zn (Zr ?_)
     obtain⟨high,hhigh⟩:∃high,high=z0*4294967296+z1:=⟨_,rfl⟩
     simp only[<-hhigh] at p1 p2⊢
     have hqd:((high:Nat):Int) / (v1:Int)=((high / v1:Nat):Int):=rfl
     have hrd:((high:Nat):Int) % (v1:Int)=((high % v1:Nat):Int):=rfl
     repeat(refine wkA ?_;intros)
     (refine Za9 [0,1,2,3,4,5,6,7,8,9,10,11,12,13,14,15] [16,17] (_) (h:=?_);refine wkI ?_)
     (repeat(refine wkH ?_))
     refine hq (Zac rfl (show(ys++[0])[0+((n:Int)-1).toNat*1]? =some v1 by rw[show 0+((n:Int)-1).toNat*1=n-1 by omega];exact g4)) rfl rfl ?_
     (repeat(refine wkH ?_))
     refine hq (Ziq rfl rfl ?_) rfl rfl ?_
     ·omega
     rw[hqd]
     (repeat(refine wkH ?_))
     refine hq (Zac rfl (show(ys++[0])[0+((n:Int)-1).toNat*1]? =some v1 by rw[show 0+((n:Int)-1).toNat*1=n-1 by omega];exact g4)) rfl rfl ?_
     (repeat(refine wkH ?_))
     refine hq (Zgd rfl rfl ?_) rfl rfl ?_
     ·omega
     rw[hrd]
     (repeat(refine wkH ?_))
     refine Zn ?_
     refine Zbi rfl rfl rfl (Wj _) (Zbi rfl rfl rfl (Wj _) (Zba ?_))
     have hst:=Zlz hv10 hz2 p2 p3
     have hdm:=Nat.div_add_mod high v1
     have hml:=Nat.mod_lt high hv10
     have hgh:high / v1<=high:=Nat.div_le_self _ _
     generalize high / v1=g0 at*
     generalize high % v1=r0 at*
     generalize hU:vd (zs.drop j)=U at*
     refine ZAh (Zm6 ?_)
     refine Zgh (S:=Nat) (fun g=>g<4294967296/\U<(g+1)*Y/\g*Y<=U+Y)
      (fun g=>[(9, .slice (some ⟨b2,0,none⟩) n (n+1)),(12, .int .i64 s),(13, .slice (some ⟨bx,0,none⟩) (m+n) (m+n)),(14, .int .i64 n),(15, .slice (some ⟨bo,0,none⟩) m m),(16, .int .i64 j),(18, .int .u64 g)])
      (fun _=>[⟨bo,dig .u32 os,365⟩,⟨b2,dig .u32 (ys++[0]),365⟩,⟨bx,dig .u32 zs,365⟩]) ?_ (fun g hg=>?_)
     ·repeat(refine wkA ?_;intros)
      refine Zm (S:=Nat×Nat) (fun t=>t.1*v1+t.2=high/\t.1<=high/\t.2<4294967296/\U<(t.1+1)*Y)
       (fun t=>[(9, .slice (some ⟨b2,0,none⟩) n (n+1)),(12, .int .i64 s),(13, .slice (some ⟨bx,0,none⟩) (m+n) (m+n)),(14, .int .i64 n),(15, .slice (some ⟨bo,0,none⟩) m m),(16, .int .i64 j),(18, .int .u64 t.1),(19, .int .u64 t.2)])
       (fun _=>[⟨bo,dig .u32 os,365⟩,⟨b2,dig .u32 (ys++[0]),365⟩,⟨bx,dig .u32 zs,365⟩]) (fun t=>t.1) (g0,r0) ⟨by rw[Nat.mul_comm];exact hdm,hgh,by simp only;omega,hst⟩
       (by repeat(first|exact ZQ|refine ZH rfl ?_)) (Wj _) (fun t ht=>?_)
      obtain⟨g,r⟩:=t
      obtain⟨q1,q2,q3,q4⟩:=ht
      simp only at q1 q2 q3 q4⊢
      refine Zgh (S:=Unit) (fun _=>U<g*Y)
       (fun _=>[(9, .slice (some ⟨b2,0,none⟩) n (n+1)),(12, .int .i64 s),(13, .slice (some ⟨bx,0,none⟩) (m+n) (m+n)),(14, .int .i64 n),(15, .slice (some ⟨bo,0,none⟩) m m),(16, .int .i64 j),(18, .int .u64 g),(19, .int .u64 r)])
       (fun _=>[⟨bo,dig .u32 os,365⟩,⟨b2,dig .u32 (ys++[0]),365⟩,⟨bx,dig .u32 zs,365⟩]) ?_ (fun _ hgr=>?_)
      ·refine Zeq ?_
       rcases Nat.lt_or_ge g 4294967296 with hB|hB
       ·have hdec:decide ((4294967296:Int)<=(g:Int))=false:=We (by omega)
        obtain⟨hw1,hw2⟩:=Zg0 (c:=0) (o:=0) (by omega) (by omega) hB hv2
        refine jD 24 24 (h:=?_)
        (repeat(refine wkH ?_))
        simp only[hdec]
        (repeat(refine wkH ?_))
        refine hq (Zac rfl (show(ys++[0])[0+((n:Int)-2).toNat*1]? =some v2 by rw[show 0+((n:Int)-2).toNat*1=n-2 by omega];exact g5)) rfl rfl ?_
        refine hq (Zhf rfl ?_) rfl rfl ?_
        ·omega
        refine hq (Zif rfl rfl ?_) rfl rfl ?_
        ·rw[<-Int.natCast_mul];omega
        rw[<-Int.natCast_mul]
        (repeat(refine wkH ?_))
        refine hq (Zef rfl rfl (by decide)) rfl rfl ?_
        (repeat(refine wkH ?_))
        refine hq (Zac rfl (show zs[0+((j:Int)+(n:Int)-2).toNat*1]? =some z2 by rw[show 0+((j:Int)+(n:Int)-2).toNat*1=j+n-2 by omega];exact g3)) rfl rfl ?_
        (repeat(refine wkH ?_))
        refine hq (Zfo rfl rfl) rfl rfl ?_
        rw[Zgo _ _ q3 hz2]
        (repeat(refine wkH ?_))
        refine Zn (Zr ?_)
        repeat(refine wkA ?_;intros)
        refine Zl rfl (fun h=>?_) (fun h=>?_)
        ·have hlt:r*4294967296+z2<g*v2:=by have:=Wa h;omega
         repeat(refine wkA ?_;intros)
         exact Zt () (ZnL q1 hlt p2 p3) (by repeat(first|exact ZQ|refine ZH rfl ?_)) (Wj _)
        ·have hle:g*v2<=r*4294967296+z2:=by have:=Wb h;omega
         repeat(refine wkA ?_;intros)
         exact Zt g ⟨hB,q4,ZiQ hv10 q1 hle hB p1 (Nat.le_of_lt p4) p3⟩ (by repeat(first|exact ZQ|refine ZH rfl ?_)) (Wj _)
       ·have hdec:decide ((4294967296:Int)<=(g:Int))=true:=Wc (by omega)
        refine jD 24 24 (h:=?_)
        (repeat(refine wkH ?_))
        simp only[hdec]
        (repeat(refine wkH ?_))
        refine Zn (Zr ?_)
        repeat(refine wkA ?_;intros)
        exact Zt () (Nat.lt_of_lt_of_le p6 (Nat.mul_le_mul_right _ hB)) (by repeat(first|exact ZQ|refine ZH rfl ?_)) (Wj _)
      ·have hg1:1<=g:=by
        rcases Nat.eq_zero_or_pos g with h0|h0
        ·subst h0;omega
        ·exact h0
       obtain⟨g',rfl⟩:∃g',g=g'+1:=⟨g-1,by omega⟩
       have hwr:IntKind.u64.wrap (((g'+1:Nat):Int)-1)=(g':Int):=by rw[IntWalk.u64_in _ (by omega)];omega
       rw[Nat.add_mul,Nat.one_mul] at q1
       have q1':g'*v1+(r+v1)=high:=by omega
       repeat(refine wkA ?_;intros)
       simp only[hwr]
       refine jq (Zac rfl (show(ys++[0])[0+((n:Int)-1).toNat*1]? =some v1 by rw[show 0+((n:Int)-1).toNat*1=n-1 by omega];exact g4)) rfl rfl ?_
       repeat(refine wkA ?_;intros)
       refine Zl rfl (fun h=>?_) (fun h=>?_)
       ·have hbig:4294967296<=r+v1:=by have:=Wa h;omega
        have hB:g'<4294967296:=by
         rcases Nat.lt_or_ge g' 4294967296 with h1|h1
         ·exact h1
         ·have:=Zpe (q1'.trans hhigh) p5 hz1 h1
          omega
        have hle:g'*v2<=(r+v1)*4294967296+z2:=by
         have h1:g'*v2<=4294967296*4294967296:=Nat.mul_le_mul (by omega) (by omega)
         omega
        repeat(refine wkA ?_;intros)
        exact Zt g' ⟨hB,hgr,ZiQ hv10 q1' hle hB p1 (Nat.le_of_lt p4) p3⟩ (by repeat(first|exact ZQ|refine ZH rfl ?_)) (Wj _)
       ·have hsm:r+v1<4294967296:=by have:=Wb h;omega
        repeat(refine wkA ?_;intros)
        exact Zh (g',r+v1) ⟨q1',by simp only;omega,hsm,hgr⟩ (by repeat(first|exact ZQ|refine ZH rfl ?_)) (Wj _) (by simp only;omega)
     ·obtain⟨hgB,hgU,hgY⟩:=hg
      repeat(refine wkA ?_;intros)
      refine Zm (S:=Nat×List Nat×Nat×Nat) (fun t=>t.1<=n/\Same zs t.2.1 j n/\t.2.1[j+n]? =some z0/\t.2.2.1<4294967296/\t.2.2.2<=1/\vd t.2.1+g*vd (ys.take t.1)*4294967296 ^ j=vd zs+(t.2.2.1+t.2.2.2)*4294967296 ^ (t.1+j))
       (fun t=>[(9, .slice (some ⟨b2,0,none⟩) n (n+1)),(12, .int .i64 s),(13, .slice (some ⟨bx,0,none⟩) (m+n) (m+n)),(14, .int .i64 n),(15, .slice (some ⟨bo,0,none⟩) m m),(16, .int .i64 j),(18, .int .u64 g),(20, .int .i64 t.2.2.2),(21, .int .u64 t.2.2.1),(167, .int .i64 n),(168, .int .i64 t.1)])
       (fun t=>[⟨bo,dig .u32 os,365⟩,⟨b2,dig .u32 (ys++[0]),365⟩,⟨bx,dig .u32 t.2.1,365⟩]) (fun t=>n-t.1) (0,zs,0,0) ⟨Wm _,ZqO kdz,g1,by simp,by simp,by simp[vd]⟩
       (by repeat(first|exact ZQ|refine ZH rfl ?_)) (Wj _) (fun t ht=>?_)
      obtain⟨i,zq,c,bw⟩:=t
      obtain⟨hi,hsm,hzt,hc,hbw,hinv⟩:=ht
      simp only at hi hsm hzt hc hbw hinv⊢
      repeat(refine wkA ?_;intros)
      refine Zl rfl (fun h=>?_) (fun h=>?_)
      ·have hin:i<n:=by have:=Wa h;omega
       have hiy:i<ys.length:=by omega
       have hiz:i+j<zq.length:=by rw[hsm.len];omega
       have hdy:=Zax hDY hiy
       have hdz:=Zax hsm.dg hiz
       obtain⟨hw1,hw2⟩:=Zg0 (o:=0) hc (by omega) hgB hdy
       obtain⟨T,hT⟩:∃T,T=c+g*ys[i]:=⟨_,rfl⟩
       repeat(refine wkA ?_;intros)
       refine jq (Zac rfl (show(ys++[0])[0+(i:Int).toNat*1]? =some ys[i] by rw[show 0+(i:Int).toNat*1=i by omega,List.getElem?_append_left hiy];exact List.getElem?_eq_getElem hiy)) rfl rfl ?_
       refine jq (Zhf rfl ?_) rfl rfl ?_
       ·omega
       refine jq (Zif rfl rfl ?_) rfl rfl ?_
       ·rw[<-Int.natCast_mul];omega
       rw[<-Int.natCast_mul]
       repeat(refine wkA ?_;intros)
       rw[show(c:Int)+((g*ys[i]:Nat):Int)=(T:Int) by omega]
       refine jq (Zac rfl (show zq[0+((i:Int)+(j:Int)).toNat*1]? =some zq[i+j] by rw[show 0+((i:Int)+(j:Int)).toNat*1=i+j by omega];exact List.getElem?_eq_getElem hiz)) rfl rfl ?_
       refine jq (Zmf rfl ?_) rfl rfl ?_
       ·omega
       refine jq (Zgp rfl) rfl rfl ?_
       refine jq (ZjD rfl rfl ?_) rfl rfl ?_
       ·omega
       refine jq (Zgp rfl) rfl rfl ?_
       refine jq (Zjq rfl) rfl rfl ?_
       rw[IntKind.wrap_u32,show(T:Int) % 4294967296=((T % 4294967296:Nat):Int) by omega]
       repeat(refine wkA ?_;intros)
       refine jq (Zcu rfl rfl (by decide)) rfl rfl ?_
       rw[p32,show(T:Int) / 4294967296=((T / 4294967296:Nat):Int) by omega]
       repeat(refine wkA ?_;intros)
       refine Zl rfl (fun h=>?_) (fun h=>?_)
       ·have hneg:(zq[i+j]:Int)-bw-((T % 4294967296:Nat):Int)<0:=Wa h
        obtain⟨r,hr⟩:∃r:Nat,(r:Int)=(zq[i+j]:Int)-bw-((T % 4294967296:Nat):Int)+4294967296:=⟨((zq[i+j]:Int)-bw-((T % 4294967296:Nat):Int)+4294967296).toNat,by omega⟩
        have gs:=Zi5 (b':=1) hiy hiz hT (by omega:r+bw+T % 4294967296=zq[i+j]+1*4294967296) hinv
        repeat(refine wkA ?_;intros)
        simp only[<-hr]
        refine ZaA rfl rfl (by omega) rfl ?_
        rw[show 0+((i:Int)+(j:Int)).toNat*1=i+j by omega]
        repeat(refine wkA ?_;intros)
        exact Zh (i+1,_,T / 4294967296,1) ⟨hin,hsm.set _ _ (by omega) (by omega) (by omega),by simp only;rw[List.getElem?_set_ne (by omega)];exact hzt,by simp only;omega,by simp,gs⟩ (by repeat(first|exact ZQ|refine ZH rfl ?_)) (Wj _) (by simp only;omega)
       ·have hneg:¬(zq[i+j]:Int)-bw-((T % 4294967296:Nat):Int)<0:=Wb h
        obtain⟨r,hr⟩:∃r:Nat,(r:Int)=(zq[i+j]:Int)-bw-((T % 4294967296:Nat):Int):=⟨((zq[i+j]:Int)-bw-((T % 4294967296:Nat):Int)).toNat,by omega⟩
        have gs:=Zi5 (b':=0) hiy hiz hT (by omega:r+bw+T % 4294967296=zq[i+j]+0*4294967296) hinv
        simp only[<-hr]
        repeat(refine wkA ?_;intros)
        refine ZaA rfl rfl (by omega) rfl ?_
        rw[show 0+((i:Int)+(j:Int)).toNat*1=i+j by omega]
        repeat(refine wkA ?_;intros)
        exact Zh (i+1,_,T / 4294967296,0) ⟨hin,hsm.set _ _ (by omega) (by omega) (by omega),by simp only;rw[List.getElem?_set_ne (by omega)];exact hzt,by simp only;omega,by simp,gs⟩ (by repeat(first|exact ZQ|refine ZH rfl ?_)) (Wj _) (by simp only;omega)
      ·have hgei:i=n:=by have:=Wb h;omega
       subst hgei
       have hjz:j+i<zq.length:=by rw[hsm.len];exact hjn
       obtain⟨e,β,hβ,heB,hee⟩:∃e β:Nat,β<=1/\e<4294967296/\e+bw+c=z0+β*4294967296:=by
        by_cases hlt:z0<bw+c
        ·exact⟨z0+4294967296-bw-c,1,by omega,by omega,by omega⟩
        ·exact⟨z0-bw-c,0,by omega,by omega,by omega⟩
       have hwe:IntKind.u32.wrap ((z0:Int)-bw-c)=(e:Int):=by rw[IntKind.wrap_u32];omega
       have hzv:zq[j+i]=z0:=by rw[List.getElem?_eq_getElem hjz] at hzt;exact Option.some.inj hzt
       repeat(refine wkA ?_;intros)
       refine jq (Zac rfl (show zq[0+((j:Int)+(i:Int)).toNat*1]? =some z0 by rw[show 0+((j:Int)+(i:Int)).toNat*1=j+i by omega];exact hzt)) rfl rfl ?_
       repeat(refine wkA ?_;intros)
       rw[hwe]
       refine ZaA rfl rfl (by omega) rfl ?_
       rw[show 0+((j:Int)+(i:Int)).toNat*1=j+i by omega]
       have hs2:=hsm.set (j+i) e (by omega) (by omega) heB
       have hsub:=Zpt hsm hjn hlY hvY hinv hzv hee rfl hs2
       have h2s:=hs2.small hjn p0
       have hge:(zq.set (j+i) e)[j+i]? =some e:=by rw[List.getElem?_set_self hjz]
       generalize zq.set (j+i) e=zw at*
       rw[hU] at hsub
       repeat(refine wkA ?_;intros)
       refine Zav (S:=Nat×List Nat) (fun t=>Same zs t.2 j i/\U=vd (t.2.drop j)+t.1*Y/\vd (t.2.drop j)<Y/\t.1<4294967296)
        (fun t=>[(9, .slice (some ⟨b2,0,none⟩) i (i+1)),(12, .int .i64 s),(13, .slice (some ⟨bx,0,none⟩) (m+i) (m+i)),(14, .int .i64 i),(15, .slice (some ⟨bo,0,none⟩) m m),(16, .int .i64 j),(18, .int .u64 t.1)])
        (fun t=>[⟨bo,dig .u32 os,365⟩,⟨b2,dig .u32 (ys++[0]),365⟩,⟨bx,dig .u32 t.2,365⟩]) ?_ (fun t ht=>?_)
       ·refine Zl rfl (fun h=>?_) (fun h=>?_)
        ·have hneg:(z0:Int)-bw-c<0:=Wa h
         have hβ1:β=1:=by omega
         subst hβ1
         have hg1:0<g:=by
          rcases Nat.eq_zero_or_pos g with h0|h0
          ·subst h0;omega
          ·exact h0
         have hwr:IntKind.u64.wrap ((g:Int)-1)=((g-1:Nat):Int):=by rw[IntWalk.u64_in _ (by omega)];omega
         repeat(refine wkA ?_;intros)
         simp only[hwr]
         refine Zm (S:=Nat×List Nat×Nat) (fun t=>t.1<=i/\Same zs t.2.1 j i/\t.2.1[j+i]? =some e/\t.2.2<=1/\vd t.2.1+t.2.2*4294967296 ^ (t.1+j)=vd zw+vd (ys.take t.1)*4294967296 ^ j)
          (fun t=>[(9, .slice (some ⟨b2,0,none⟩) i (i+1)),(12, .int .i64 s),(13, .slice (some ⟨bx,0,none⟩) (m+i) (m+i)),(14, .int .i64 i),(15, .slice (some ⟨bo,0,none⟩) m m),(16, .int .i64 j),(18, .int .u64 ((g-1:Nat):Int)),(25, .int .u64 t.2.2),(230, .int .i64 i),(231, .int .i64 t.1)])
          (fun t=>[⟨bo,dig .u32 os,365⟩,⟨b2,dig .u32 (ys++[0]),365⟩,⟨bx,dig .u32 t.2.1,365⟩]) (fun t=>i-t.1) (0,zw,0) ⟨Wm _,hs2,hge,by simp,by simp[vd]⟩
          (by repeat(first|exact ZQ|refine ZH rfl ?_)) (Wj _) (fun t ht=>?_)
         obtain⟨k,z3,c3⟩:=t
         obtain⟨hk,hs3,he3,hc3,hin3⟩:=ht
         simp only at hk hs3 he3 hc3 hin3⊢
         repeat(refine wkA ?_;intros)
         refine Zl rfl (fun h=>?_) (fun h=>?_)
         ·have hkn:k<i:=by have:=Wa h;omega
          have hky:k<ys.length:=by omega
          have hkz:k+j<z3.length:=by rw[hs3.len];omega
          have hdy:=Zax hDY hky
          have hdz:=Zax hs3.dg hkz
          obtain⟨T,hT⟩:∃T,T=c3+(z3[k+j]+ys[k]):=⟨_,rfl⟩
          repeat(refine wkA ?_;intros)
          refine jD 16 16 (h:=?_)
          (repeat(refine wkH ?_))
          refine hq (Zac rfl (show z3[0+((k:Int)+(j:Int)).toNat*1]? =some z3[k+j] by rw[show 0+((k:Int)+(j:Int)).toNat*1=k+j by omega];exact List.getElem?_eq_getElem hkz)) rfl rfl ?_
          (repeat(refine wkH ?_))
          refine hq (Zac rfl (show(ys++[0])[0+(k:Int).toNat*1]? =some ys[k] by rw[show 0+(k:Int).toNat*1=k by omega,List.getElem?_append_left hky];exact List.getElem?_eq_getElem hky)) rfl rfl ?_
          (repeat(refine wkH ?_))
          refine Zn (Zr ?_)
          rw[show(c3:Int)+((z3[k+j]:Nat)+(ys[k]:Nat))=(T:Int) by omega]
          repeat(refine wkA ?_;intros)
          refine jq (Zcu rfl rfl (by decide)) rfl rfl ?_
          repeat(refine wkA ?_;intros)
          rw[p32,IntKind.wrap_u32,show(T:Int) % 4294967296=((T % 4294967296:Nat):Int) by omega,show(T:Int) / 4294967296=((T / 4294967296:Nat):Int) by omega]
          refine ZaA rfl rfl (by omega) rfl ?_
          rw[show 0+((k:Int)+(j:Int)).toNat*1=k+j by omega]
          have gs:=Zpa hky hkz hT hin3
          repeat(refine wkA ?_;intros)
          exact Zh (k+1,_,T / 4294967296) ⟨hkn,hs3.set _ _ (by omega) (by omega) (Nat.mod_lt _ (by omega)),by simp only;rw[List.getElem?_set_ne (by omega)];exact he3,by simp only;omega,gs⟩ (by repeat(first|exact ZQ|refine ZH rfl ?_)) (Wj _) (by simp only;omega)
         ·have hki:k=i:=by have:=Wb h;omega
          subst hki
          have hjz3:j+k<z3.length:=by rw[hs3.len];exact hjn
          have hzv3:z3[j+k]=e:=by rw[List.getElem?_eq_getElem hjz3] at he3;exact Option.some.inj he3
          repeat(refine wkA ?_;intros)
          refine jq (Zac rfl (show z3[0+((j:Int)+(k:Int)).toNat*1]? =some e by rw[show 0+((j:Int)+(k:Int)).toNat*1=j+k by omega];exact he3)) rfl rfl ?_
          repeat(refine wkA ?_;intros)
          rw[IntKind.wrap_u32,show((e:Int)+c3) % 4294967296=(((e+c3) % 4294967296:Nat):Int) by omega]
          refine ZaA rfl rfl (by omega) rfl ?_
          rw[show 0+((j:Int)+(k:Int)).toNat*1=j+k by omega]
          have hs4:=hs3.set (j+k) ((e+c3) % 4294967296) (by omega) (by omega) (Nat.mod_lt _ (by omega))
          have hadd:=Zpg (o:=(e+c3) / 4294967296) hs2 hs3 hjn hlY hvY hin3 hzv3 (by omega) rfl hs4
          have hback:=Zny hsub hgY h2s (hs4.small hjn p0) (by omega) hadd hg1
          repeat(refine wkA ?_;intros)
          exact Zt (g-1,_) ⟨hs4,hback.1,hback.2,by simp only;omega⟩ (by repeat(first|exact ZQ|refine ZH rfl ?_)) (Wj _)
        ·have hneg:¬(z0:Int)-bw-c<0:=Wb h
         have hβ0:β=0:=by omega
         subst hβ0
         have hri:=ZlO hsub hgU
         repeat(refine wkA ?_;intros)
         exact Zt (g,zw) ⟨hs2,hri.1,hri.2,hgB⟩ (by repeat(first|exact ZQ|refine ZH rfl ?_)) (Wj _)
       ·obtain⟨q,z'⟩:=t
        obtain⟨hs',hUq,hlt',hqB⟩:=ht
        simp only at hs' hUq hlt' hqB⊢
        repeat(refine wkA ?_;intros)
        refine ZaA rfl rfl (by omega) rfl ?_
        rw[show 0+(j:Int).toNat*1=j by omega]
        repeat(refine wkA ?_;intros)
        have hjo:j<os.length:=by omega
        have hoj:os[j]=0:=by
         have:=kz0 j (by omega)
         rw[List.getElem?_eq_getElem hjo] at this
         exact Option.some.inj this
        exact Zh (j,z',os.set j q) ⟨by simp only;omega,by simp only;rw[hs'.len];exact klz,hs'.dg,by simp only[List.length_set];exact klo,Zb8 kdo _ _ hqB,fun i' hi'=>by
         simp only at hi'⊢
         rw[List.getElem?_set_ne (by omega)]
         exact kz0 i' (by omega),Zot hs' (by omega) hjo hoj keq (by rw[hU];exact hUq),hlt'⟩ (by repeat(first|exact ZQ|refine ZH rfl ?_)) (Wj _) (by simp only;omega)
    ·have hk0:k=0:=by have:=Wb h;omega
     subst hk0
     obtain⟨kk,klz,kdz,klo,kdo,kz0,keq,klt⟩:=ht
     rw[List.drop_zero,<-hY] at klt
     rw[<-hY] at keq
     obtain⟨hquo,hrem⟩:=Zt0 keq klt
     obtain⟨W,hW⟩:∃W,W=a % b:=⟨_,rfl⟩
     rw[<-hW] at hrem
     have hWB:W<4294967296 ^ n:=by
      have h1:=Nat.mod_lt a (Nat.pos_of_ne_zero hb0)
      rw[hn]
      omega
     have hvW:vd (dgs W n)=W:=by rw[Zc2,Nat.mod_eq_of_lt hWB]
     have hlW:=ZaH n W
     have hDW:=Za3 n W
     generalize dgs W n=ws at*
     repeat(refine wkA ?_;intros)
     refine Zcd (k:= .u32) (B:=4) (m:=n) rfl rfl ⟨by omega,by omega⟩ rfl rfl ?_
     intro br
     repeat(refine wkA ?_;intros)
     refine Zm (S:=Nat) (fun i=>i<=n)
      (fun i=>[(12, .int .i64 s),(13, .slice (some ⟨bx,0,none⟩) (m+n) (m+n)),(15, .slice (some ⟨bo,0,none⟩) m m),(27, .slice (some ⟨br,0,none⟩) n n),(276, .int .i64 n),(277, .int .i64 i)])
      (fun i=>[⟨br,dig .u32 (ws.take i++List.replicate (n-i) 0),365⟩,⟨bo,dig .u32 os,365⟩,⟨bx,dig .u32 zs,365⟩]) (fun i=>n-i) 0 (Wm _)
      (by repeat(first|exact ZQ|refine ZH rfl ?_)) (by repeat(first|exact Wj _|exact Wk _|refine List.Sublist.cons_cons _ ?_|refine List.Sublist.cons _ ?_)) (fun i hi=>?_)
     repeat(refine wkA ?_;intros)
     refine Zl rfl (fun h=>?_) (fun h=>?_)
     ·have hin:i<n:=by have:=Wa h;omega
      have h1z:i+1<zs.length:=by omega
      have h0z:i<zs.length:=by omega
      have hd1:=Zax kdz h1z
      have hd0:=Zax kdz h0z
      have hdig:=Zoo kdz hrem h1z hs32
      have hwi:=ZeY ws hDW i (by omega)
      rw[hvW] at hwi
      rw[hwi] at hdig
      have hrow:=ZsQ hlW hin
      obtain⟨N,hN⟩:∃N,N=(zs[i+1]*4294967296+zs[i]) / 2 ^ s:=⟨_,rfl⟩
      have hNi:((zs[i+1]*4294967296+zs[i]:Nat):Int) / ((2 ^ s:Nat):Int)=(N:Int):=by rw[hN];rfl
      rw[<-hN] at hdig
      have hlen:(ws.take i++List.replicate (n-i) 0).length=n:=by rw[Wp,Wt,List.length_replicate];omega
      repeat(refine wkA ?_;intros)
      refine jD 19 19 (h:=?_)
      (repeat(refine wkH ?_))
      refine hq (Zac rfl (show zs[0+((i:Int)+1).toNat*1]? =some zs[i+1] by rw[show 0+((i:Int)+1).toNat*1=i+1 by omega];exact List.getElem?_eq_getElem h1z)) rfl rfl ?_
      (repeat(refine wkH ?_))
      refine hq (Zef rfl rfl (by decide)) rfl rfl ?_
      (repeat(refine wkH ?_))
      refine hq (Zac rfl (show zs[0+(i:Int).toNat*1]? =some zs[i] by rw[show 0+(i:Int).toNat*1=i by omega];exact List.getElem?_eq_getElem h0z)) rfl rfl ?_
      (repeat(refine wkH ?_))
      refine hq (Zfo rfl rfl) rfl rfl ?_
      rw[Zgo _ _ hd1 hd0]
      (repeat(refine wkH ?_))
      refine hq (Zcu rfl rfl (by simp only[IntKind.bits];omega)) rfl rfl ?_
      rw[pow2i,hNi]
      refine hq (Zjq rfl) rfl rfl ?_
      rw[IntKind.wrap_u32,show(N:Int) % 4294967296=((N % 4294967296:Nat):Int) by omega,hdig]
      (repeat(refine wkH ?_))
      refine Zn (Zr ?_)
      repeat(refine wkA ?_;intros)
      refine ZaA rfl rfl (by omega) rfl ?_
      rw[show 0+(i:Int).toNat*1=i by omega,hrow]
      repeat(refine wkA ?_;intros)
      exact Zh (i+1) hin (by repeat(first|exact ZQ|refine ZH rfl ?_)) (Wj _) (by omega)
     ·have hge':i=n:=by have:=Wb h;omega
      subst hge'
      have e1:os.take m=os:=List.take_of_length_le (by omega)
      have e3:ws.take i++List.replicate (i-i) 0=ws:=by
       rw[Nat.sub_self,List.replicate_zero,Wh]
       exact List.take_of_length_le (by omega)
      have e2:(ws.take i++List.replicate (i-i) 0).take i=ws:=by
       rw[e3]
       exact List.take_of_length_le (by omega)
      repeat(refine wkA ?_;intros)
      refine jq (ZbU rfl (fun w' hw'=>Zcm bo m m os (0,0) (by omega) (Wl _) (by omega) kdo w' (hw'.mem _ MemC.out).2)) rfl rfl ?_
      rw[e1,hquo]
      repeat(refine wkA ?_;intros)
      refine jq (ZbU rfl (fun w' hw'=>Zcm br i i (ws.take i++List.replicate (i-i) 0) (0,0) (by rw[e3];omega) (Wl _) (by omega) (by rw[e3];exact hDW) w' (hw'.mem _ MemC.out).2)) rfl rfl ?_
      rw[e2,hvW,hW]
      repeat(refine wkA ?_;intros)
      exact ZA rfl (Zk rfl) (Zk rfl) (fun w hw=>ZZ hw)
end Go.Vt
