/- that the gaps between reports are those of the chain (part 6 of 32.) Conditions: those that each statement names. -/
import Derived.Test.YtjicdlilgjdefaaGreatDoorKG3
import Derived.Test.YtjicdlilgjdefaaGreatDoorKG5
set_option linter.unusedSimpArgs false
set_option linter.unusedVariables false
set_option maxHeartbeats 2000000
set_option maxRecDepth 100000
namespace Go.Vt
open Go.RowKit Go.Proofs
open Go.Proofs.Tryz (prog)
section
theorem Zkv {os ys:List Nat}{i c r c' a T y:Nat}(hi:i<os.length)(hr:r+c+y=os[i]+c'*4294967296)(hS:vd os+T=a+vd (ys.drop i)*4294967296 ^ i+c*4294967296 ^ i)(hdr:vd (ys.drop i)=y+4294967296*vd (ys.drop (i+1))):
  vd (os.set i r)+T=a+vd (ys.drop (i+1))*4294967296 ^ (i+1)+c'*4294967296 ^ (i+1):=by
 have hs:=Zbv os i r hi
 rw[hdr] at hS
 rw[show(4294967296:Nat) ^ (i+1)=4294967296 ^ i*4294967296 from Nat.pow_succ _ _]
 generalize (4294967296:Nat) ^ i=p at*
 have e:(r+c+y)*p=(os[i]+c'*4294967296)*p:=by rw[hr]
 rw[Nat.add_mul,Nat.add_mul,Nat.add_mul,Nat.mul_comm c' 4294967296,Nat.mul_assoc] at e
 rw[Nat.add_mul,Nat.mul_assoc] at hS
 have e1:c'*(p*4294967296)=4294967296*(c'*p):=by rw[Nat.mul_comm p,<-Nat.mul_assoc,Nat.mul_comm c',Nat.mul_assoc]
 have e2:vd (ys.drop (i+1))*(p*4294967296)=4294967296*(vd (ys.drop (i+1))*p):=by rw[Nat.mul_comm p,<-Nat.mul_assoc,Nat.mul_comm (vd _) 4294967296,Nat.mul_assoc]
 rw[e1,e2]
 omega
theorem Zch {a b:Nat}(h:b<=a):(mag b).size<=(mag a).size:=by
 rw[ZaS]
 exact Nat.lt_of_le_of_lt h (ZaS.1 (Wl _))
theorem ZrF (a b:Nat)(ha:(mag a).size<=1099511627776)(hba:b<=a)(w:World):Calls prog 196 [.string (mag a), .string (mag b)].toArray w (Ret (.string (mag (a-b))) w):=by
 have hb:(mag b).size<=1099511627776:=Wi (Zch hba) ha
 refine Zg Tryz.func196 rfl Tryz.ntmps196 rfl ?_
 refine Zeq (Zfm ?_)
 repeat(first|refine sX rfl rfl ?_|(refine sS rfl rfl ?_ ?_;focus omega)|(refine sC rfl rfl ?_ ?_;focus(first|exact trivial|assumption|constructor <;> assumption|exact mb2 rfl rfl|exact mb4 rfl rfl rfl rfl))|(refine sA rfl rfl ?_;intro _)|refine sT rfl ?_|refine sW rfl rfl ?_|refine sK rfl rfl ?_|refine cY ?_|refine pkT rfl rfl rfl rfl ?_|refine pkF rfl rfl rfl rfl ?_)
 refine Zgh (S:=Unit) (fun _=>True) (fun _=>[(0, .string (mag a)),(1, .string (mag b))]) (fun _=>[]) ?_ (fun _ _=>?_)
 ·repeat(refine wkA ?_;intros)
  refine Zl rfl (fun h=>?_) (fun h=>?_)
  ·rw[Wq] at h
   have h1:=Zdl h.1
   have h2:=Zdl h.2
   have h3:=Zdm a
   have h4:=Zdm b
   rw[h1] at h3
   rw[h2] at h4
   simp only[h1,h2]
   repeat(first|(refine wkA ?_;intros)|(refine sC rfl rfl ?_ ?_;focus(exact⟨h3,h4⟩)))
   rw[IntWalk.u64_in _ (by omega),show(a:Int)-b=((a-b:Nat):Int) by omega]
   repeat(first|(refine wkA ?_;intros)|(refine sC rfl rfl ?_ ?_;focus(omega)))
   exact rtT rfl rfl
  ·repeat(refine wkA ?_;intros)
   exact Zt () trivial (by repeat(first|exact ZQ|refine ZH rfl ?_)) (Wj _)
 ·repeat(refine wkA ?_;intros)
  refine Zbm rfl (fun w' _=>Za1 a ha w') rfl rfl ?_
  intro bx
  repeat(refine wkA ?_;intros)
  refine Zbm rfl (fun w' _=>Za1 b hb w') rfl rfl ?_
  intro bY
  repeat(refine wkA ?_;intros)
  obtain⟨na,hna⟩:∃na,na=((mag a).size+3) / 4:=⟨_,rfl⟩
  obtain⟨nb,hnb⟩:∃nb,nb=((mag b).size+3) / 4:=⟨_,rfl⟩
  have hva:vd (dgs a na)=a:=by rw[hna,Zbe]
  have hvb:vd (dgs b nb)=b:=by rw[hnb,Zbe]
  have hla:=ZaH na a
  have hlb:=ZaH nb b
  have hDx:=Za3 na a
  have hDy:=Za3 nb b
  have hle:nb<=na:=by have:=Zch hba;omega
  simp only[<-hna,<-hnb]
  generalize dgs a na=xs at*
  generalize dgs b nb=ys at*
  subst hla
  subst hlb
  refine Zcd (k:= .u32) (B:=4) (m:=xs.length) rfl rfl ⟨by omega,by omega⟩ rfl rfl ?_
  intro bo
  repeat(refine wkA ?_;intros)
  refine ZkK (k:= .u32) rfl rfl (by simp) (Wl _) rfl rfl ?_
  have e1:xs.take (min xs.length xs.length)++(List.replicate xs.length 0).drop (min xs.length xs.length)=xs:=by
   rw[Nat.min_self,List.take_of_length_le (Wl _),List.drop_replicate,Nat.sub_self]
   simp
  simp only[e1]
  repeat(refine wkA ?_;intros)
  refine Zm (S:=Nat×List Nat×Nat) (fun s=>s.1<=xs.length/\s.2.1.length=xs.length/\Dg s.2.1/\s.2.2<=1/\vd s.2.1+b=a+vd (ys.drop s.1)*4294967296 ^ s.1+s.2.2*4294967296 ^ s.1)
   (fun s=>[(9, .slice (some ⟨bY,0,none⟩) ys.length ys.length),(10, .slice (some ⟨bo,0,none⟩) xs.length xs.length),(11, .int .i64 s.2.2),(37, .int .i64 (xs.length:Int)),(38, .int .i64 s.1)])
   (fun s=>[⟨bo,dig .u32 s.2.1,365⟩,⟨bY,dig .u32 ys,365⟩,⟨bx,dig .u32 xs,365⟩]) (fun s=>xs.length-s.1) (0,xs,0)
   ⟨by simp,by simp,hDx,by simp,by simp[hva,hvb]⟩ (by repeat(first|exact ZQ|refine ZH rfl ?_)) (Wj _) (fun s hs=>?_)
  obtain⟨i,os,c⟩:=s
  obtain⟨hi,hlo,hDo,hc,hinv⟩:=hs
  simp only at hi hlo hDo hc hinv⊢
  repeat(refine wkA ?_;intros)
  refine Zl rfl (fun h=>?_) (fun h=>?_)
  ·have hlt:i<xs.length:=by have:=Wa h;omega
   have hio:i<os.length:=by omega
   have hdo:=Zax hDo hio
   repeat(refine wkA ?_;intros)
   refine jq (Zac rfl (show os[0+(i:Int).toNat*1]? =some os[i] by rw[show 0+(i:Int).toNat*1=i by omega];simp[hio])) rfl rfl ?_
   repeat(refine wkA ?_;intros)
   refine Zav (S:=Int) (fun s=>∃y:Nat,s=(os[i]:Int)-c-y/\y<4294967296/\vd (ys.drop i)=y+4294967296*vd (ys.drop (i+1)))
    (fun s=>[(9, .slice (some ⟨bY,0,none⟩) ys.length ys.length),(10, .slice (some ⟨bo,0,none⟩) xs.length xs.length),(12, .int .i64 i),(13, .int .i64 s),(37, .int .i64 (xs.length:Int)),(38, .int .i64 i)])
    (fun s=>[⟨bo,dig .u32 os,365⟩,⟨bY,dig .u32 ys,365⟩,⟨bx,dig .u32 xs,365⟩]) ?_ (fun d hd=>?_)
   ·refine Zl rfl (fun h=>?_) (fun h=>?_)
    ·have hiy:i<ys.length:=by have:=Wa h;omega
     have hdy:=Zax hDy hiy
     repeat(refine wkA ?_;intros)
     refine jq (Zac rfl (show ys[0+(i:Int).toNat*1]? =some ys[i] by rw[show 0+(i:Int).toNat*1=i by omega];simp[hiy])) rfl rfl ?_
     repeat(refine wkA ?_;intros)
     exact Zt _ ⟨ys[i],rfl,hdy,ZeJ ys i hiy⟩ (by repeat(first|exact ZQ|refine ZH rfl ?_)) (Wj _)
    ·have hiy:ys.length<=i:=by have:=Wb h;omega
     repeat(refine wkA ?_;intros)
     exact Zt ((os[i]:Int)-c) ⟨0,by simp,by omega,by rw[ZbY ys i hiy,ZbY ys (i+1) (by omega)]⟩ (by repeat(first|exact ZQ|refine ZH rfl ?_)) (Wj _)
   ·obtain⟨y,hdv,hy,hdr⟩:=hd
    repeat(refine wkA ?_;intros)
    refine Zl rfl (fun h=>?_) (fun h=>?_)
    ·have hneg:d<0:=Wa h
     obtain⟨r,hr⟩:∃r:Nat,(r:Int)=d+4294967296:=⟨(d+4294967296).toNat,by omega⟩
     have g:=Zkv (r:=r) (c':=1) hio (by omega) hinv hdr
     repeat(refine wkA ?_;intros)
     simp only[<-hr]
     repeat(refine wkA ?_;intros)
     refine ZaA rfl rfl (by omega) rfl ?_
     rw[show 0+(i:Int).toNat*1=i by omega]
     repeat(refine wkA ?_;intros)
     exact Zh (i+1,_,1) ⟨hlt,by rw[List.length_set];exact hlo,Zb8 hDo _ _ (by omega),by simp,g⟩ (by repeat(first|exact ZQ|refine ZH rfl ?_)) (Wj _) (by simp only;omega)
    ·have hneg:¬d<0:=Wb h
     obtain⟨r,hr⟩:∃r:Nat,(r:Int)=d:=⟨d.toNat,by omega⟩
     have g:=Zkv (r:=r) (c':=0) hio (by omega) hinv hdr
     simp only[<-hr]
     repeat(refine wkA ?_;intros)
     refine ZaA rfl rfl (by omega) rfl ?_
     rw[show 0+(i:Int).toNat*1=i by omega]
     repeat(refine wkA ?_;intros)
     exact Zh (i+1,_,0) ⟨hlt,by rw[List.length_set];exact hlo,Zb8 hDo _ _ (by omega),by simp,g⟩ (by repeat(first|exact ZQ|refine ZH rfl ?_)) (Wj _) (by simp only;omega)
  ·have hge:i=xs.length:=by have:=Wb h;omega
   subst hge
   repeat(refine wkA ?_;intros)
   have hfin:vd (os.take xs.length)=a-b:=by
    rw[List.take_of_length_le (by omega)]
    rw[ZbY ys _ (by omega)] at hinv
    have h1:=ZbC hDo
    rw[hlo] at h1
    have hc':c=0\/c=1:=by omega
    rcases hc' with rfl|rfl
    ·omega
    ·omega
   refine jq (ZbU rfl (fun w' hw'=>Zcm bo xs.length xs.length os (0,0) (by omega) (Wl _) (by omega) hDo w' (hw'.mem _ MemC.out).2)) rfl rfl ?_
   rw[hfin]
   repeat(refine wkA ?_;intros)
   exact rtT rfl rfl
end
section
theorem ZsJ {os ys:List Nat}{i k c d M t:Nat}(hk:k<ys.length)(hi:i+k<os.length)(ht:t=c+(os[i+k]+d*ys[k]))(hS:vd os+c*4294967296 ^ (i+k)=M+d*vd (ys.take k)*4294967296 ^ i):
  vd (os.set (i+k) (t % 4294967296))+t / 4294967296*4294967296 ^ (i+(k+1))=M+d*vd (ys.take (k+1))*4294967296 ^ i:=by
 have hs:=Zbv os (i+k) (t % 4294967296) hi
 have hb:=Nat.div_add_mod t 4294967296
 generalize t / 4294967296=q at*
 generalize t % 4294967296=r at*
 have hy:vd (ys.take (k+1))=vd (ys.take k)+4294967296 ^ k*ys[k]:=by
  rw[Wn hk,ZbN,Wt,Nat.min_eq_left (by omega)]
  simp[vd]
 rw[hy,show(4294967296:Nat) ^ (i+(k+1))=4294967296 ^ (i+k)*4294967296 from Nat.pow_succ _ _]
 have e:(4294967296*q+r)*4294967296 ^ (i+k)=(c+(os[i+k]+d*ys[k]))*4294967296 ^ (i+k):=by rw[hb,ht]
 have e3:d*(vd (ys.take k)+4294967296 ^ k*ys[k])*4294967296 ^ i=d*vd (ys.take k)*4294967296 ^ i+d*ys[k]*4294967296 ^ (i+k):=by
  rw[Nat.mul_add,Nat.add_mul,Nat.pow_add]
  congr 1
  rw[Nat.mul_comm (4294967296 ^ k),<-Nat.mul_assoc,Nat.mul_assoc (d*ys[k]),Nat.mul_comm (4294967296 ^ k)]
 rw[e3]
 generalize (4294967296:Nat) ^ (i+k)=p at*
 rw[Nat.add_mul,Nat.add_mul,Nat.add_mul,Nat.mul_assoc] at e
 have e1:q*(p*4294967296)=4294967296*(q*p):=by rw[Nat.mul_comm p,<-Nat.mul_assoc,Nat.mul_comm q,Nat.mul_assoc]
 rw[e1]
 omega
theorem Zg0 {c o d y:Nat}(hc:c<4294967296)(ho:o<4294967296)(hd:d<4294967296)(hy:y<4294967296):d*y<=18446744065119617025/\c+(o+d*y)<18446744073709551616:=by
 have h:d*y<=4294967295*4294967295:=Nat.mul_le_mul (by omega) (by omega)
 omega
theorem Zto {os:List Nat}{i:Nat}(h:vd os<4294967296 ^ i)(hi:i<os.length):os[i]=0:=by
 have:=ZfV os i hi
 rcases Nat.eq_zero_or_pos os[i] with h1|h1
 ·exact h1
 ·have h2:1*4294967296 ^ i<=os[i]*4294967296 ^ i:=Nat.mul_le_mul_right _ h1
  omega
instance ZAG (x y:Nat):SpecC prog 246 [.int .u64 x, .int .u64 y] (.tuple #[.int .u64 ((x*y / 18446744073709551616:Nat):Int), .int .u64 ((x*y % 18446744073709551616:Nat):Int)]) (x<18446744073709551616/\y<18446744073709551616):=⟨fun h w=>
 (Tryz.bits_Mul64 x y h.1 h.2 w).mono fun e w' ⟨h1,h2⟩=>by subst h2;exact⟨h1,Ext.refl _⟩⟩
theorem Zsi (a b:Nat)(ha:(mag a).size<=1099511627776)(hb:(mag b).size<=1099511627776)(w:World):Calls prog 197 [.string (mag a), .string (mag b)].toArray w (Ret (.string (mag (a*b))) w):=by
 refine Zg Tryz.func197 rfl Tryz.ntmps197 rfl ?_
 refine Zeq (Zfm ?_)
 repeat(first|refine sX rfl rfl ?_|(refine sS rfl rfl ?_ ?_;focus omega)|(refine sC rfl rfl ?_ ?_;focus(first|exact trivial|assumption|constructor <;> assumption|exact mb2 rfl rfl|exact mb4 rfl rfl rfl rfl))|(refine sA rfl rfl ?_;intro _)|refine sT rfl ?_|refine sW rfl rfl ?_|refine sK rfl rfl ?_|refine cY ?_|refine pkT rfl rfl rfl rfl ?_|refine pkF rfl rfl rfl rfl ?_)
 refine Zgh (S:=Unit) (fun _=>True) (fun _=>[(0, .string (mag a)),(1, .string (mag b))]) (fun _=>[]) ?_ (fun _ _=>?_)
 ·repeat(refine wkA ?_;intros)
  refine Zl rfl (fun h=>?_) (fun h=>?_)
  ·rw[Wq] at h
   have h1:=Zdl h.1
   have h2:=Zdl h.2
   have h3:=Zdm a
   have h4:=Zdm b
   rw[h1] at h3
   rw[h2] at h4
   simp only[h1,h2]
   repeat(first|(refine wkA ?_;intros)|(refine sC rfl rfl ?_ ?_;focus(exact⟨h3,h4⟩)))
   refine Zl rfl (fun h=>?_) (fun h=>?_)
   ·have h5:=Wa h
    have h6:(a*b) % 18446744073709551616=a*b:=by omega
    simp only[h6]
    repeat(first|(refine wkA ?_;intros)|(refine sC rfl rfl ?_ ?_;focus(omega)))
    exact rtT rfl rfl
   ·repeat(refine wkA ?_;intros)
    exact Zt () trivial (by repeat(first|exact ZQ|refine ZH rfl ?_)) (Wj _)
  ·repeat(refine wkA ?_;intros)
   exact Zt () trivial (by repeat(first|exact ZQ|refine ZH rfl ?_)) (Wj _)
 ·repeat(refine wkA ?_;intros)
  refine Zbm rfl (fun w' _=>Za1 a ha w') rfl rfl ?_
  intro bx
  repeat(refine wkA ?_;intros)
  refine Zbm rfl (fun w' _=>Za1 b hb w') rfl rfl ?_
  intro bY
  repeat(refine wkA ?_;intros)
  obtain⟨na,hna⟩:∃na,na=((mag a).size+3) / 4:=⟨_,rfl⟩
  obtain⟨nb,hnb⟩:∃nb,nb=((mag b).size+3) / 4:=⟨_,rfl⟩
  have hva:vd (dgs a na)=a:=by rw[hna,Zbe]
  have hvb:vd (dgs b nb)=b:=by rw[hnb,Zbe]
  have hla:=ZaH na a
  have hlb:=ZaH nb b
  have hDx:=Za3 na a
  have hDy:=Za3 nb b
  simp only[<-hna,<-hnb]
  generalize dgs a na=xs at*
  generalize dgs b nb=ys at*
  subst hla
  subst hlb
  have em:(xs.length:Int)+(ys.length:Int)+1=((xs.length+ys.length+1:Nat):Int):=by omega
  simp only[em]
  refine Zcd (k:= .u32) (B:=4) (m:=xs.length+ys.length+1) rfl rfl ⟨by omega,by omega⟩ rfl rfl ?_
  intro bo
  repeat(refine wkA ?_;intros)
  refine Zm (S:=Nat×List Nat) (fun s=>s.1<=xs.length/\s.2.length=xs.length+ys.length+1/\Dg s.2/\vd s.2=vd (xs.take s.1)*b)
   (fun s=>[(10, .slice (some ⟨bx,0,none⟩) xs.length xs.length),(11, .slice (some ⟨bY,0,none⟩) ys.length ys.length),(12, .slice (some ⟨bo,0,none⟩) (xs.length+ys.length+1) (xs.length+ys.length+1)),(46, .slice (some ⟨bx,0,none⟩) xs.length xs.length),(47, .int .i64 (xs.length:Int)),(48, .int .i64 s.1)])
   (fun s=>[⟨bo,dig .u32 s.2,365⟩,⟨bY,dig .u32 ys,365⟩,⟨bx,dig .u32 xs,365⟩]) (fun s=>xs.length-s.1) (0,List.replicate (xs.length+ys.length+1) 0)
   ⟨by simp,by simp,Zgf _,by simp[vd,Zgi]⟩ (by repeat(first|exact ZQ|refine ZH rfl ?_)) (Wj _) (fun s hs=>?_)
  obtain⟨i,os⟩:=s
  obtain⟨hi,hlo,hDo,hinv⟩:=hs
  simp only at hi hlo hDo hinv⊢
  repeat(refine wkA ?_;intros)
  refine Zl rfl (fun h=>?_) (fun h=>?_)
  ·have hlt:i<xs.length:=by have:=Wa h;omega
   have hdx:=Zax hDx hlt
   repeat(refine wkA ?_;intros)
   refine jq (Zac rfl (show xs[0+(i:Int).toNat*1]? =some xs[i] by rw[show 0+(i:Int).toNat*1=i by omega];simp[hlt])) rfl rfl ?_
   repeat(refine wkA ?_;intros)
   have hbig:vd os<4294967296 ^ (i+ys.length):=by
    rw[hinv,Nat.pow_add]
    have h1:=ZbC (ZbZ hDx i)
    rw[Wt,Nat.min_eq_left (by omega)] at h1
    have h2:=ZbC hDy
    rw[hvb] at h2
    rcases Nat.eq_zero_or_pos b with h3|h3
    ·subst h3
     rw[Nat.mul_zero]
     exact Nat.mul_pos (Nat.pow_pos (by omega)) (Nat.pow_pos (by omega))
    ·exact Nat.lt_of_lt_of_le (Nat.mul_lt_mul_of_pos_right h1 h3) (Nat.mul_le_mul_left _ (Nat.le_of_lt h2))
   have htop:=Zto hbig (by omega)
   refine Zm (S:=Nat×List Nat×Nat) (fun s=>s.1<=ys.length/\s.2.1.length=xs.length+ys.length+1/\Dg s.2.1/\s.2.2<4294967296/\s.2.1[i+ys.length]? =some 0/\vd s.2.1+s.2.2*4294967296 ^ (i+s.1)=vd (xs.take i)*b+xs[i]*vd (ys.take s.1)*4294967296 ^ i)
    (fun s=>[(10, .slice (some ⟨bx,0,none⟩) xs.length xs.length),(11, .slice (some ⟨bY,0,none⟩) ys.length ys.length),(12, .slice (some ⟨bo,0,none⟩) (xs.length+ys.length+1) (xs.length+ys.length+1)),(46, .slice (some ⟨bx,0,none⟩) xs.length xs.length),(47, .int .i64 (xs.length:Int)),(48, .int .i64 i),(13, .int .i64 i),(14, .int .u32 xs[i]),(15, .int .u64 s.2.2),(54, .int .i64 ys.length),(55, .int .i64 s.1)])
    (fun s=>[⟨bo,dig .u32 s.2.1,365⟩,⟨bY,dig .u32 ys,365⟩,⟨bx,dig .u32 xs,365⟩]) (fun s=>ys.length-s.1) (0,os,0)
    ⟨by simp,hlo,hDo,by simp,by simp only;rw[List.getElem?_eq_getElem (by omega),htop],by simp[vd,hinv]⟩ (by repeat(first|exact ZQ|refine ZH rfl ?_)) (Wj _) (fun s hs=>?_)
   obtain⟨k,ps,c⟩:=s
   obtain⟨hk,hlp,hDp,hc,hz,hin⟩:=hs
   simp only at hk hlp hDp hc hz hin⊢
   repeat(refine wkA ?_;intros)
   refine Zl rfl (fun h=>?_) (fun h=>?_)
   ·have hky:k<ys.length:=by have:=Wa h;omega
    have hdy:=Zax hDy hky
    have hip:i+k<ps.length:=by omega
    have hdp:=Zax hDp hip
    obtain⟨hw1,hw2⟩:=Zg0 hc hdp hdx hdy
    repeat(refine wkA ?_;intros)
    refine jD 19 19 (h:=?_)
    (repeat(refine wkH ?_))
    refine hq (Zac rfl (show ps[0+((i:Int)+(k:Int)).toNat*1]? =some ps[i+k] by rw[show 0+((i:Int)+(k:Int)).toNat*1=i+k by omega];simp[hip])) rfl rfl ?_
    (repeat(refine wkH ?_))
    refine hq (Zac rfl (show ys[0+(k:Int).toNat*1]? =some ys[k] by rw[show 0+(k:Int).toNat*1=k by omega];simp[hky])) rfl rfl ?_
    refine hq (Zhf rfl ?_) rfl rfl ?_
    ·omega
    refine hq (Zif rfl rfl ?_) rfl rfl ?_
    ·rw[<-Int.natCast_mul];omega
    rw[<-Int.natCast_mul]
    (repeat(refine wkH ?_))
    refine Zn (Zr ?_)
    repeat(refine wkA ?_;intros)
    refine jq (Zcu rfl rfl (by decide)) rfl rfl ?_
    repeat(refine wkA ?_;intros)
    obtain⟨t,ht⟩:∃t,t=c+(ps[i+k]+xs[i]*ys[k]):=⟨_,rfl⟩
    rw[p32,IntKind.wrap_u32,show(c:Int)+((ps[i+k]:Nat)+((xs[i]*ys[k]:Nat):Int))=(t:Int) by omega,show(t:Int) % 4294967296=((t % 4294967296:Nat):Int) by omega,show(t:Int) / 4294967296=((t / 4294967296:Nat):Int) by omega]
    refine ZaA rfl rfl (by omega) rfl ?_
    rw[show 0+((i:Int)+(k:Int)).toNat*1=i+k by omega]
    have g:=ZsJ hky hip ht hin
    repeat(refine wkA ?_;intros)
    exact Zh (k+1,_,t / 4294967296) ⟨hky,by rw[List.length_set];exact hlp,Zb8 hDp _ _ (Nat.mod_lt _ (by omega)),by simp only;omega,by simp only;rw[List.getElem?_set_ne (by omega)];exact hz,g⟩ (by repeat(first|exact ZQ|refine ZH rfl ?_)) (Wj _) (by simp only;omega)
   ·have hge:k=ys.length:=by have:=Wb h;omega
    subst hge
    repeat(refine wkA ?_;intros)
    have hip:i+ys.length<ps.length:=by omega
    refine ZaA rfl rfl (by omega) rfl ?_
    rw[show 0+((i:Int)+(ys.length:Int)).toNat*1=i+ys.length by omega]
    repeat(refine wkA ?_;intros)
    have hfin:vd (ps.set (i+ys.length) c)=vd (xs.take (i+1))*b:=by
     have hs:=Zbv ps (i+ys.length) c hip
     rw[List.getElem?_eq_getElem hip] at hz
     simp only[Option.some.injEq] at hz
     rw[hz,Nat.zero_mul] at hs
     rw[List.take_of_length_le (Wl _),hvb] at hin
     have hy:vd (xs.take (i+1))=vd (xs.take i)+4294967296 ^ i*xs[i]:=by
      rw[Wn hlt,ZbN,Wt,Nat.min_eq_left (by omega)]
      simp[vd]
     rw[hy,Nat.add_mul]
     have e4:4294967296 ^ i*xs[i]*b=xs[i]*b*4294967296 ^ i:=by rw[Nat.mul_assoc,Nat.mul_comm]
     rw[e4]
     omega
    exact Zh (i+1,_) ⟨hlt,by rw[List.length_set];exact hlp,Zb8 hDp _ _ hc,hfin⟩ (by repeat(first|exact ZQ|refine ZH rfl ?_)) (Wj _) (by simp only;omega)
  ·have hge:i=xs.length:=by have:=Wb h;omega
   subst hge
   repeat(refine wkA ?_;intros)
   have hfin:vd (os.take (xs.length+ys.length+1))=a*b:=by
    rw[List.take_of_length_le (by omega),hinv,List.take_of_length_le (Wl _),hva]
   refine jq (ZbU rfl (fun w' hw'=>Zcm bo (xs.length+ys.length+1) (xs.length+ys.length+1) os (0,0) (by omega) (Wl _) (by omega) hDo w' (hw'.mem _ MemC.out).2)) rfl rfl ?_
   rw[hfin]
   repeat(refine wkA ?_;intros)
   exact rtT rfl rfl
end
section
def mg (n:Int):Nat:=(mag n.natAbs).size
abbrev LIM :Nat:=1099511627776
theorem Zjx {n:Int}{k:Nat}:mg n<=k↔n.natAbs<256 ^ k:=ZaS
theorem Zhx (n:Int):mg (-n)=mg n:=by unfold mg;rw[Int.natAbs_neg]
theorem Zmq {m n:Int}(h:m.natAbs<=n.natAbs):mg m<=mg n:=Zch h
theorem Ztf (n:Int):n.natAbs<256 ^ mg n:=Zjx.1 (Wl _)
theorem ZqI {a b:Int}{k:Nat}(ha:mg a<=k)(hb:mg b<=k):mg (a+b)<=k+1:=by
 rw[Zjx] at ha hb⊢
 have h:=Int.natAbs_add_le a b
 rw[Nat.pow_succ]
 omega
theorem Zbu (a b:Int):mg (a*b)<=mg a+mg b:=by
 rw[Zjx,Int.natAbs_mul,Nat.pow_add]
 exact Nat.mul_lt_mul'' (Ztf a) (Ztf b)
theorem Zc3 {n:Int}{k:Nat}(h:n.natAbs<256 ^ k):mg n<=k:=Zjx.2 h
instance (priority :=high) ZIn (n:Int):LdC prog 4 (ZM (I n)) 0 (.bool (decide (n<0))):=⟨ZC⟩
instance (priority :=high) ZIc (n:Int):LdC prog 9 (ZM (I n)) 1 (.string (mag n.natAbs)):=⟨ZC⟩
instance ZJP (x y:Int):SpecC prog 159 [.int .i64 x, .int .i64 y] (.int .i64 (Lib.compareInt x y)) True:=⟨fun _ w=>(Tryz.cmp_Compare_int x y w).mono fun e w' ⟨h1,h2⟩=>by subst h2;exact⟨h1,Ext.refl _⟩⟩
instance ZBR (a b:ByteArray):SpecC prog 220 [.string a, .string b] (.int .i64 (Lib.compareBytes a.data.toList b.data.toList)) True:=⟨fun _ w=>(Tryz.strings_Compare a b w).mono fun e w' ⟨h1,h2⟩=>by subst h2;exact⟨h1,Ext.refl _⟩⟩
theorem Zuy (b c:Nat)(x y:Int)(fz:Nat×Nat)(w:World)(hw:w.heap[b]? =some (.cells (nums .i64 [x,y]) 3 fz)):
  Calls prog 158 [.slice (some ⟨b,0,none⟩) 2 c].toArray w (Ret (.int .i64 (if x≠0 then x else y)) w):=by
 refine Zg Tryz.func158 rfl Tryz.ntmps158 rfl ?_
 repeat(refine wkA ?_;intros)
 refine Zm (S:=Nat) (fun k=>k<=2/\(1<=k->x=0)/\(2<=k->y=0)) (fun k=>[(3, .int .i64 0),(6, .slice (some ⟨b,0,none⟩) 2 c),(7, .int .i64 2),(8, .int .i64 k)]) (fun _=>[]) (fun k=>2-k) 0 ⟨by omega,by omega,by omega⟩
  (by repeat(first|exact ZQ|refine ZH rfl ?_)) (Wj _) (fun k hk=>?_)
 obtain⟨hk2,h1,h2⟩:=hk
 repeat(refine wkA ?_;intros)
 refine Zl rfl (fun h=>?_) (fun h=>?_)
 ·have hlt:k<2:=by have:=Wa h;omega
  repeat(refine wkA ?_;intros)
  rcases(by omega:k=0\/k=1) with rfl|rfl
  ·refine jq (ZgT rfl hw (ZC (v:= .int .i64 x) (by kernel_rfl) rfl)) rfl rfl ?_
   repeat(refine wkA ?_;intros)
   refine Zl rfl (fun h=>?_) (fun h=>?_)
   ·have hx:x≠0:=by simpa using h
    rw[if_pos hx]
    repeat(refine wkA ?_;intros)
    exact rtT rfl rfl
   ·have hx:x=0:=by simpa using h
    repeat(refine wkA ?_;intros)
    exact Zh 1 ⟨by omega,fun _=>hx,by omega⟩ (by repeat(first|exact ZQ|refine ZH rfl ?_)) (Wj _) (by omega)
  ·refine jq (ZgT rfl hw (ZC (v:= .int .i64 y) (by kernel_rfl) rfl)) rfl rfl ?_
   have hx:=h1 (by omega)
   repeat(refine wkA ?_;intros)
   refine Zl rfl (fun h=>?_) (fun h=>?_)
   ·rw[if_neg (by simp[hx])]
    repeat(refine wkA ?_;intros)
    exact rtT rfl rfl
   ·have hy:y=0:=by simpa using h
    repeat(refine wkA ?_;intros)
    exact Zh 2 ⟨by omega,fun _=>hx,fun _=>hy⟩ (by repeat(first|exact ZQ|refine ZH rfl ?_)) (Wj _) (by omega)
 ·have hge:k=2:=by have:=Wb h;omega
  subst hge
  have hx:=h1 (by omega)
  have hy:=h2 (by omega)
  subst hx
  subst hy
  repeat(refine wkA ?_;intros)
  exact rtT rfl rfl
theorem ZwC (x y:Int)(w:World):(Instr.buildSlice 106 2 [(0, .int .i64 x),(1, .int .i64 y)].toArray).run prog w= .ok (.slice (some ⟨w.heap.size,0,none⟩) 2 2) (w.alloc (.cells (nums .i64 [x,y]) 3)):=by kernel_rfl
instance ZED (x y:Int):BsC prog 106 2 [(0, .int .i64 x),(1, .int .i64 y)] (nums .i64 [x,y]) 3:=⟨ZwC x y⟩
instance ZzN (a b:Nat):SpecC prog 168 [.string (mag a), .string (mag b)] (.int .i64 (Lib.compareInt a b)) True:=⟨fun _ w=>by
 refine Zg Tryz.func168 rfl Tryz.ntmps168 rfl ?_
 repeat(refine wkA ?_;intros)
 refine ZiE rfl rfl rfl ?_
 intro b1
 repeat(refine wkA ?_;intros)
 refine jq (ZbU rfl (fun w' hw'=>Zuy b1 2 _ _ (0,0) w' (hw'.mem _ MemC.out).2)) rfl rfl ?_
 rw[ZtD a b]
 repeat(refine wkA ?_;intros)
 exact rtT rfl rfl⟩
instance ZKz (a b:Nat):SpecC prog 195 [.string (mag a), .string (mag b)] (.string (mag (a+b))) ((mag a).size<=LIM/\(mag b).size<=LIM):=⟨fun h w=>Zsz a b h.1 h.2 w⟩
instance ZKv (a b:Nat):SpecC prog 196 [.string (mag a), .string (mag b)] (.string (mag (a-b))) ((mag a).size<=LIM/\b<=a):=⟨fun h w=>ZrF a b h.1 h.2 w⟩
instance ZKn (a b:Nat):SpecC prog 197 [.string (mag a), .string (mag b)] (.string (mag (a*b))) ((mag a).size<=LIM/\(mag b).size<=LIM):=⟨fun h w=>Zsi a b h.1 h.2 w⟩
theorem Zl6 {a b:Int}:0<=Lib.compareInt a b↔b<=a:=by unfold Lib.compareInt;by_cases h1:a<b <;> by_cases h2:a>b <;> simp[h1,h2] <;> omega
theorem ZmX {a b:Int}:Lib.compareInt a b<0↔a<b:=by unfold Lib.compareInt;by_cases h1:a<b <;> by_cases h2:a>b <;> simp[h1,h2] <;> omega
instance ZJM (a b:Int):SpecC prog 142 [vI a,vI b] (vI (a+b)) (mg a<=LIM/\mg b<=LIM):=⟨fun hp w=>by
 refine Zg Tryz.func142 rfl Tryz.ntmps142 rfl ?_
 repeat(refine wkA ?_;intros)
 refine Zl rfl (fun h=>?_) (fun h=>?_)
 ·have h1:decide (a<0)=decide (b<0):=by simpa using h
  repeat(refine wkA ?_;intros)
  (refine jD 8 8 (h:=?_);(repeat(first|refine wkH ?_|(refine tC rfl rfl ?_ ?_;focus(first|exact trivial|exact hp))));refine Zn ?_;(repeat(refine Z4 ?_;intro _));refine Zr ?_)
  rw[show sg (decide (a<0)) (a.natAbs+b.natAbs)=a+b by unfold sg;by_cases h2:a<0 <;> simp[h2] at h1⊢ <;> omega]
  repeat(refine wkA ?_;intros)
  exact rtC rfl rfl
 ·have h1:decide (a<0)≠decide (b<0):=by simpa using h
  repeat(refine wkA ?_;intros)
  refine Zl rfl (fun h=>?_) (fun h=>?_)
  ·have h2:=Zl6.1 (Wa h)
   have h3:b.natAbs<=a.natAbs:=by omega
   repeat(refine wkA ?_;intros)
   (refine jD 8 8 (h:=?_);(repeat(first|refine wkH ?_|(refine tC rfl rfl ?_ ?_;focus(first|exact trivial|exact⟨hp.1,h3⟩))));refine Zn ?_;(repeat(refine Z4 ?_;intro _));refine Zr ?_)
   rw[show sg (decide (a<0)) (a.natAbs-b.natAbs)=a+b by unfold sg;by_cases h2:a<0 <;> simp[h2] at h1⊢ <;> omega]
   repeat(refine wkA ?_;intros)
   exact rtC rfl rfl
  ·have h2:¬(b.natAbs:Int)<=(a.natAbs:Int):=fun h2=>Wb h (Zl6.2 h2)
   have h3:a.natAbs<=b.natAbs:=by omega
   repeat(refine wkA ?_;intros)
   (refine jD 8 8 (h:=?_);(repeat(first|refine wkH ?_|(refine tC rfl rfl ?_ ?_;focus(first|exact trivial|exact⟨hp.2,h3⟩))));refine Zn ?_;(repeat(refine Z4 ?_;intro _));refine Zr ?_)
   rw[show sg (decide (b<0)) (b.natAbs-a.natAbs)=a+b by unfold sg;by_cases h2:b<0 <;> simp[h2] at h1⊢ <;> omega]
   repeat(refine wkA ?_;intros)
   exact rtC rfl rfl⟩
instance ZJ2 (a b:Int):SpecC prog 143 [vI a,vI b] (vI (a*b)) (mg a<=LIM/\mg b<=LIM):=⟨fun hp w=>by
 refine Zg Tryz.func143 rfl Tryz.ntmps143 rfl ?_
 repeat(refine wkA ?_;intros)
 (refine jD 11 11 (h:=?_);(repeat(first|refine wkH ?_|(refine tC rfl rfl ?_ ?_;focus(first|trivial|exact hp))));refine Zn ?_;(repeat(refine Z4 ?_;intro _));refine Zr ?_)
 rw[show sg (decide (a<0) != decide (b<0)) (a.natAbs*b.natAbs)=a*b by
  unfold sg
  rw[<-Int.natAbs_mul]
  rcases Int.lt_or_le a 0 with h1|h1 <;> rcases Int.lt_or_le b 0 with h2|h2
  ·have:=Int.mul_pos_of_neg_of_neg h1 h2
   simp[h1,h2]
   omega
  ·have h3:¬b<0:=by omega
   have:=Int.mul_nonpos_of_nonpos_of_nonneg (Int.le_of_lt h1) h2
   simp[h1,h3]
   omega
  ·have h3:¬a<0:=by omega
   have:=Int.mul_nonpos_of_nonneg_of_nonpos h1 (Int.le_of_lt h2)
   simp[h2,h3]
   omega
  ·have h3:¬a<0:=by omega
   have h4:¬b<0:=by omega
   have:=Int.mul_nonneg h1 h2
   simp[h3,h4]
   omega]
 repeat(refine wkA ?_;intros)
 exact rtC rfl rfl⟩
instance ZB2 (a:Int):SpecC prog 169 [vI a] (vI (-a)) True:=⟨fun _ w=>by
 refine Zg Tryz.func169 rfl Tryz.ntmps169 rfl ?_
 repeat(refine wkA ?_;intros)
 rw[show sg (!decide (a<0)) a.natAbs= -a by unfold sg;by_cases h:a<0 <;> simp[h] <;> omega]
 repeat(refine wkA ?_;intros)
 exact rtC rfl rfl⟩
theorem Znh {b:Int}(h:0<=b):0<=b.sign:=by
 rcases(by omega:b=0\/0<b) with rfl|h
 ·decide
 ·rw[Int.sign_eq_one_of_pos h];decide
instance ZHM (a:Int):SpecC prog 167 [vI a] (.int .i64 a.sign) True:=⟨fun _ w=>by
 refine Zg Tryz.func167 rfl Tryz.ntmps167 rfl ?_
 repeat(refine wkA ?_;intros)
 refine Zl rfl (fun h=>?_) (fun h=>?_)
 ·have h1:=Wa h
  have h2:a=0:=by have:=ZaQ.1 h1;omega
  subst h2
  repeat(refine wkA ?_;intros)
  exact rtT rfl rfl
 ·have h1:¬a.natAbs=0:=fun h1=>Wb h (ZaQ.2 h1)
  repeat(refine wkA ?_;intros)
  refine Zl rfl (fun h=>?_) (fun h=>?_)
  ·have h2:a<0:=Wa h
   rw[Int.sign_eq_neg_one_of_neg h2]
   repeat(refine wkA ?_;intros)
   exact rtT rfl rfl
  ·have h2:¬a<0:=Wb h
   rw[Int.sign_eq_one_of_pos (by omega)]
   repeat(refine wkA ?_;intros)
   exact rtT rfl rfl⟩
instance Zzs (a b:Int):SpecC prog 110 [vI a,vI b] (.int .i64 (Lib.compareInt a b)) True:=⟨fun _ w=>by
 refine Zg Tryz.func110 rfl Tryz.ntmps110 rfl ?_
 repeat(refine wkA ?_;intros)
 refine Zl rfl (fun h=>?_) (fun h=>?_)
 ·have h1:decide (a<0)≠decide (b<0):=by simpa using h
  repeat(refine wkA ?_;intros)
  (refine jD 5 5 (h:=?_);(repeat(refine wkH ?_));refine Zn ?_;(repeat(refine Z4 ?_;intro _));refine Zr ?_)
  rw[show Lib.compareInt a.sign b.sign=Lib.compareInt a b by
   rcases Int.lt_or_le a 0 with h2|h2 <;> rcases Int.lt_or_le b 0 with h3|h3
   ·simp[h2,h3] at h1
   ·rw[Int.sign_eq_neg_one_of_neg h2]
    have:=Znh h3
    unfold Lib.compareInt
    rw[if_pos (by omega),if_pos (by omega)]
   ·rw[Int.sign_eq_neg_one_of_neg h3]
    have:=Znh h2
    unfold Lib.compareInt
    rw[if_neg (by omega),if_pos (by omega),if_neg (by omega),if_pos (by omega)]
   ·have h4:¬a<0:=by omega
    have h5:¬b<0:=by omega
    simp[h4,h5] at h1]
  repeat(refine wkA ?_;intros)
  exact rtT rfl rfl
 ·have h1:decide (a<0)=decide (b<0):=by simpa using h
  repeat(refine wkA ?_;intros)
  refine Zl rfl (fun h=>?_) (fun h=>?_)
  ·have h2:a<0:=Wa h
   have h3:b<0:=by simpa [h2] using h1.symm
   repeat(refine wkA ?_;intros)
   rw[show IntKind.i64.wrap (-Lib.compareInt a.natAbs b.natAbs)=Lib.compareInt a b by
    rw[IntWalk.i64_in _ (by unfold Lib.compareInt;by_cases h1:(a.natAbs:Int)<b.natAbs <;> by_cases h2:(a.natAbs:Int)>b.natAbs <;> simp[h1,h2])]
    unfold Lib.compareInt
    by_cases h4:a<b
    ·rw[if_neg (by omega),if_pos (by omega),if_pos h4]
    ·by_cases h5:a>b
     ·rw[if_pos (by omega),if_neg h4,if_pos h5];rfl
     ·rw[if_neg (by omega),if_neg (by omega),if_neg h4,if_neg h5];rfl]
   repeat(refine wkA ?_;intros)
   exact rtT rfl rfl
  ·have h2:¬a<0:=Wb h
   have h3:¬b<0:=by simpa [h2] using h1.symm
   repeat(refine wkA ?_;intros)
   rw[show Lib.compareInt a.natAbs b.natAbs=Lib.compareInt a b by rw[Int.natAbs_of_nonneg (by omega),Int.natAbs_of_nonneg (by omega)]]
   exact rtT rfl rfl⟩
theorem Zka (n:Int)(h0: -9223372036854775808<=n)(h1:n<=9223372036854775807)(w:World):Calls prog 73 [.int .i64 n].toArray w (Ret (vI n) w):=by
 refine Zg Tryz.func73 rfl Tryz.ntmps73 rfl ?_
 have e1:0<=n->IntKind.u64.wrap n=((n.natAbs:Nat):Int):=fun h=>by rw[IntWalk.u64_in _ (by omega)];omega
 have e2:n<0->IntKind.u64.wrap (-(IntKind.u64.wrap n))=((n.natAbs:Nat):Int):=fun h=>by
  have ha:IntKind.u64.wrap n=n+18446744073709551616:=by rw[IntKind.wrap_u64];omega
  rw[ha,IntKind.wrap_u64]
  omega
 have e3:sg (decide (n<0)) n.natAbs=n:=by unfold sg;by_cases h:n<0 <;> simp[h] <;> omega
 repeat(refine wkA ?_;intros)
 refine Zl rfl (fun h=>?_) (fun h=>?_)
 ·have hn:=Wa h
  repeat(refine wkA ?_;intros)
  rw[e2 hn]
  repeat(first|(refine wkA ?_;intros)|(refine sC rfl rfl ?_ ?_;focus(first|exact trivial|omega)))
  rw[e3]
  repeat(refine wkA ?_;intros)
  exact rtC rfl rfl
 ·have hn:=Wb h
  repeat(refine wkA ?_;intros)
  rw[e1 (by omega)]
  repeat(first|(refine wkA ?_;intros)|(refine sC rfl rfl ?_ ?_;focus(first|exact trivial|omega)))
  rw[e3]
  repeat(refine wkA ?_;intros)
  exact rtC rfl rfl
instance ZzA (n:Int):SpecC prog 73 [.int .i64 n] (vI n) (-9223372036854775808<=n/\n<=9223372036854775807):=⟨fun h w=>Zka n h.1 h.2 w⟩
end
section
theorem Zgo (r x:Nat)(hr:r<4294967296)(hx:x<4294967296):bits .or .u64 (IntKind.u64.wrap ((r:Int)*2 ^ (32:Int).toNat)) (x:Int)=((r*4294967296+x:Nat):Int):=by
 rw[p32,IntWalk.u64_in _ (by omega)]
 unfold bits
 rw[show(r:Int)*4294967296=((r*4294967296:Nat):Int) by omega]
 have h1:BitVec.ofInt IntKind.u64.bits ((r*4294967296:Nat):Int)=BitVec.ofNat 64 (r*4294967296):=BitVec.ofInt_natCast _ _
 have h2:BitVec.ofInt IntKind.u64.bits ((x:Nat):Int)=BitVec.ofNat 64 x:=BitVec.ofInt_natCast _ _
 have h3:(r*4294967296)|||x=r*4294967296+x:=by
  rw[show r*4294967296=r<<<32 by rw[Nat.shiftLeft_eq]]
  rw[Nat.shiftLeft_add_eq_or_of_lt (by omega:x<2 ^ 32)]
 simp only[h1,h2]
 show IntKind.u64.wrap ((BitVec.ofNat 64 (r*4294967296)|||BitVec.ofNat 64 x).toNat:Int)=_
 rw[BitVec.toNat_or,BitVec.toNat_ofNat,BitVec.toNat_ofNat,Nat.mod_eq_of_lt (by omega),Nat.mod_eq_of_lt (by omega),h3,IntWalk.u64_in _ (by omega)]
theorem ZwD (o d s:Nat)(ho:o<2 ^ s)(hs:s<32):bits .or .u32 (o:Int) (IntKind.u32.wrap ((d*2 ^ s:Nat):Int))=((o+d*2 ^ s % 4294967296:Nat):Int):=by
 have hp:(2:Nat) ^ s<=2147483648:=by
  have h3:(2:Nat) ^ s<=2 ^ 31:=Nat.pow_le_pow_right (by omega) (by omega)
  omega
 have e0:d*2 ^ s % 4294967296=(d % 2 ^ (32-s))<<<s:=by
  rw[Nat.shiftLeft_eq,show(4294967296:Nat)=2 ^ (32-s)*2 ^ s by rw[<-Nat.pow_add,show 32-s+s=32 by omega]]
  exact Nat.mul_mod_mul_right _ _ _
 have hlt:d*2 ^ s % 4294967296<4294967296:=Nat.mod_lt _ (by omega)
 rw[IntKind.wrap_u32,show((d*2 ^ s:Nat):Int) % 4294967296=((d*2 ^ s % 4294967296:Nat):Int) by omega]
 unfold bits
 have h1:BitVec.ofInt IntKind.u32.bits ((o:Nat):Int)=BitVec.ofNat 32 o:=BitVec.ofInt_natCast _ _
 have h2:BitVec.ofInt IntKind.u32.bits ((d*2 ^ s % 4294967296:Nat):Int)=BitVec.ofNat 32 (d*2 ^ s % 4294967296):=BitVec.ofInt_natCast _ _
 have h3:o|||(d*2 ^ s % 4294967296)=o+d*2 ^ s % 4294967296:=by
  rw[e0,Nat.or_comm,<-Nat.shiftLeft_add_eq_or_of_lt ho,Nat.add_comm]
 have h4:o+d*2 ^ s % 4294967296<4294967296:=by
  rw[<-h3]
  exact Nat.or_lt_two_pow (n:=32) (by omega) (by omega)
 simp only[h1,h2]
 show IntKind.u32.wrap ((BitVec.ofNat 32 o|||BitVec.ofNat 32 (d*2 ^ s % 4294967296)).toNat:Int)=_
 rw[BitVec.toNat_or,BitVec.toNat_ofNat,BitVec.toNat_ofNat,Nat.mod_eq_of_lt (by omega),Nat.mod_eq_of_lt (by omega),h3,IntWalk.u32_in _ (by omega)]
theorem Zn0 {V y r x:Nat}(hr:r<y)(hx:x<4294967296)(hy:y<4294967296):(r*4294967296+x) / y<4294967296/\(r*4294967296+x) % y<y/\x+4294967296*(V*y+r)=((r*4294967296+x) / y+4294967296*V)*y+(r*4294967296+x) % y:=by
 refine⟨?_,Nat.mod_lt _ (by omega), ?_⟩
 ·rw[Nat.div_lt_iff_lt_mul (by omega)]
  have h1:(r+1)*4294967296<=y*4294967296:=Nat.mul_le_mul_right _ hr
  rw[Nat.mul_comm 4294967296 y]
  omega
 ·have h:=Nat.div_add_mod (r*4294967296+x) y
  generalize (r*4294967296+x) / y=q at*
  generalize (r*4294967296+x) % y=p at*
  rw[Nat.add_mul,Nat.mul_add,Nat.mul_comm q y,Nat.mul_assoc]
  omega
theorem ZnS (b c:Nat)(xs:List Nat)(y:Nat)(hD:Dg xs)(hy0:0<y)(hy:y<4294967296)(hx:xs.length<=1099511627776)(w0 w:World)(M:List Blk)(hw:Own w0 (⟨b,dig .u32 xs,365⟩::M) w):
  Calls prog 270 [.slice (some ⟨b,0,none⟩) xs.length c, .int .u32 y].toArray w (fun e w'=>∃qs,qs.length=xs.length/\Dg qs/\vd qs=vd xs / y/\RetO (.int .u32 ((vd xs % y:Nat):Int)) w0 (⟨b,dig .u32 qs,365⟩::M) e w'):=by
 refine Zv7 hw Tryz.func270 rfl Tryz.ntmps270 rfl ?_
 repeat(refine wkA ?_;intros)
 refine Zm (S:=Nat×List Nat×Nat) (fun s=>s.1<=xs.length/\s.2.1.length=xs.length/\Dg s.2.1/\s.2.2<y/\s.2.1.take s.1=xs.take s.1/\vd (xs.drop s.1)=vd (s.2.1.drop s.1)*y+s.2.2)
  (fun s=>[(0, .slice (some ⟨b,0,none⟩) xs.length c),(1, .int .u32 y),(5, .int .u64 s.2.2),(6, .int .i64 ((s.1:Int)-1))]) (fun s=>⟨b,dig .u32 s.2.1,365⟩::M) (fun s=>s.1) (xs.length,xs,0)
  ⟨Wl _,rfl,hD,hy0,rfl,by simp[vd]⟩ (by repeat(first|exact ZQ|refine ZH rfl ?_)) (Wj _) (fun s hs=>?_)
 obtain⟨k,qs,r⟩:=s
 obtain⟨hk,hl,hDq,hr,ht,hv⟩:=hs
 simp only at hk hl hDq hr ht hv⊢
 repeat(refine wkA ?_;intros)
 refine Zl rfl (fun h=>?_) (fun h=>?_)
 ·have hpos:0<k:=by have:=Wa h;omega
  obtain⟨i,rfl⟩:∃i,k=i+1:=⟨k-1,by omega⟩
  have hiq:i<qs.length:=by omega
  have hix:i<xs.length:=by omega
  have hdq:=Zax hDq hiq
  have hqx:qs[i]=xs[i]:=by
   have h1:(qs.take (i+1))[i]? =(xs.take (i+1))[i]? :=by rw[ht]
   simpa [hiq,hix] using h1
  obtain⟨g1,g2,g3⟩:=Zn0 (V:=vd (qs.drop (i+1))) hr hdq hy
  repeat(refine wkA ?_;intros)
  refine jq (Zef rfl rfl (by decide)) rfl rfl ?_
  repeat(refine wkA ?_;intros)
  refine jq (Zac rfl (show qs[0+(((i+1:Nat):Int)-1).toNat*1]? =some qs[i] by rw[show 0+(((i+1:Nat):Int)-1).toNat*1=i by omega];simp[hiq])) rfl rfl ?_
  repeat(refine wkA ?_;intros)
  refine jq (Zfo rfl rfl) rfl rfl ?_
  rw[Zgo _ _ (by omega) hdq]
  repeat(refine wkA ?_;intros)
  obtain⟨Z,hZ⟩:∃Z,Z=r*4294967296+qs[i]:=⟨_,rfl⟩
  rw[<-hZ] at g1 g2 g3⊢
  have hZ64:Z<18446744073709551616:=by omega
  generalize hQ:Z / y=q at g1 g3
  generalize hR:Z % y=p at g2 g3
  have hq1:((Z:Nat):Int) / (y:Int)=(q:Int):=by rw[<-hQ];rfl
  have hr1:((Z:Nat):Int) % (y:Int)=(p:Int):=by rw[<-hR];rfl
  (refine Za9 [0,1,2,3,4,5,6,7,8,9,10,11] [12,13] ([]) (h:=?_);refine wkI ?_)
  (repeat(refine wkH ?_))
  refine hq (Ziq rfl rfl ?_) rfl rfl ?_
  ·omega
  rw[hq1]
  (repeat(refine wkH ?_))
  refine hq (Zgd rfl rfl ?_) rfl rfl ?_
  ·omega
  rw[hr1]
  (repeat(refine wkH ?_))
  refine Zn ?_
  refine Zo7 rfl rfl (by omega) rfl (Wk _) ?_
  rw[show 0+(((i+1:Nat):Int)-1).toNat*1=i by omega]
  refine Zbi rfl rfl rfl (Wk _) (Zba ?_)
  repeat(refine wkA ?_;intros)
  have hvs:vd ((qs.set i q).drop i)=q+4294967296*vd (qs.drop (i+1)):=by
   rw[ZeJ _ i (by rw[List.length_set];exact hiq),List.getElem_set_self,List.drop_set_of_lt (by omega)]
  exact Zh (i,qs.set i q,p) ⟨by simp only;omega,by rw[List.length_set];exact hl,Zb8 hDq _ _ g1,g2,by
   simp only
   rw[List.take_set_of_le (by omega)]
   have h1:(qs.take (i+1)).take i=(xs.take (i+1)).take i:=by rw[ht]
   simpa [List.take_take] using h1,by
   simp only
   rw[hvs,ZeJ xs i hix,hv,<-hqx]
   exact g3⟩ (by rw[show((i:Nat):Int)-1=((i+1:Nat):Int)-1-1 by omega];repeat(first|exact ZQ|refine ZH rfl ?_)) (Wj _) (by simp only;omega)
 ·have hge:k=0:=by have:=Wb h;omega
  subst hge
  repeat(refine wkA ?_;intros)
  simp only[List.drop_zero] at hv
  have h1:vd qs=vd xs / y:=by
   rw[hv,Nat.mul_comm,Nat.mul_add_div hy0,Nat.div_eq_of_lt hr,Nat.add_zero]
  have h2:vd xs % y=r:=by
   rw[hv,Nat.mul_comm,Nat.mul_add_mod,Nat.mod_eq_of_lt hr]
  rw[h2]
  exact Zy rfl rfl (fun w hw=>⟨qs,hl,hDq,h1,ZuP hw⟩)
theorem pow31 {s:Nat}(hs:s<32):1<=2 ^ s/\2 ^ s<=2147483648:=by
 have h3:(2:Nat) ^ s<=2 ^ 31:=Nat.pow_le_pow_right (by omega) (by omega)
 have h4:0<2 ^ s:=Nat.pow_pos (by omega)
 omega
theorem Znz {os xs:List Nat}{i s:Nat}(hi:i<xs.length)(hl:os.length=xs.length+1)(hDx:Dg xs)(hs:s<32)(hv:vd os=vd (xs.take i)*2 ^ s):
  ∃(h1:i<os.length)(h2:i+1<os.length),os[i]<2 ^ s/\os[i+1]=0/\xs[i]*2 ^ s<18446744073709551616/\os[i]+xs[i]*2 ^ s % 4294967296<4294967296/\xs[i]*2 ^ s / 4294967296<2 ^ s/\
   vd ((os.set i (os[i]+xs[i]*2 ^ s % 4294967296)).set (i+1) (xs[i]*2 ^ s / 4294967296))=vd (xs.take (i+1))*2 ^ s:=by
 have h1:i<os.length:=by omega
 have h2:i+1<os.length:=by omega
 obtain⟨hp1,hp2⟩:=pow31 hs
 have hd:=Zax hDx hi
 have hlow:=ZbC (ZbZ hDx i)
 rw[Wt,Nat.min_eq_left (by omega)] at hlow
 have hbig:vd os<2 ^ s*4294967296 ^ i:=by
  rw[hv,Nat.mul_comm]
  exact Nat.mul_lt_mul_of_pos_left hlow (by omega)
 have hoi:os[i]<2 ^ s:=by
  have h3:=ZfV os i h1
  exact Nat.lt_of_mul_lt_mul_right (a:=4294967296 ^ i) (Nat.lt_of_le_of_lt h3 hbig)
 have hoi1:os[i+1]=0:=by
  refine Zto (i:=i+1) ?_ h2
  rw[Nat.pow_succ,Nat.mul_comm (4294967296 ^ i)]
  exact Nat.lt_of_lt_of_le hbig (Nat.mul_le_mul_right _ (by omega))
 have hw:xs[i]*2 ^ s<=4294967295*2147483648:=Nat.mul_le_mul (by omega) hp2
 have hwq:xs[i]*2 ^ s / 4294967296<2 ^ s:=by
  rw[Nat.div_lt_iff_lt_mul (by omega),Nat.mul_comm (2 ^ s)]
  exact Nat.mul_lt_mul_of_pos_right hd (by omega)
 have hsum:os[i]+xs[i]*2 ^ s % 4294967296<4294967296:=by
  have e0:xs[i]*2 ^ s % 4294967296=(xs[i] % 2 ^ (32-s))*2 ^ s:=by
   conv=>lhs;rw[show(4294967296:Nat)=2 ^ (32-s)*2 ^ s by rw[<-Nat.pow_add,show 32-s+s=32 by omega]]
   exact Nat.mul_mod_mul_right _ _ _
  have e1:xs[i] % 2 ^ (32-s)+1<=2 ^ (32-s):=Nat.mod_lt _ (Nat.pow_pos (by omega))
  have e2:(xs[i] % 2 ^ (32-s)+1)*2 ^ s<=2 ^ (32-s)*2 ^ s:=Nat.mul_le_mul_right _ e1
  rw[<-Nat.pow_add,show 32-s+s=32 by omega,Nat.add_mul,Nat.one_mul] at e2
  omega
 refine⟨h1,h2,hoi,hoi1,by omega,hsum,hwq, ?_⟩
 have hs1:=Zbv os i (os[i]+xs[i]*2 ^ s % 4294967296) h1
 have hs2:=Zbv (os.set i (os[i]+xs[i]*2 ^ s % 4294967296)) (i+1) (xs[i]*2 ^ s / 4294967296) (by rw[List.length_set];exact h2)
 rw[List.getElem_set_ne (by omega),hoi1,Nat.zero_mul,Nat.add_zero] at hs2
 have hy:vd (xs.take (i+1))=vd (xs.take i)+4294967296 ^ i*xs[i]:=by
  rw[Wn hi,ZbN,Wt,Nat.min_eq_left (by omega)]
  simp[vd]
 rw[hs2,hy,Nat.add_mul,<-hv]
 have e3:4294967296 ^ i*xs[i]*2 ^ s=xs[i]*2 ^ s*4294967296 ^ i:=by rw[Nat.mul_assoc,Nat.mul_comm]
 rw[e3,Nat.pow_succ]
 have hb:=Nat.div_add_mod (xs[i]*2 ^ s) 4294967296
 generalize xs[i]*2 ^ s / 4294967296=q at*
 generalize xs[i]*2 ^ s % 4294967296=r at*
 rw[<-hb]
 generalize (4294967296:Nat) ^ i=p at*
 rw[Nat.add_mul] at hs1
 rw[Nat.add_mul,Nat.mul_comm p 4294967296,<-Nat.mul_assoc,Nat.mul_comm q 4294967296]
 omega
theorem pow2i (s:Nat):(2:Int) ^ ((s:Int)).toNat=((2 ^ s:Nat):Int):=by simp
theorem ZkQ (b c:Nat)(xs:List Nat)(s:Nat)(fz:Nat×Nat)(hs:s<32)(hD:Dg xs)(hx:xs.length<=1099511627776)(w:World)(hw:w.heap[b]? =some (.cells (dig .u32 xs) 365 fz)):
  ∃os,os.length=xs.length+1/\Dg os/\vd os=vd xs*2 ^ s/\
  Calls prog 272 [.slice (some ⟨b,0,none⟩) xs.length c, .int .i64 s].toArray w (RetB (fun b=> .slice (some ⟨b,0,none⟩) (xs.length+1) (xs.length+1)) (dig .u32 os) 365 w):=by
 obtain⟨os,hl,hDo,hv⟩:∃os:List Nat,os.length=xs.length+1/\Dg os/\vd os=vd xs*2 ^ s:=by
  refine⟨dgs (vd xs*2 ^ s) (xs.length+1),ZaH _ _,Za3 _ _, ?_⟩
  rw[Zc2,Nat.mod_eq_of_lt]
  obtain⟨hp1,hp2⟩:=pow31 hs
  have h1:=ZbC hD
  rw[Nat.pow_succ]
  exact Nat.mul_lt_mul'' h1 (by omega)
 refine⟨os,hl,hDo,hv, ?_⟩
 refine Zg Tryz.func272 rfl Tryz.ntmps272 rfl ?_
 repeat(refine wkA ?_;intros)
 rw[show(xs.length:Int)+1=((xs.length+1:Nat):Int) by omega]
 refine Zcd (k:= .u32) (B:=4) (m:=xs.length+1) rfl rfl ⟨by omega,by omega⟩ rfl rfl ?_
 intro bo
 repeat(refine wkA ?_;intros)
 refine Zm (S:=Nat×List Nat) (fun t=>t.1<=xs.length/\t.2.length=xs.length+1/\Dg t.2/\vd t.2=vd (xs.take t.1)*2 ^ s)
  (fun t=>[(1, .int .i64 s),(5, .slice (some ⟨bo,0,none⟩) (xs.length+1) (xs.length+1)),(13, .slice (some ⟨b,0,none⟩) xs.length c),(14, .int .i64 (xs.length:Int)),(15, .int .i64 t.1)])
  (fun t=>[⟨bo,dig .u32 t.2,365⟩]) (fun t=>xs.length-t.1) (0,List.replicate (xs.length+1) 0)
  ⟨by simp,by simp,Zgf _,by simp[vd,Zgi]⟩ (by repeat(first|exact ZQ|refine ZH rfl ?_)) (Wj _) (fun t ht=>?_)
 obtain⟨i,ps⟩:=t
 obtain⟨hi,hlp,hDp,hvp⟩:=ht
 simp only at hi hlp hDp hvp⊢
 repeat(refine wkA ?_;intros)
 refine Zl rfl (fun h=>?_) (fun h=>?_)
 ·have hlt:i<xs.length:=by have:=Wa h;omega
  obtain⟨h1,h2,g1,g2,g3,g4,g5,g6⟩:=Znz hlt hlp hD hs hvp
  have hdx:=Zax hD hlt
  obtain⟨hp1,hp2⟩:=pow31 hs
  repeat(refine wkA ?_;intros)
  refine jq (ZfX rfl hw (show xs[0+(i:Int).toNat*1]? =some xs[i] by rw[show 0+(i:Int).toNat*1=i by omega];simp[hlt])) rfl rfl ?_
  repeat(refine wkA ?_;intros)
  refine jq (Zef rfl rfl (by simp only[IntKind.bits];omega)) rfl rfl ?_
  rw[pow2i,<-Int.natCast_mul,IntWalk.u64_in _ (by omega)]
  repeat(refine wkA ?_;intros)
  refine jq (Zac rfl (show ps[0+(i:Int).toNat*1]? =some ps[i] by rw[show 0+(i:Int).toNat*1=i by omega];simp[h1])) rfl rfl ?_
  refine jq (Zgp rfl) rfl rfl ?_
  refine jq (Zjq rfl) rfl rfl ?_
  refine jq (Zfo rfl rfl) rfl rfl ?_
  rw[ZwD _ _ _ g1 hs]
  repeat(refine wkA ?_;intros)
  refine ZaA rfl rfl (by omega) rfl ?_
  rw[show 0+(i:Int).toNat*1=i by omega]
  repeat(refine wkA ?_;intros)
  refine jq (Zcu rfl rfl (by decide)) rfl rfl ?_
  rw[p32,show((xs[i]*2 ^ s:Nat):Int) / 4294967296=((xs[i]*2 ^ s / 4294967296:Nat):Int) by omega]
  repeat(refine wkA ?_;intros)
  refine ZaA rfl rfl (by rw[List.length_set];omega) rfl ?_
  rw[show 0+((i:Int)+1).toNat*1=i+1 by omega]
  repeat(refine wkA ?_;intros)
  exact Zh (i+1,_) ⟨hlt,by simp only[List.length_set];exact hlp,Zb8 (Zb8 hDp _ _ g4) _ _ (by omega),g6⟩ (by repeat(first|exact ZQ|refine ZH rfl ?_)) (Wj _) (by simp only;omega)
 ·have hge:i=xs.length:=by have:=Wb h;omega
  subst hge
  repeat(refine wkA ?_;intros)
  rw[List.take_of_length_le (Wl _)] at hvp
  have he:ps=os:=ZjF hDp hDo (by omega) (by rw[hvp,hv])
  subst he
  exact Zy rfl rfl (fun w hw=>ZmY hw)
end
end Go.Vt
