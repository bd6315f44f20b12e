/- For any two moving labels and any period, Restrict returns the part during the period, and Patch the second one in place of the first one; patching by a part of itself changes nothing. Conditions: none. (part 6 of 30.) Conditions: those that each statement names. -/
import Derived.Test.YtcgkgdgpdpihmaaGreatDoorProg
import Derived.Test.YtcgkgdgpdpihmaaGreatDoorKP5
set_option linter.unusedSimpArgs false
set_option linter.unusedVariables false
set_option maxHeartbeats 2000000
set_option maxRecDepth 100000
namespace Go.Vt
open Go.RowKit Go.Proofs
open Go.Proofs.Tryz (prog)
section
theorem ZmJ (ds:List Nat)(l:Nat)(h:0<l)(hl:l<=ds.length):ds.take l=ds.take (l-1)++[ds[l-1]]:=by
 have:=Wn (l:=ds) (i:=l-1) (by omega)
 rwa [show l-1+1=l by omega] at this
theorem Zod (b l c:Nat)(ds:List Nat)(fz:Nat×Nat)(hl:l<=ds.length)(hc:l<=c)(hc2:c<=1099511627776)(w:World)(hw:w.heap[b]? =some (.cells (dig .u32 ds) 230 fz)):
  Calls prog 245 [.slice (some ⟨b,0,none⟩) l c].toArray w (Ret (.slice (some ⟨b,0,none⟩) (tl (ds.take l)) c) w):=by
 refine Zb Tryz.func245 rfl Tryz.ntmps245 rfl ?_
 repeat(refine wkA ?_;intros)
 refine Zo (S:=Nat) (fun m=>m<=l/\tl (ds.take m)=tl (ds.take l)) (fun m=>[(0, .slice (some ⟨b,0,none⟩) m c)]) (fun _=>[]) (fun m=>m) l ⟨Wl _,rfl⟩ (by repeat(first|exact ZA|refine Zw rfl ?_)) (Wj _) (fun m hm=>?_)
 obtain⟨hm1,hm2⟩:=hm
 rcases Nat.eq_zero_or_pos m with h0|h0
 ·subst h0
  repeat(refine wkA ?_;intros)
  rw[<-hm2]
  exact rtT rfl rfl
 ·have hd:decide ((0:Int)<(m:Int))=true:=by simp;omega
  have hlt:m-1<ds.length:=by omega
  have htk:=ZmJ ds m h0 (by omega)
  repeat(refine wkA ?_;intros)
  simp only[hd]
  repeat(refine wkA ?_;intros)
  refine jq (Zd9 rfl hw (show ds[0+((m:Int)-1).toNat*1]? =some ds[m-1] by rw[show 0+((m:Int)-1).toNat*1=m-1 by omega];simp[hlt])) rfl rfl ?_
  repeat(refine wkA ?_;intros)
  refine Zk rfl (fun h=>?_) (fun h=>?_)
  ·have hz:ds[m-1]=0:=by have:=Wa h;omega
   repeat(refine wkA ?_;intros)
   refine jq (ZeX rfl rfl (by omega)) rfl rfl ?_
   rw[show((m:Int)-1).toNat=m-1 by omega]
   repeat(refine wkA ?_;intros)
   refine Zc (m-1) ⟨by omega, ?_⟩ (by repeat(first|exact ZA|refine Zw rfl ?_)) (Wj _) (by omega)
   rw[<-hm2,htk,Zkk,if_pos hz]
  ·have hz:¬ds[m-1]=0:=by have:=Wb h;omega
   repeat(refine wkA ?_;intros)
   have e:tl (ds.take l)=m:=by rw[<-hm2,htk,Zkk,if_neg hz,Wt];omega
   rw[e]
   exact rtT rfl rfl
def bytesR (M V q:Nat):List Nat:=(List.range M).map fun j=>if M-q<=j then V / 256 ^ (M-1-j) % 256 else 0
theorem ZbZ (M V q:Nat):(bytesR M V q).length=M:=by simp[bytesR]
theorem Zb1 (M V q j:Nat)(h:j<M):(bytesR M V q)[j]? =some (if M-q<=j then V / 256 ^ (M-1-j) % 256 else 0):=by simp[bytesR,h]
theorem Zjz (M V:Nat):bytesR M V 0=List.replicate M 0:=by
 apply List.ext_getElem?
 intro j
 by_cases h:j<M
 ·rw[Zb1 _ _ _ _ h,if_neg (by omega)];simp[h]
 ·rw[List.getElem?_eq_none (by rw[ZbZ];omega),List.getElem?_eq_none (by simp;omega)]
theorem Zjt (M V q:Nat)(h:q<M):(bytesR M V q).set (M-1-q) (V / 256 ^ q % 256)=bytesR M V (q+1):=by
 apply List.ext_getElem?
 intro j
 by_cases hj:j<M
 ·rw[List.getElem?_set,Zb1 _ _ _ _ hj]
  by_cases he:M-1-q=j
  ·subst he
   rw[if_pos rfl,if_pos (by rw[ZbZ];omega),Zb1 _ _ _ _ hj,if_pos (by omega),show M-1-(M-1-q)=q by omega]
  ·rw[if_neg he,Zb1 _ _ _ _ hj]
   congr 1
   by_cases h1:M-q<=j
   ·rw[if_pos h1,if_pos (by omega)]
   ·rw[if_neg h1,if_neg (by omega)]
 ·rw[List.getElem?_eq_none (by rw[List.length_set,ZbZ];omega),List.getElem?_eq_none (by rw[ZbZ];omega)]
def bgs :Nat->Nat->List UInt8
 |_,0=>[]
 |a,m+1=>UInt8.ofNat (a % 256)::bgs (a / 256) m
theorem Zdr :∀(m a:Nat),(bgs a m).length=m
 |0,_=>rfl
 |m+1,a=>by simp[bgs,Zdr m]
theorem Zkc :∀(m a:Nat),vle (bgs a m)=a % 256 ^ m
 |0,a=>by simp[bgs,vle,Nat.mod_one]
 |m+1,a=>by
  rw[bgs,vle,Zkc m,Nat.pow_succ,Nat.mul_comm (256 ^ m),Nat.mod_mul,toNat_ofNat]
theorem Zkf :∀(m a i:Nat),i<m->(bgs a m)[i]? =some (UInt8.ofNat (a / 256 ^ i % 256))
 |0,_,i,h=>by omega
 |m+1,a,0,_=>by simp[bgs]
 |m+1,a,i+1,h=>by
  simp only[bgs,List.getElem?_cons_succ]
  rw[Zkf m _ i (by omega),Nat.div_div_eq_div_mul,Nat.pow_succ,Nat.mul_comm]
theorem Zml (M V i:Nat)(u:UInt8)(hu:(bgs V M).reverse[i]? =some u):(dig .u8 (bytesR M V M))[0+i]? =some (.int .u8 u.toNat):=by
 have hi:i<M:=by
  rcases Nat.lt_or_ge i M with h1|h1
  ·exact h1
  ·rw[List.getElem?_eq_none (by rw[List.length_reverse,Zdr];exact h1)] at hu;cases hu
 rw[Nat.zero_add,Zgd,Zb1 _ _ _ _ hi,if_pos (by omega)]
 rw[List.getElem?_reverse (by rw[Zdr];exact hi),Zdr,Zkf _ _ _ (by omega)] at hu
 simp only[Option.some.injEq] at hu
 subst hu
 simp
theorem ZdX (ds:List Nat)(hD:Dg ds)(i:Nat)(h:i<ds.length):vd ds / 4294967296 ^ i % 4294967296=ds[i]:=by
 rw[ZaA ds i (by omega),List.drop_eq_getElem_cons h,vd]
 have h1:=ZaU (Zbl hD i)
 rw[Wt,Nat.min_eq_left (by omega)] at h1
 have h2:=Z2 hD h
 have h3:0<4294967296 ^ i:=Nat.pow_pos (by omega)
 rw[Nat.add_mul_div_left _ _ h3,Nat.div_eq_of_lt h1]
 omega
theorem Zhh (ds:List Nat)(hD:Dg ds)(i k:Nat)(h:i<ds.length)(hk:k<4):ds[i] / 256 ^ k % 256=vd ds / 256 ^ (4*i+k) % 256:=by
 rw[<-ZdX ds hD i h,Nat.pow_add,<-ZcS,<-Nat.div_div_eq_div_mul]
 generalize vd ds / 4294967296 ^ i=x
 have hk':k=0\/k=1\/k=2\/k=3:=by omega
 rcases hk' with rfl|rfl|rfl|rfl
 ·simp only[Nat.pow_zero,Nat.div_one];omega
 ·simp only[Nat.pow_one];omega
 ·rw[show(256:Nat) ^ 2=65536 by decide];omega
 ·rw[show(256:Nat) ^ 3=16777216 by decide];omega
theorem byte8 (x k:Nat):IntKind.u8.wrap ((x:Int) / 2 ^ (8*(k:Int)).toNat)=((x / 256 ^ k % 256:Nat):Int):=ZkY x k
theorem ZbH (b l c:Nat)(ds:List Nat)(fz:Nat×Nat)(hl:l<=ds.length)(hc:l<=c)(hc2:c<=1099511627776)(hD:Dg ds)(w:World)(hw:w.heap[b]? =some (.cells (dig .u32 ds) 230 fz)):
  Calls prog 227 [.slice (some ⟨b,0,none⟩) l c].toArray w (Ret (.string (mag (vd (ds.take l)))) w):=by
 obtain⟨n,hn⟩:∃n,n=tl (ds.take l):=⟨_,rfl⟩
 have hnl:n<=l:=by have:=Zqu (ds.take l);rw[Wt] at this;omega
 have htk:(ds.take l).take n=ds.take n:=by rw[List.take_take,Nat.min_eq_left hnl]
 have hV:vd (ds.take l)=vd (ds.take n):=by rw[<-htk,hn,Zvo]
 have hDn:=Zbl hD n
 have hln:(ds.take n).length=n:=by rw[Wt];omega
 rw[hV]
 obtain⟨V,hVd⟩:∃V,V=vd (ds.take n):=⟨_,rfl⟩
 have hVlt:V<256 ^ (4*n):=by
  have:=ZaU hDn
  rw[hln,ZcS,<-hVd] at this
  exact this
 rw[<-hVd]
 refine Zb Tryz.func227 rfl Tryz.ntmps227 rfl ?_
 repeat(refine wkA ?_;intros)
 refine jq (Zbb rfl (fun w' hw'=>Zod b l c ds fz hl hc hc2 w' (by rw[hw'.ext.block b (Zaf hw)];exact hw))) rfl rfl ?_
 rw[<-hn]
 repeat(refine wkA ?_;intros)
 refine Zk rfl (fun h=>?_) (fun h=>?_)
 ·have h0:n=0:=by have:=Wa h;omega
  subst h0
  have:V=0:=by rw[hVd];rfl
  subst this
  repeat(refine wkA ?_;intros)
  exact rtT rfl rfl
 ·have h0:0<n:=by have:=Wb h;omega
  repeat(refine wkA ?_;intros)
  refine Zbx (k:= .u8) (B:=1) (m:=4*n) rfl rfl ⟨by omega,by omega⟩ rfl rfl ?_
  intro bb
  repeat(refine wkA ?_;intros)
  refine Zo (S:=Nat) (fun i=>i<=n) (fun i=>[(0, .slice (some ⟨b,0,none⟩) n c),(16, .slice (some ⟨b,0,none⟩) n c),(3, .slice (some ⟨bb,0,none⟩) (4*n) (4*n)),(17, .int .i64 n),(18, .int .i64 i)]) (fun i=>[⟨bb,dig .u8 (bytesR (4*n) V (4*i)),5⟩]) (fun i=>n-i) 0 (Wm _)
   (by repeat(first|exact ZA|refine Zw rfl ?_)) (by rw[Nat.mul_zero,Zjz];exact Wj _) (fun i hi=>?_)
  repeat(refine wkA ?_;intros)
  refine Zk rfl (fun h=>?_) (fun h=>?_)
  ·have hlt:i<n:=by have:=Wa h;omega
   have hid:i<ds.length:=by omega
   have hget:(ds.take n)[i]'(by omega)=ds[i]:=List.getElem_take
   have hdlt:=Z2 hD hid
   repeat(refine wkA ?_;intros)
   refine jq (Zd9 rfl hw (show ds[0+(i:Int).toNat*1]? =some ds[i] by rw[show 0+(i:Int).toNat*1=i by omega];simp[hid])) rfl rfl ?_
   repeat(refine wkA ?_;intros)
   refine Zo (S:=Nat) (fun k=>k<=4) (fun k=>[(0, .slice (some ⟨b,0,none⟩) n c),(16, .slice (some ⟨b,0,none⟩) n c),(3, .slice (some ⟨bb,0,none⟩) (4*n) (4*n)),(17, .int .i64 n),(18, .int .i64 i),(4, .int .i64 i),(5, .int .u32 (ds[i]:Nat)),(23, .int .i64 k)]) (fun k=>[⟨bb,dig .u8 (bytesR (4*n) V (4*i+k)),5⟩]) (fun k=>4-k) 0 (Wm _)
    (by repeat(first|exact ZA|refine Zw rfl ?_)) (Wj _) (fun k hk=>?_)
   repeat(refine wkA ?_;intros)
   refine Zk rfl (fun h=>?_) (fun h=>?_)
   ·have hk4:k<4:=by have:=Wa h;omega
    have hby:ds[i] / 256 ^ k % 256=V / 256 ^ (4*i+k) % 256:=by
     rw[<-hget,Zhh (ds.take n) hDn i k (by omega) hk4,hVd]
    repeat(refine wkA ?_;intros)
    refine jq (ZaI rfl rfl (by simp only[IntKind.bits];omega)) rfl rfl ?_
    repeat(refine wkA ?_;intros)
    rw[byte8,hby]
    refine Z4 rfl rfl (by rw[ZbZ];omega) rfl ?_
    rw[show 0+(((4*n:Nat):Int)-1-4*(i:Int)-(k:Int)).toNat*1=4*n-1-(4*i+k) by omega,Zjt _ _ _ (by omega)]
    repeat(refine wkA ?_;intros)
    exact Zc (k+1) hk4 (by repeat(first|exact ZA|refine Zw rfl ?_)) (Wj _) (by omega)
   ·have hk4:k=4:=by have:=Wb h;omega
    subst hk4
    repeat(refine wkA ?_;intros)
    exact Zc (i+1) hlt (by repeat(first|exact ZA|refine Zw rfl ?_)) (Wj _) (by omega)
  ·have hge:i=n:=by have:=Wb h;omega
   subst hge
   repeat(refine wkA ?_;intros)
   refine jq (Zbu (bs:=(bgs V (4*i)).reverse) rfl (by rw[List.length_reverse,Zdr]) (Zml (4*i) V)) rfl rfl ?_
   refine jq (Zbb rfl (fun w' _=>(Tryz.strings_TrimLeft_one _ 0 (by decide) w').mono fun e w2 ⟨h1,h2⟩=>(show Ret _ _ _ _ from⟨h1,by subst h2;exact Ext.refl _⟩))) rfl rfl ?_
   have hfin:mag V=⟨(Lib.trimLeftB (bgs V (4*i)).reverse 0).toArray⟩:=by
    rw[<-ZpX,List.reverse_reverse,Zkc,Nat.mod_eq_of_lt hVlt]
   rw[hfin]
   repeat(refine wkA ?_;intros)
   exact rtT rfl rfl
end
section
theorem p32 :(2:Int) ^ (32:Int).toNat=4294967296:=by decide
instance Zxm (x y:Nat):ExtC prog 225 [.int .u64 x, .int .u64 y, .int .u64 0] (.tuple #[.int .u64 (((x+y) % 18446744073709551616:Nat):Int), .int .u64 (((x+y) / 18446744073709551616:Nat):Int)]) (x<18446744073709551616/\y<18446744073709551616):=⟨fun h w=>by
 have:=run_add64 (P:=prog) x y 0 (by omega) (by omega) (by omega) (by omega) w
 show(callFunc _ #[.int .u64 x, .int .u64 y, .int .u64 0]).run prog w=_
 rw[run_callFunc_extern Tryz.func225 (by kernel_rfl) (by kernel_rfl) (by kernel_rfl) (e:=add64Entry) (by kernel_rfl),this]
 simp only[Result.andThen,Int.add_zero]
 rfl⟩
theorem Zi2 {os ys:List Nat}{i c S y:Nat}(hi:i<os.length)(hD:Dg os)(hc:c<=1)(hy:y<4294967296)(hS:vd os+c*4294967296 ^ i+vd (ys.drop i)*4294967296 ^ i=S)(hdr:vd (ys.drop i)=y+4294967296*vd (ys.drop (i+1))):
  (c+os[i]+y) / 4294967296<=1/\Dg (os.set i ((c+os[i]+y) % 4294967296))/\
   vd (os.set i ((c+os[i]+y) % 4294967296))+(c+os[i]+y) / 4294967296*4294967296 ^ (i+1)+vd (ys.drop (i+1))*4294967296 ^ (i+1)=S:=by
 have h1:=Z2 hD hi
 refine⟨by omega,ZbA hD _ _ (Nat.mod_lt _ (by omega)), ?_⟩
 have hs:=ZaO os i ((c+os[i]+y) % 4294967296) hi
 have hb:=Nat.div_add_mod (c+os[i]+y) 4294967296
 generalize (c+os[i]+y) / 4294967296=q at*
 generalize (c+os[i]+y) % 4294967296=r at*
 rw[hdr] at hS
 rw[show(4294967296:Nat) ^ (i+1)=4294967296 ^ i*4294967296 from Nat.pow_succ _ _]
 generalize (4294967296:Nat) ^ i=p at*
 have e:(4294967296*q+r)*p=(c+os[i]+y)*p:=by rw[hb]
 rw[Nat.add_mul,Nat.add_mul,Nat.add_mul,Nat.mul_assoc] at e
 rw[Nat.add_mul,Nat.mul_assoc] at hS
 have e1:q*(p*4294967296)=4294967296*(q*p):=by rw[Nat.mul_comm p,<-Nat.mul_assoc,Nat.mul_comm q,Nat.mul_assoc]
 have e2:vd (ys.drop (i+1))*(p*4294967296)=4294967296*(vd (ys.drop (i+1))*p):=by rw[Nat.mul_comm p,<-Nat.mul_assoc,Nat.mul_comm (vd _) 4294967296,Nat.mul_assoc]
 rw[e1,e2]
 omega
theorem ZaC (a:Nat):vd (dgs a (((mag a).size+3) / 4))=a:=by
 rw[Zb5,Nat.mod_eq_of_lt]
 rw[ZcS]
 have h1:a<256 ^ (mag a).size:=Z1.1 (Wl _)
 exact Nat.lt_of_lt_of_le h1 (Nat.pow_le_pow_right (by omega) (by omega))
theorem ZdF (ys:List Nat)(i:Nat)(h:i<ys.length):vd (ys.drop i)=ys[i]+4294967296*vd (ys.drop (i+1)):=by
 rw[List.drop_eq_getElem_cons h,vd]
theorem Zbn (ys:List Nat)(i:Nat)(h:ys.length<=i):vd (ys.drop i)=0:=by
 rw[List.drop_eq_nil_of_le h];rfl
theorem ZoN (a b:Nat)(ha:(mag a).size<=1099511627776)(hb:(mag b).size<=1099511627776)(w:World):Calls prog 207 [.string (mag a), .string (mag b)].toArray w (Ret (.string (mag (a+b))) w):=by
 refine Zb Tryz.func207 rfl Tryz.ntmps207 rfl ?_
 refine Zdf (ZdV ?_)
 repeat(first|refine sX rfl rfl ?_|(refine sS rfl rfl ?_ ?_;focus omega)|(refine sC rfl rfl ?_ ?_;focus(first|exact trivial|assumption|constructor <;> assumption|exact mb2 rfl rfl|exact mb4 rfl rfl rfl rfl))|(refine sA rfl rfl ?_;intro _)|refine sT rfl ?_|refine sW rfl rfl ?_|refine sK rfl rfl ?_|refine cY ?_|refine pkT rfl rfl rfl rfl ?_|refine pkF rfl rfl rfl rfl ?_)
 refine ZfZ (S:=Unit) (fun _=>True) (fun _=>[(0, .string (mag a)),(1, .string (mag b))]) (fun _=>[]) ?_ (fun _ _=>?_)
 ·repeat(refine wkA ?_;intros)
  refine Zk rfl (fun h=>?_) (fun h=>?_)
  ·rw[Wq] at h
   have h1:=Zcl h.1
   have h2:=Zcl h.2
   have h3:=Zcp a
   have h4:=Zcp b
   rw[h1] at h3
   rw[h2] at h4
   simp only[h1,h2]
   repeat(first|(refine wkA ?_;intros)|(refine sC rfl rfl ?_ ?_;focus(exact⟨h3,h4⟩)))
   refine Zk rfl (fun h=>?_) (fun h=>?_)
   ·have h5:=Wa h
    have h6:(a+b) % 18446744073709551616=a+b:=by omega
    simp only[h6]
    repeat(first|(refine wkA ?_;intros)|(refine sC rfl rfl ?_ ?_;focus(omega)))
    exact rtT rfl rfl
   ·repeat(refine wkA ?_;intros)
    exact Ze () trivial (by repeat(first|exact ZA|refine Zw rfl ?_)) (Wj _)
  ·repeat(refine wkA ?_;intros)
   exact Ze () trivial (by repeat(first|exact ZA|refine Zw rfl ?_)) (Wj _)
 ·repeat(refine wkA ?_;intros)
  refine ZaH rfl (fun w' _=>Zau a ha w') rfl rfl ?_
  intro b1
  repeat(refine wkA ?_;intros)
  refine ZaH rfl (fun w' _=>Zau b hb w') rfl rfl ?_
  intro b2
  repeat(refine wkA ?_;intros)
  obtain⟨na,hna⟩:∃na,na=((mag a).size+3) / 4:=⟨_,rfl⟩
  obtain⟨nb,hnb⟩:∃nb,nb=((mag b).size+3) / 4:=⟨_,rfl⟩
  have hva:vd (dgs a na)=a:=by rw[hna,ZaC]
  have hvb:vd (dgs b nb)=b:=by rw[hnb,ZaC]
  have hla:=Z9 na a
  have hlb:=Z9 nb b
  have hDa:=Zaw na a
  have hDb:=Zaw nb b
  simp only[<-hna,<-hnb]
  generalize dgs a na=xa at*
  generalize dgs b nb=xb at*
  refine ZY (S:=Nat×List Nat×Nat×List Nat) (fun s=>vd s.2.1+vd s.2.2.2=a+b/\s.2.2.2.length<=s.2.1.length/\Dg s.2.1/\Dg s.2.2.2/\s.2.1.length<=549755813888) (fun s=>[(10, .slice (some ⟨s.1,0,none⟩) s.2.1.length s.2.1.length),(11, .slice (some ⟨s.2.2.1,0,none⟩) s.2.2.2.length s.2.2.2.length)]) (fun s=>[⟨s.2.2.1,dig .u32 s.2.2.2,230⟩,⟨s.1,dig .u32 s.2.1,230⟩]) ?_ (fun s hs=>?_)
  ·refine Zk rfl (fun h=>?_) (fun h=>?_)
   ·have h1:=Wa h
    repeat(refine wkA ?_;intros)
    exact Zr2 (List.Perm.swap _ _ _) (Ze (b2,xb,b1,xa) ⟨by simp only;omega,by simp only;omega,hDb,hDa,by simp only;omega⟩ (by rw[<-hla,<-hlb];repeat(first|exact ZA|refine Zw rfl ?_)) (Wj _))
   ·have h1:=Wb h
    repeat(refine wkA ?_;intros)
    exact Ze (b1,xa,b2,xb) ⟨by simp only;omega,by simp only;omega,hDa,hDb,by simp only;omega⟩ (by rw[<-hla,<-hlb];repeat(first|exact ZA|refine Zw rfl ?_)) (Wj _)
  ·obtain⟨bx,xs,bY,ys⟩:=s
   obtain⟨hS,hle,hDx,hDy,hlim⟩:=hs
   simp only at hS hle hDx hDy hlim⊢
   repeat(refine wkA ?_;intros)
   refine Zbx (k:= .u32) (B:=4) (m:=xs.length+1) rfl rfl ⟨by omega,by omega⟩ rfl rfl ?_
   intro bo
   repeat(refine wkA ?_;intros)
   refine Zh6 (k:= .u32) rfl rfl (by simp) (Wl _) rfl rfl ?_
   have e1:xs.take (min xs.length (xs.length+1))++(List.replicate (xs.length+1) 0).drop (min xs.length (xs.length+1))=xs++[0]:=by
    rw[Nat.min_eq_left (by omega),List.take_of_length_le (Wl _),List.drop_replicate,show xs.length+1-xs.length=1 by omega]
    rfl
   simp only[e1]
   have hvo:vd (xs++[0])=vd xs:=by rw[Za8];simp[vd]
   repeat(refine wkA ?_;intros)
   refine Zo (S:=Nat×List Nat×Nat) (fun s=>s.1<=xs.length+1/\s.2.1.length=xs.length+1/\Dg s.2.1/\s.2.2<=1/\vd s.2.1+s.2.2*4294967296 ^ s.1+vd (ys.drop s.1)*4294967296 ^ s.1=a+b)
    (fun s=>[(11, .slice (some ⟨bY,0,none⟩) ys.length ys.length),(12, .slice (some ⟨bo,0,none⟩) (xs.length+1) (xs.length+1)),(13, .int .u64 s.2.2),(52, .int .i64 ((xs.length+1:Nat):Int)),(53, .int .i64 s.1)])
    (fun s=>[⟨bo,dig .u32 s.2.1,230⟩,⟨bY,dig .u32 ys,230⟩,⟨bx,dig .u32 xs,230⟩]) (fun s=>xs.length+1-s.1) (0,xs++[0],0)
    ⟨by simp,by simp,ZgS hDx (fun d hd=>by simp at hd;omega),by simp,by simp[hvo,hS]⟩ (by repeat(first|exact ZA|refine Zw rfl ?_)) (Wj _) (fun s hs=>?_)
   obtain⟨i,os,c⟩:=s
   obtain⟨hi,hlo,hDo,hc,hinv⟩:=hs
   simp only at hi hlo hDo hc hinv⊢
   repeat(refine wkA ?_;intros)
   refine Zk rfl (fun h=>?_) (fun h=>?_)
   ·have hlt:i<xs.length+1:=by have:=Wa h;omega
    have hio:i<os.length:=by omega
    have hdo:=Z2 hDo hio
    repeat(refine wkA ?_;intros)
    refine jq (ZK rfl (show os[0+(i:Int).toNat*1]? =some os[i] by rw[show 0+(i:Int).toNat*1=i by omega];simp[hio])) rfl rfl ?_
    repeat(refine wkA ?_;intros)
    refine Zk rfl (fun h=>?_) (fun h=>?_)
    ·have hiy:i<ys.length:=by have:=Wa h;omega
     have hdy:=Z2 hDy hiy
     obtain⟨g1,g2,g3⟩:=Zi2 hio hDo hc hdy hinv (ZdF ys i hiy)
     repeat(refine wkA ?_;intros)
     refine jq (ZK rfl (show ys[0+(i:Int).toNat*1]? =some ys[i] by rw[show 0+(i:Int).toNat*1=i by omega];simp[hiy])) rfl rfl ?_
     repeat(refine wkA ?_;intros)
     refine jq (ZaI rfl rfl (by decide)) rfl rfl ?_
     repeat(refine wkA ?_;intros)
     rw[p32,IntKind.wrap_u32,show((c:Int)+(os[i]:Nat)+(ys[i]:Nat)) % 4294967296=(((c+os[i]+ys[i]) % 4294967296:Nat):Int) by omega,show((c:Int)+(os[i]:Nat)+(ys[i]:Nat)) / 4294967296=(((c+os[i]+ys[i]) / 4294967296:Nat):Int) by omega]
     refine Z4 rfl rfl (by omega) rfl ?_
     rw[show 0+(i:Int).toNat*1=i by omega]
     repeat(refine wkA ?_;intros)
     exact Zc (i+1,_,_) ⟨hlt,by rw[List.length_set];exact hlo,g2,g1,g3⟩ (by repeat(first|exact ZA|refine Zw rfl ?_)) (Wj _) (by simp only;omega)
    ·have hiy:ys.length<=i:=by have:=Wb h;omega
     obtain⟨g1,g2,g3⟩:=Zi2 (y:=0) hio hDo hc (by omega) hinv (by rw[Zbn ys i hiy,Zbn ys (i+1) (by omega)])
     simp only[Nat.add_zero] at g1 g2 g3
     repeat(refine wkA ?_;intros)
     refine jq (ZaI rfl rfl (by decide)) rfl rfl ?_
     repeat(refine wkA ?_;intros)
     rw[p32,IntKind.wrap_u32,show((c:Int)+(os[i]:Nat)) % 4294967296=(((c+os[i]) % 4294967296:Nat):Int) by omega,show((c:Int)+(os[i]:Nat)) / 4294967296=(((c+os[i]) / 4294967296:Nat):Int) by omega]
     refine Z4 rfl rfl (by omega) rfl ?_
     rw[show 0+(i:Int).toNat*1=i by omega]
     repeat(refine wkA ?_;intros)
     exact Zc (i+1,_,_) ⟨hlt,by rw[List.length_set];exact hlo,g2,g1,g3⟩ (by repeat(first|exact ZA|refine Zw rfl ?_)) (Wj _) (by simp only;omega)
   ·have hge:i=xs.length+1:=by have:=Wb h;omega
    subst hge
    repeat(refine wkA ?_;intros)
    have hfin:vd (os.take (xs.length+1))=a+b:=by
     rw[List.take_of_length_le (by omega)]
     rw[Zbn ys _ (by omega)] at hinv
     have h1:=ZaU hDx
     have h2:=ZaU hDy
     have h3:4294967296 ^ ys.length<=4294967296 ^ xs.length:=Nat.pow_le_pow_right (by omega) hle
     have h4:(4294967296:Nat) ^ (xs.length+1)=4294967296 ^ xs.length*4294967296:=Nat.pow_succ _ _
     have hc':c=0\/c=1:=by omega
     rcases hc' with rfl|rfl
     ·omega
     ·omega
    refine jq (Zbb rfl (fun w' hw'=>ZbH bo (xs.length+1) (xs.length+1) os (0,0) (by omega) (Wl _) (by omega) hDo w' (hw'.mem _ MemC.out).2)) rfl rfl ?_
    rw[hfin]
    repeat(refine wkA ?_;intros)
    exact rtT rfl rfl
end
section
theorem ZhB {os ys:List Nat}{i c r c' a T y:Nat}(hi:i<os.length)(hr:r+c+y=os[i]+c'*4294967296)(hS:vd os+T=a+vd (ys.drop i)*4294967296 ^ i+c*4294967296 ^ i)(hdr:vd (ys.drop i)=y+4294967296*vd (ys.drop (i+1))):
  vd (os.set i r)+T=a+vd (ys.drop (i+1))*4294967296 ^ (i+1)+c'*4294967296 ^ (i+1):=by
 have hs:=ZaO os i r hi
 rw[hdr] at hS
 rw[show(4294967296:Nat) ^ (i+1)=4294967296 ^ i*4294967296 from Nat.pow_succ _ _]
 generalize (4294967296:Nat) ^ i=p at*
 have e:(r+c+y)*p=(os[i]+c'*4294967296)*p:=by rw[hr]
 rw[Nat.add_mul,Nat.add_mul,Nat.add_mul,Nat.mul_comm c' 4294967296,Nat.mul_assoc] at e
 rw[Nat.add_mul,Nat.mul_assoc] at hS
 have e1:c'*(p*4294967296)=4294967296*(c'*p):=by rw[Nat.mul_comm p,<-Nat.mul_assoc,Nat.mul_comm c',Nat.mul_assoc]
 have e2:vd (ys.drop (i+1))*(p*4294967296)=4294967296*(vd (ys.drop (i+1))*p):=by rw[Nat.mul_comm p,<-Nat.mul_assoc,Nat.mul_comm (vd _) 4294967296,Nat.mul_assoc]
 rw[e1,e2]
 omega
theorem Zbt {a b:Nat}(h:b<=a):(mag b).size<=(mag a).size:=by
 rw[Z1]
 exact Nat.lt_of_le_of_lt h (Z1.1 (Wl _))
theorem ZpF (a b:Nat)(ha:(mag a).size<=1099511627776)(hba:b<=a)(w:World):Calls prog 209 [.string (mag a), .string (mag b)].toArray w (Ret (.string (mag (a-b))) w):=by
 have hb:(mag b).size<=1099511627776:=Wi (Zbt hba) ha
 refine Zb Tryz.func209 rfl Tryz.ntmps209 rfl ?_
 refine Zdf (ZdV ?_)
 repeat(first|refine sX rfl rfl ?_|(refine sS rfl rfl ?_ ?_;focus omega)|(refine sC rfl rfl ?_ ?_;focus(first|exact trivial|assumption|constructor <;> assumption|exact mb2 rfl rfl|exact mb4 rfl rfl rfl rfl))|(refine sA rfl rfl ?_;intro _)|refine sT rfl ?_|refine sW rfl rfl ?_|refine sK rfl rfl ?_|refine cY ?_|refine pkT rfl rfl rfl rfl ?_|refine pkF rfl rfl rfl rfl ?_)
 refine ZfZ (S:=Unit) (fun _=>True) (fun _=>[(0, .string (mag a)),(1, .string (mag b))]) (fun _=>[]) ?_ (fun _ _=>?_)
 ·repeat(refine wkA ?_;intros)
  refine Zk rfl (fun h=>?_) (fun h=>?_)
  ·rw[Wq] at h
   have h1:=Zcl h.1
   have h2:=Zcl h.2
   have h3:=Zcp a
   have h4:=Zcp b
   rw[h1] at h3
   rw[h2] at h4
   simp only[h1,h2]
   repeat(first|(refine wkA ?_;intros)|(refine sC rfl rfl ?_ ?_;focus(exact⟨h3,h4⟩)))
   rw[IntWalk.u64_in _ (by omega),show(a:Int)-b=((a-b:Nat):Int) by omega]
   repeat(first|(refine wkA ?_;intros)|(refine sC rfl rfl ?_ ?_;focus(omega)))
   exact rtT rfl rfl
  ·repeat(refine wkA ?_;intros)
   exact Ze () trivial (by repeat(first|exact ZA|refine Zw rfl ?_)) (Wj _)
 ·repeat(refine wkA ?_;intros)
  refine ZaH rfl (fun w' _=>Zau a ha w') rfl rfl ?_
  intro bx
  repeat(refine wkA ?_;intros)
  refine ZaH rfl (fun w' _=>Zau b hb w') rfl rfl ?_
  intro bY
  repeat(refine wkA ?_;intros)
  obtain⟨na,hna⟩:∃na,na=((mag a).size+3) / 4:=⟨_,rfl⟩
  obtain⟨nb,hnb⟩:∃nb,nb=((mag b).size+3) / 4:=⟨_,rfl⟩
  have hva:vd (dgs a na)=a:=by rw[hna,ZaC]
  have hvb:vd (dgs b nb)=b:=by rw[hnb,ZaC]
  have hla:=Z9 na a
  have hlb:=Z9 nb b
  have hDx:=Zaw na a
  have hDy:=Zaw nb b
  have hle:nb<=na:=by have:=Zbt hba;omega
  simp only[<-hna,<-hnb]
  generalize dgs a na=xs at*
  generalize dgs b nb=ys at*
  subst hla
  subst hlb
  refine Zbx (k:= .u32) (B:=4) (m:=xs.length) rfl rfl ⟨by omega,by omega⟩ rfl rfl ?_
  intro bo
  repeat(refine wkA ?_;intros)
  refine Zh6 (k:= .u32) rfl rfl (by simp) (Wl _) rfl rfl ?_
  have e1:xs.take (min xs.length xs.length)++(List.replicate xs.length 0).drop (min xs.length xs.length)=xs:=by
   rw[Nat.min_self,List.take_of_length_le (Wl _),List.drop_replicate,Nat.sub_self]
   simp
  simp only[e1]
  repeat(refine wkA ?_;intros)
  refine Zo (S:=Nat×List Nat×Nat) (fun s=>s.1<=xs.length/\s.2.1.length=xs.length/\Dg s.2.1/\s.2.2<=1/\vd s.2.1+b=a+vd (ys.drop s.1)*4294967296 ^ s.1+s.2.2*4294967296 ^ s.1)
   (fun s=>[(9, .slice (some ⟨bY,0,none⟩) ys.length ys.length),(10, .slice (some ⟨bo,0,none⟩) xs.length xs.length),(11, .int .i64 s.2.2),(37, .int .i64 (xs.length:Int)),(38, .int .i64 s.1)])
   (fun s=>[⟨bo,dig .u32 s.2.1,230⟩,⟨bY,dig .u32 ys,230⟩,⟨bx,dig .u32 xs,230⟩]) (fun s=>xs.length-s.1) (0,xs,0)
   ⟨by simp,by simp,hDx,by simp,by simp[hva,hvb]⟩ (by repeat(first|exact ZA|refine Zw rfl ?_)) (Wj _) (fun s hs=>?_)
  obtain⟨i,os,c⟩:=s
  obtain⟨hi,hlo,hDo,hc,hinv⟩:=hs
  simp only at hi hlo hDo hc hinv⊢
  repeat(refine wkA ?_;intros)
  refine Zk rfl (fun h=>?_) (fun h=>?_)
  ·have hlt:i<xs.length:=by have:=Wa h;omega
   have hio:i<os.length:=by omega
   have hdo:=Z2 hDo hio
   repeat(refine wkA ?_;intros)
   refine jq (ZK rfl (show os[0+(i:Int).toNat*1]? =some os[i] by rw[show 0+(i:Int).toNat*1=i by omega];simp[hio])) rfl rfl ?_
   repeat(refine wkA ?_;intros)
   refine ZY (S:=Int) (fun s=>∃y:Nat,s=(os[i]:Int)-c-y/\y<4294967296/\vd (ys.drop i)=y+4294967296*vd (ys.drop (i+1)))
    (fun s=>[(9, .slice (some ⟨bY,0,none⟩) ys.length ys.length),(10, .slice (some ⟨bo,0,none⟩) xs.length xs.length),(12, .int .i64 i),(13, .int .i64 s),(37, .int .i64 (xs.length:Int)),(38, .int .i64 i)])
    (fun s=>[⟨bo,dig .u32 os,230⟩,⟨bY,dig .u32 ys,230⟩,⟨bx,dig .u32 xs,230⟩]) ?_ (fun d hd=>?_)
   ·refine Zk rfl (fun h=>?_) (fun h=>?_)
    ·have hiy:i<ys.length:=by have:=Wa h;omega
     have hdy:=Z2 hDy hiy
     repeat(refine wkA ?_;intros)
     refine jq (ZK rfl (show ys[0+(i:Int).toNat*1]? =some ys[i] by rw[show 0+(i:Int).toNat*1=i by omega];simp[hiy])) rfl rfl ?_
     repeat(refine wkA ?_;intros)
     exact Ze _ ⟨ys[i],rfl,hdy,ZdF ys i hiy⟩ (by repeat(first|exact ZA|refine Zw rfl ?_)) (Wj _)
    ·have hiy:ys.length<=i:=by have:=Wb h;omega
     repeat(refine wkA ?_;intros)
     exact Ze ((os[i]:Int)-c) ⟨0,by simp,by omega,by rw[Zbn ys i hiy,Zbn ys (i+1) (by omega)]⟩ (by repeat(first|exact ZA|refine Zw rfl ?_)) (Wj _)
   ·obtain⟨y,hdv,hy,hdr⟩:=hd
    repeat(refine wkA ?_;intros)
    refine Zk rfl (fun h=>?_) (fun h=>?_)
    ·have hneg:d<0:=Wa h
     obtain⟨r,hr⟩:∃r:Nat,(r:Int)=d+4294967296:=⟨(d+4294967296).toNat,by omega⟩
     have g:=ZhB (r:=r) (c':=1) hio (by omega) hinv hdr
     repeat(refine wkA ?_;intros)
     simp only[<-hr]
     repeat(refine wkA ?_;intros)
     refine Z4 rfl rfl (by omega) rfl ?_
     rw[show 0+(i:Int).toNat*1=i by omega]
     repeat(refine wkA ?_;intros)
     exact Zc (i+1,_,1) ⟨hlt,by rw[List.length_set];exact hlo,ZbA hDo _ _ (by omega),by simp,g⟩ (by repeat(first|exact ZA|refine Zw rfl ?_)) (Wj _) (by simp only;omega)
    ·have hneg:¬d<0:=Wb h
     obtain⟨r,hr⟩:∃r:Nat,(r:Int)=d:=⟨d.toNat,by omega⟩
     have g:=ZhB (r:=r) (c':=0) hio (by omega) hinv hdr
     simp only[<-hr]
     repeat(refine wkA ?_;intros)
     refine Z4 rfl rfl (by omega) rfl ?_
     rw[show 0+(i:Int).toNat*1=i by omega]
     repeat(refine wkA ?_;intros)
     exact Zc (i+1,_,0) ⟨hlt,by rw[List.length_set];exact hlo,ZbA hDo _ _ (by omega),by simp,g⟩ (by repeat(first|exact ZA|refine Zw rfl ?_)) (Wj _) (by simp only;omega)
  ·have hge:i=xs.length:=by have:=Wb h;omega
   subst hge
   repeat(refine wkA ?_;intros)
   have hfin:vd (os.take xs.length)=a-b:=by
    rw[List.take_of_length_le (by omega)]
    rw[Zbn ys _ (by omega)] at hinv
    have h1:=ZaU hDo
    rw[hlo] at h1
    have hc':c=0\/c=1:=by omega
    rcases hc' with rfl|rfl
    ·omega
    ·omega
   refine jq (Zbb rfl (fun w' hw'=>ZbH bo xs.length xs.length os (0,0) (by omega) (Wl _) (by omega) hDo w' (hw'.mem _ MemC.out).2)) rfl rfl ?_
   rw[hfin]
   repeat(refine wkA ?_;intros)
   exact rtT rfl rfl
end
section
theorem Zpe {os ys:List Nat}{i k c d M t:Nat}(hk:k<ys.length)(hi:i+k<os.length)(ht:t=c+(os[i+k]+d*ys[k]))(hS:vd os+c*4294967296 ^ (i+k)=M+d*vd (ys.take k)*4294967296 ^ i):
  vd (os.set (i+k) (t % 4294967296))+t / 4294967296*4294967296 ^ (i+(k+1))=M+d*vd (ys.take (k+1))*4294967296 ^ i:=by
 have hs:=ZaO os (i+k) (t % 4294967296) hi
 have hb:=Nat.div_add_mod t 4294967296
 generalize t / 4294967296=q at*
 generalize t % 4294967296=r at*
 have hy:vd (ys.take (k+1))=vd (ys.take k)+4294967296 ^ k*ys[k]:=by
  rw[Wn hk,Za8,Wt,Nat.min_eq_left (by omega)]
  simp[vd]
 rw[hy,show(4294967296:Nat) ^ (i+(k+1))=4294967296 ^ (i+k)*4294967296 from Nat.pow_succ _ _]
 have e:(4294967296*q+r)*4294967296 ^ (i+k)=(c+(os[i+k]+d*ys[k]))*4294967296 ^ (i+k):=by rw[hb,ht]
 have e3:d*(vd (ys.take k)+4294967296 ^ k*ys[k])*4294967296 ^ i=d*vd (ys.take k)*4294967296 ^ i+d*ys[k]*4294967296 ^ (i+k):=by
  rw[Nat.mul_add,Nat.add_mul,Nat.pow_add]
  congr 1
  rw[Nat.mul_comm (4294967296 ^ k),<-Nat.mul_assoc,Nat.mul_assoc (d*ys[k]),Nat.mul_comm (4294967296 ^ k)]
 rw[e3]
 generalize (4294967296:Nat) ^ (i+k)=p at*
 rw[Nat.add_mul,Nat.add_mul,Nat.add_mul,Nat.mul_assoc] at e
 have e1:q*(p*4294967296)=4294967296*(q*p):=by rw[Nat.mul_comm p,<-Nat.mul_assoc,Nat.mul_comm q,Nat.mul_assoc]
 rw[e1]
 omega
theorem Ze8 {c o d y:Nat}(hc:c<4294967296)(ho:o<4294967296)(hd:d<4294967296)(hy:y<4294967296):d*y<=18446744065119617025/\c+(o+d*y)<18446744073709551616:=by
 have h:d*y<=4294967295*4294967295:=Nat.mul_le_mul (by omega) (by omega)
 omega
theorem Zq6 {os:List Nat}{i:Nat}(h:vd os<4294967296 ^ i)(hi:i<os.length):os[i]=0:=by
 have:=Zek os i hi
 rcases Nat.eq_zero_or_pos os[i] with h1|h1
 ·exact h1
 ·have h2:1*4294967296 ^ i<=os[i]*4294967296 ^ i:=Nat.mul_le_mul_right _ h1
  omega
instance ZxY (x y:Nat):SpecC prog 229 [.int .u64 x, .int .u64 y] (.tuple #[.int .u64 ((x*y / 18446744073709551616:Nat):Int), .int .u64 ((x*y % 18446744073709551616:Nat):Int)]) (x<18446744073709551616/\y<18446744073709551616):=⟨fun h w=>
 (Tryz.bits_Mul64 x y h.1 h.2 w).mono fun e w' ⟨h1,h2⟩=>by subst h2;exact⟨h1,Ext.refl _⟩⟩
theorem Zp3 (a b:Nat)(ha:(mag a).size<=1099511627776)(hb:(mag b).size<=1099511627776)(w:World):Calls prog 210 [.string (mag a), .string (mag b)].toArray w (Ret (.string (mag (a*b))) w):=by
 refine Zb Tryz.func210 rfl Tryz.ntmps210 rfl ?_
 refine Zdf (ZdV ?_)
 repeat(first|refine sX rfl rfl ?_|(refine sS rfl rfl ?_ ?_;focus omega)|(refine sC rfl rfl ?_ ?_;focus(first|exact trivial|assumption|constructor <;> assumption|exact mb2 rfl rfl|exact mb4 rfl rfl rfl rfl))|(refine sA rfl rfl ?_;intro _)|refine sT rfl ?_|refine sW rfl rfl ?_|refine sK rfl rfl ?_|refine cY ?_|refine pkT rfl rfl rfl rfl ?_|refine pkF rfl rfl rfl rfl ?_)
 refine ZfZ (S:=Unit) (fun _=>True) (fun _=>[(0, .string (mag a)),(1, .string (mag b))]) (fun _=>[]) ?_ (fun _ _=>?_)
 ·repeat(refine wkA ?_;intros)
  refine Zk rfl (fun h=>?_) (fun h=>?_)
  ·rw[Wq] at h
   have h1:=Zcl h.1
   have h2:=Zcl h.2
   have h3:=Zcp a
   have h4:=Zcp b
   rw[h1] at h3
   rw[h2] at h4
   simp only[h1,h2]
   repeat(first|(refine wkA ?_;intros)|(refine sC rfl rfl ?_ ?_;focus(exact⟨h3,h4⟩)))
   refine Zk rfl (fun h=>?_) (fun h=>?_)
   ·have h5:=Wa h
    have h6:(a*b) % 18446744073709551616=a*b:=by omega
    simp only[h6]
    repeat(first|(refine wkA ?_;intros)|(refine sC rfl rfl ?_ ?_;focus(omega)))
    exact rtT rfl rfl
   ·repeat(refine wkA ?_;intros)
    exact Ze () trivial (by repeat(first|exact ZA|refine Zw rfl ?_)) (Wj _)
  ·repeat(refine wkA ?_;intros)
   exact Ze () trivial (by repeat(first|exact ZA|refine Zw rfl ?_)) (Wj _)
 ·repeat(refine wkA ?_;intros)
  refine ZaH rfl (fun w' _=>Zau a ha w') rfl rfl ?_
  intro bx
  repeat(refine wkA ?_;intros)
  refine ZaH rfl (fun w' _=>Zau b hb w') rfl rfl ?_
  intro bY
  repeat(refine wkA ?_;intros)
  obtain⟨na,hna⟩:∃na,na=((mag a).size+3) / 4:=⟨_,rfl⟩
  obtain⟨nb,hnb⟩:∃nb,nb=((mag b).size+3) / 4:=⟨_,rfl⟩
  have hva:vd (dgs a na)=a:=by rw[hna,ZaC]
  have hvb:vd (dgs b nb)=b:=by rw[hnb,ZaC]
  have hla:=Z9 na a
  have hlb:=Z9 nb b
  have hDx:=Zaw na a
  have hDy:=Zaw nb b
  simp only[<-hna,<-hnb]
  generalize dgs a na=xs at*
  generalize dgs b nb=ys at*
  subst hla
  subst hlb
  have em:(xs.length:Int)+(ys.length:Int)+1=((xs.length+ys.length+1:Nat):Int):=by omega
  simp only[em]
  refine Zbx (k:= .u32) (B:=4) (m:=xs.length+ys.length+1) rfl rfl ⟨by omega,by omega⟩ rfl rfl ?_
  intro bo
  repeat(refine wkA ?_;intros)
  refine Zo (S:=Nat×List Nat) (fun s=>s.1<=xs.length/\s.2.length=xs.length+ys.length+1/\Dg s.2/\vd s.2=vd (xs.take s.1)*b)
   (fun s=>[(10, .slice (some ⟨bx,0,none⟩) xs.length xs.length),(11, .slice (some ⟨bY,0,none⟩) ys.length ys.length),(12, .slice (some ⟨bo,0,none⟩) (xs.length+ys.length+1) (xs.length+ys.length+1)),(46, .slice (some ⟨bx,0,none⟩) xs.length xs.length),(47, .int .i64 (xs.length:Int)),(48, .int .i64 s.1)])
   (fun s=>[⟨bo,dig .u32 s.2,230⟩,⟨bY,dig .u32 ys,230⟩,⟨bx,dig .u32 xs,230⟩]) (fun s=>xs.length-s.1) (0,List.replicate (xs.length+ys.length+1) 0)
   ⟨by simp,by simp,Zez _,by simp[vd,ZeG]⟩ (by repeat(first|exact ZA|refine Zw rfl ?_)) (Wj _) (fun s hs=>?_)
  obtain⟨i,os⟩:=s
  obtain⟨hi,hlo,hDo,hinv⟩:=hs
  simp only at hi hlo hDo hinv⊢
  repeat(refine wkA ?_;intros)
  refine Zk rfl (fun h=>?_) (fun h=>?_)
  ·have hlt:i<xs.length:=by have:=Wa h;omega
   have hdx:=Z2 hDx hlt
   repeat(refine wkA ?_;intros)
   refine jq (ZK rfl (show xs[0+(i:Int).toNat*1]? =some xs[i] by rw[show 0+(i:Int).toNat*1=i by omega];simp[hlt])) rfl rfl ?_
   repeat(refine wkA ?_;intros)
   have hbig:vd os<4294967296 ^ (i+ys.length):=by
    rw[hinv,Nat.pow_add]
    have h1:=ZaU (Zbl hDx i)
    rw[Wt,Nat.min_eq_left (by omega)] at h1
    have h2:=ZaU hDy
    rw[hvb] at h2
    rcases Nat.eq_zero_or_pos b with h3|h3
    ·subst h3
     rw[Nat.mul_zero]
     exact Nat.mul_pos (Nat.pow_pos (by omega)) (Nat.pow_pos (by omega))
    ·exact Nat.lt_of_lt_of_le (Nat.mul_lt_mul_of_pos_right h1 h3) (Nat.mul_le_mul_left _ (Nat.le_of_lt h2))
   have htop:=Zq6 hbig (by omega)
   refine Zo (S:=Nat×List Nat×Nat) (fun s=>s.1<=ys.length/\s.2.1.length=xs.length+ys.length+1/\Dg s.2.1/\s.2.2<4294967296/\s.2.1[i+ys.length]? =some 0/\vd s.2.1+s.2.2*4294967296 ^ (i+s.1)=vd (xs.take i)*b+xs[i]*vd (ys.take s.1)*4294967296 ^ i)
    (fun s=>[(10, .slice (some ⟨bx,0,none⟩) xs.length xs.length),(11, .slice (some ⟨bY,0,none⟩) ys.length ys.length),(12, .slice (some ⟨bo,0,none⟩) (xs.length+ys.length+1) (xs.length+ys.length+1)),(46, .slice (some ⟨bx,0,none⟩) xs.length xs.length),(47, .int .i64 (xs.length:Int)),(48, .int .i64 i),(13, .int .i64 i),(14, .int .u32 xs[i]),(15, .int .u64 s.2.2),(54, .int .i64 ys.length),(55, .int .i64 s.1)])
    (fun s=>[⟨bo,dig .u32 s.2.1,230⟩,⟨bY,dig .u32 ys,230⟩,⟨bx,dig .u32 xs,230⟩]) (fun s=>ys.length-s.1) (0,os,0)
    ⟨by simp,hlo,hDo,by simp,by simp only;rw[List.getElem?_eq_getElem (by omega),htop],by simp[vd,hinv]⟩ (by repeat(first|exact ZA|refine Zw rfl ?_)) (Wj _) (fun s hs=>?_)
   obtain⟨k,ps,c⟩:=s
   obtain⟨hk,hlp,hDp,hc,hz,hin⟩:=hs
   simp only at hk hlp hDp hc hz hin⊢
   repeat(refine wkA ?_;intros)
   refine Zk rfl (fun h=>?_) (fun h=>?_)
   ·have hky:k<ys.length:=by have:=Wa h;omega
    have hdy:=Z2 hDy hky
    have hip:i+k<ps.length:=by omega
    have hdp:=Z2 hDp hip
    obtain⟨hw1,hw2⟩:=Ze8 hc hdp hdx hdy
    repeat(refine wkA ?_;intros)
    refine jD 19 19 (h:=?_)
    (repeat(refine wkH ?_))
    refine hq (ZK rfl (show ps[0+((i:Int)+(k:Int)).toNat*1]? =some ps[i+k] by rw[show 0+((i:Int)+(k:Int)).toNat*1=i+k by omega];simp[hip])) rfl rfl ?_
    (repeat(refine wkH ?_))
    refine hq (ZK rfl (show ys[0+(k:Int).toNat*1]? =some ys[k] by rw[show 0+(k:Int).toNat*1=k by omega];simp[hky])) rfl rfl ?_
    refine hq (ZfO rfl ?_) rfl rfl ?_
    ·omega
    refine hq (Zgj rfl rfl ?_) rfl rfl ?_
    ·rw[<-Int.natCast_mul];omega
    rw[<-Int.natCast_mul]
    (repeat(refine wkH ?_))
    refine Zp (Zq ?_)
    repeat(refine wkA ?_;intros)
    refine jq (ZaI rfl rfl (by decide)) rfl rfl ?_
    repeat(refine wkA ?_;intros)
    obtain⟨t,ht⟩:∃t,t=c+(ps[i+k]+xs[i]*ys[k]):=⟨_,rfl⟩
    rw[p32,IntKind.wrap_u32,show(c:Int)+((ps[i+k]:Nat)+((xs[i]*ys[k]:Nat):Int))=(t:Int) by omega,show(t:Int) % 4294967296=((t % 4294967296:Nat):Int) by omega,show(t:Int) / 4294967296=((t / 4294967296:Nat):Int) by omega]
    refine Z4 rfl rfl (by omega) rfl ?_
    rw[show 0+((i:Int)+(k:Int)).toNat*1=i+k by omega]
    have g:=Zpe hky hip ht hin
    repeat(refine wkA ?_;intros)
    exact Zc (k+1,_,t / 4294967296) ⟨hky,by rw[List.length_set];exact hlp,ZbA hDp _ _ (Nat.mod_lt _ (by omega)),by simp only;omega,by simp only;rw[List.getElem?_set_ne (by omega)];exact hz,g⟩ (by repeat(first|exact ZA|refine Zw rfl ?_)) (Wj _) (by simp only;omega)
   ·have hge:k=ys.length:=by have:=Wb h;omega
    subst hge
    repeat(refine wkA ?_;intros)
    have hip:i+ys.length<ps.length:=by omega
    refine Z4 rfl rfl (by omega) rfl ?_
    rw[show 0+((i:Int)+(ys.length:Int)).toNat*1=i+ys.length by omega]
    repeat(refine wkA ?_;intros)
    have hfin:vd (ps.set (i+ys.length) c)=vd (xs.take (i+1))*b:=by
     have hs:=ZaO ps (i+ys.length) c hip
     rw[List.getElem?_eq_getElem hip] at hz
     simp only[Option.some.injEq] at hz
     rw[hz,Nat.zero_mul] at hs
     rw[List.take_of_length_le (Wl _),hvb] at hin
     have hy:vd (xs.take (i+1))=vd (xs.take i)+4294967296 ^ i*xs[i]:=by
      rw[Wn hlt,Za8,Wt,Nat.min_eq_left (by omega)]
      simp[vd]
     rw[hy,Nat.add_mul]
     have e4:4294967296 ^ i*xs[i]*b=xs[i]*b*4294967296 ^ i:=by rw[Nat.mul_assoc,Nat.mul_comm]
     rw[e4]
     omega
    exact Zc (i+1,_) ⟨hlt,by rw[List.length_set];exact hlp,ZbA hDp _ _ hc,hfin⟩ (by repeat(first|exact ZA|refine Zw rfl ?_)) (Wj _) (by simp only;omega)
  ·have hge:i=xs.length:=by have:=Wb h;omega
   subst hge
   repeat(refine wkA ?_;intros)
   have hfin:vd (os.take (xs.length+ys.length+1))=a*b:=by
    rw[List.take_of_length_le (by omega),hinv,List.take_of_length_le (Wl _),hva]
   refine jq (Zbb rfl (fun w' hw'=>ZbH bo (xs.length+ys.length+1) (xs.length+ys.length+1) os (0,0) (by omega) (Wl _) (by omega) hDo w' (hw'.mem _ MemC.out).2)) rfl rfl ?_
   rw[hfin]
   repeat(refine wkA ?_;intros)
   exact rtT rfl rfl
end
section
def mg (n:Int):Nat:=(mag n.natAbs).size
abbrev LIM :Nat:=1099511627776
theorem Zhm {n:Int}{k:Nat}:mg n<=k↔n.natAbs<256 ^ k:=Z1
theorem Zf4 (n:Int):mg (-n)=mg n:=by unfold mg;rw[Int.natAbs_neg]
theorem ZeO {m n:Int}(h:m.natAbs<=n.natAbs):mg m<=mg n:=Zbt h
theorem Zq1 (n:Int):n.natAbs<256 ^ mg n:=Zhm.1 (Wl _)
theorem Zoo {a b:Int}{k:Nat}(ha:mg a<=k)(hb:mg b<=k):mg (a+b)<=k+1:=by
 rw[Zhm] at ha hb⊢
 have h:=Int.natAbs_add_le a b
 rw[Nat.pow_succ]
 omega
theorem ZbM (a b:Int):mg (a*b)<=mg a+mg b:=by
 rw[Zhm,Int.natAbs_mul,Nat.pow_add]
 exact Nat.mul_lt_mul'' (Zq1 a) (Zq1 b)
theorem Zcb {n:Int}{k:Nat}(h:n.natAbs<256 ^ k):mg n<=k:=Zhm.2 h
instance (priority :=high) ZA4 (n:Int):LdC prog 4 (Zv (I n)) 0 (.bool (decide (n<0))):=⟨ZF⟩
instance (priority :=high) ZCo (n:Int):LdC prog 9 (Zv (I n)) 1 (.string (mag n.natAbs)):=⟨ZF⟩
instance ZCL (x y:Int):SpecC prog 165 [.int .i64 x, .int .i64 y] (.int .i64 (Lib.compareInt x y)) True:=⟨fun _ w=>(Tryz.cmp_Compare_int x y w).mono fun e w' ⟨h1,h2⟩=>by subst h2;exact⟨h1,Ext.refl _⟩⟩
instance Zx3 (a b:ByteArray):SpecC prog 228 [.string a, .string b] (.int .i64 (Lib.compareBytes a.data.toList b.data.toList)) True:=⟨fun _ w=>(Tryz.strings_Compare a b w).mono fun e w' ⟨h1,h2⟩=>by subst h2;exact⟨h1,Ext.refl _⟩⟩
theorem Zr1 (b c:Nat)(x y:Int)(fz:Nat×Nat)(w:World)(hw:w.heap[b]? =some (.cells (nums .i64 [x,y]) 3 fz)):
  Calls prog 164 [.slice (some ⟨b,0,none⟩) 2 c].toArray w (Ret (.int .i64 (if x≠0 then x else y)) w):=by
 refine Zb Tryz.func164 rfl Tryz.ntmps164 rfl ?_
 repeat(refine wkA ?_;intros)
 refine Zo (S:=Nat) (fun k=>k<=2/\(1<=k->x=0)/\(2<=k->y=0)) (fun k=>[(3, .int .i64 0),(6, .slice (some ⟨b,0,none⟩) 2 c),(7, .int .i64 2),(8, .int .i64 k)]) (fun _=>[]) (fun k=>2-k) 0 ⟨by omega,by omega,by omega⟩
  (by repeat(first|exact ZA|refine Zw rfl ?_)) (Wj _) (fun k hk=>?_)
 obtain⟨hk2,h1,h2⟩:=hk
 repeat(refine wkA ?_;intros)
 refine Zk rfl (fun h=>?_) (fun h=>?_)
 ·have hlt:k<2:=by have:=Wa h;omega
  repeat(refine wkA ?_;intros)
  rcases(by omega:k=0\/k=1) with rfl|rfl
  ·refine jq (Ze7 rfl hw (ZF (v:= .int .i64 x) (by kernel_rfl) rfl)) rfl rfl ?_
   repeat(refine wkA ?_;intros)
   refine Zk rfl (fun h=>?_) (fun h=>?_)
   ·have hx:x≠0:=by simpa using h
    rw[if_pos hx]
    repeat(refine wkA ?_;intros)
    exact rtT rfl rfl
   ·have hx:x=0:=by simpa using h
    repeat(refine wkA ?_;intros)
    exact Zc 1 ⟨by omega,fun _=>hx,by omega⟩ (by repeat(first|exact ZA|refine Zw rfl ?_)) (Wj _) (by omega)
  ·refine jq (Ze7 rfl hw (ZF (v:= .int .i64 y) (by kernel_rfl) rfl)) rfl rfl ?_
   have hx:=h1 (by omega)
   repeat(refine wkA ?_;intros)
   refine Zk rfl (fun h=>?_) (fun h=>?_)
   ·rw[if_neg (by simp[hx])]
    repeat(refine wkA ?_;intros)
    exact rtT rfl rfl
   ·have hy:y=0:=by simpa using h
    repeat(refine wkA ?_;intros)
    exact Zc 2 ⟨by omega,fun _=>hx,fun _=>hy⟩ (by repeat(first|exact ZA|refine Zw rfl ?_)) (Wj _) (by omega)
 ·have hge:k=2:=by have:=Wb h;omega
  subst hge
  have hx:=h1 (by omega)
  have hy:=h2 (by omega)
  subst hx
  subst hy
  repeat(refine wkA ?_;intros)
  exact rtT rfl rfl
theorem ZtF (x y:Int)(w:World):(Instr.buildSlice 65 2 [(0, .int .i64 x),(1, .int .i64 y)].toArray).run prog w= .ok (.slice (some ⟨w.heap.size,0,none⟩) 2 2) (w.alloc (.cells (nums .i64 [x,y]) 3)):=by kernel_rfl
instance ZAx (x y:Int):BsC prog 65 2 [(0, .int .i64 x),(1, .int .i64 y)] (nums .i64 [x,y]) 3:=⟨ZtF x y⟩
instance ZvX (a b:Nat):SpecC prog 208 [.string (mag a), .string (mag b)] (.int .i64 (Lib.compareInt a b)) True:=⟨fun _ w=>by
 refine Zb Tryz.func208 rfl Tryz.ntmps208 rfl ?_
 repeat(refine wkA ?_;intros)
 refine Zhc rfl rfl rfl ?_
 intro b1
 repeat(refine wkA ?_;intros)
 refine jq (Zbb rfl (fun w' hw'=>Zr1 b1 2 _ _ (0,0) w' (hw'.mem _ MemC.out).2)) rfl rfl ?_
 rw[Zsx a b]
 repeat(refine wkA ?_;intros)
 exact rtT rfl rfl⟩
instance ZDd (a b:Nat):SpecC prog 207 [.string (mag a), .string (mag b)] (.string (mag (a+b))) ((mag a).size<=LIM/\(mag b).size<=LIM):=⟨fun h w=>ZoN a b h.1 h.2 w⟩
instance ZDg (a b:Nat):SpecC prog 209 [.string (mag a), .string (mag b)] (.string (mag (a-b))) ((mag a).size<=LIM/\b<=a):=⟨fun h w=>ZpF a b h.1 h.2 w⟩
instance ZC3 (a b:Nat):SpecC prog 210 [.string (mag a), .string (mag b)] (.string (mag (a*b))) ((mag a).size<=LIM/\(mag b).size<=LIM):=⟨fun h w=>Zp3 a b h.1 h.2 w⟩
theorem Zew {a b:Int}:0<=Lib.compareInt a b↔b<=a:=by unfold Lib.compareInt;by_cases h1:a<b <;> by_cases h2:a>b <;> simp[h1,h2] <;> omega
theorem Zke {a b:Int}:Lib.compareInt a b<0↔a<b:=by unfold Lib.compareInt;by_cases h1:a<b <;> by_cases h2:a>b <;> simp[h1,h2] <;> omega
instance ZDi (a b:Int):SpecC prog 175 [vI a,vI b] (vI (a+b)) (mg a<=LIM/\mg b<=LIM):=⟨fun hp w=>by
 refine Zb Tryz.func175 rfl Tryz.ntmps175 rfl ?_
 repeat(refine wkA ?_;intros)
 refine Zk rfl (fun h=>?_) (fun h=>?_)
 ·have h1:decide (a<0)=decide (b<0):=by simpa using h
  repeat(refine wkA ?_;intros)
  (refine jD 8 8 (h:=?_);(repeat(first|refine wkH ?_|(refine tC rfl rfl ?_ ?_;focus(first|exact trivial|exact hp))));refine Zp ?_;(repeat(refine Z3 ?_;intro _));refine Zq ?_)
  rw[show sg (decide (a<0)) (a.natAbs+b.natAbs)=a+b by unfold sg;by_cases h2:a<0 <;> simp[h2] at h1⊢ <;> omega]
  repeat(refine wkA ?_;intros)
  exact rtC rfl rfl
 ·have h1:decide (a<0)≠decide (b<0):=by simpa using h
  repeat(refine wkA ?_;intros)
  refine Zk rfl (fun h=>?_) (fun h=>?_)
  ·have h2:=Zew.1 (Wa h)
   have h3:b.natAbs<=a.natAbs:=by omega
   repeat(refine wkA ?_;intros)
   (refine jD 8 8 (h:=?_);(repeat(first|refine wkH ?_|(refine tC rfl rfl ?_ ?_;focus(first|exact trivial|exact⟨hp.1,h3⟩))));refine Zp ?_;(repeat(refine Z3 ?_;intro _));refine Zq ?_)
   rw[show sg (decide (a<0)) (a.natAbs-b.natAbs)=a+b by unfold sg;by_cases h2:a<0 <;> simp[h2] at h1⊢ <;> omega]
   repeat(refine wkA ?_;intros)
   exact rtC rfl rfl
  ·have h2:¬(b.natAbs:Int)<=(a.natAbs:Int):=fun h2=>Wb h (Zew.2 h2)
   have h3:a.natAbs<=b.natAbs:=by omega
   repeat(refine wkA ?_;intros)
   (refine jD 8 8 (h:=?_);(repeat(first|refine wkH ?_|(refine tC rfl rfl ?_ ?_;focus(first|exact trivial|exact⟨hp.2,h3⟩))));refine Zp ?_;(repeat(refine Z3 ?_;intro _));refine Zq ?_)
   rw[show sg (decide (b<0)) (b.natAbs-a.natAbs)=a+b by unfold sg;by_cases h2:b<0 <;> simp[h2] at h1⊢ <;> omega]
   repeat(refine wkA ?_;intros)
   exact rtC rfl rfl⟩
instance ZCK (a b:Int):SpecC prog 176 [vI a,vI b] (vI (a*b)) (mg a<=LIM/\mg b<=LIM):=⟨fun hp w=>by
 refine Zb Tryz.func176 rfl Tryz.ntmps176 rfl ?_
 repeat(refine wkA ?_;intros)
 (refine jD 11 11 (h:=?_);(repeat(first|refine wkH ?_|(refine tC rfl rfl ?_ ?_;focus(first|trivial|exact hp))));refine Zp ?_;(repeat(refine Z3 ?_;intro _));refine Zq ?_)
 rw[show sg (decide (a<0) != decide (b<0)) (a.natAbs*b.natAbs)=a*b by
  unfold sg
  rw[<-Int.natAbs_mul]
  rcases Int.lt_or_le a 0 with h1|h1 <;> rcases Int.lt_or_le b 0 with h2|h2
  ·have:=Int.mul_pos_of_neg_of_neg h1 h2
   simp[h1,h2]
   omega
  ·have h3:¬b<0:=by omega
   have:=Int.mul_nonpos_of_nonpos_of_nonneg (Int.le_of_lt h1) h2
   simp[h1,h3]
   omega
  ·have h3:¬a<0:=by omega
   have:=Int.mul_nonpos_of_nonneg_of_nonpos h1 (Int.le_of_lt h2)
   simp[h2,h3]
   omega
  ·have h3:¬a<0:=by omega
   have h4:¬b<0:=by omega
   have:=Int.mul_nonneg h1 h2
   simp[h3,h4]
   omega]
 repeat(refine wkA ?_;intros)
 exact rtC rfl rfl⟩
instance Zx0 (a:Int):SpecC prog 171 [vI a] (vI (-a)) True:=⟨fun _ w=>by
 refine Zb Tryz.func171 rfl Tryz.ntmps171 rfl ?_
 repeat(refine wkA ?_;intros)
 rw[show sg (!decide (a<0)) a.natAbs= -a by unfold sg;by_cases h:a<0 <;> simp[h] <;> omega]
 repeat(refine wkA ?_;intros)
 exact rtC rfl rfl⟩
theorem Zk3 {b:Int}(h:0<=b):0<=b.sign:=by
 rcases(by omega:b=0\/0<b) with rfl|h
 ·decide
 ·rw[Int.sign_eq_one_of_pos h];decide
instance ZCj (a:Int):SpecC prog 127 [vI a] (.int .i64 a.sign) True:=⟨fun _ w=>by
 refine Zb Tryz.func127 rfl Tryz.ntmps127 rfl ?_
 repeat(refine wkA ?_;intros)
 refine Zk rfl (fun h=>?_) (fun h=>?_)
 ·have h1:=Wa h
  have h2:a=0:=by have:=Zad.1 h1;omega
  subst h2
  repeat(refine wkA ?_;intros)
  exact rtT rfl rfl
 ·have h1:¬a.natAbs=0:=fun h1=>Wb h (Zad.2 h1)
  repeat(refine wkA ?_;intros)
  refine Zk rfl (fun h=>?_) (fun h=>?_)
  ·have h2:a<0:=Wa h
   rw[Int.sign_eq_neg_one_of_neg h2]
   repeat(refine wkA ?_;intros)
   exact rtT rfl rfl
  ·have h2:¬a<0:=Wb h
   rw[Int.sign_eq_one_of_pos (by omega)]
   repeat(refine wkA ?_;intros)
   exact rtT rfl rfl⟩
instance Zwc (a b:Int):SpecC prog 203 [vI a,vI b] (.int .i64 (Lib.compareInt a b)) True:=⟨fun _ w=>by
 refine Zb Tryz.func203 rfl Tryz.ntmps203 rfl ?_
 repeat(refine wkA ?_;intros)
 refine Zk rfl (fun h=>?_) (fun h=>?_)
 ·have h1:decide (a<0)≠decide (b<0):=by simpa using h
  repeat(refine wkA ?_;intros)
  (refine jD 5 5 (h:=?_);(repeat(refine wkH ?_));refine Zp ?_;(repeat(refine Z3 ?_;intro _));refine Zq ?_)
  rw[show Lib.compareInt a.sign b.sign=Lib.compareInt a b by
   rcases Int.lt_or_le a 0 with h2|h2 <;> rcases Int.lt_or_le b 0 with h3|h3
   ·simp[h2,h3] at h1
   ·rw[Int.sign_eq_neg_one_of_neg h2]
    have:=Zk3 h3
    unfold Lib.compareInt
    rw[if_pos (by omega),if_pos (by omega)]
   ·rw[Int.sign_eq_neg_one_of_neg h3]
    have:=Zk3 h2
    unfold Lib.compareInt
    rw[if_neg (by omega),if_pos (by omega),if_neg (by omega),if_pos (by omega)]
   ·have h4:¬a<0:=by omega
    have h5:¬b<0:=by omega
    simp[h4,h5] at h1]
  repeat(refine wkA ?_;intros)
  exact rtT rfl rfl
 ·have h1:decide (a<0)=decide (b<0):=by simpa using h
  repeat(refine wkA ?_;intros)
  refine Zk rfl (fun h=>?_) (fun h=>?_)
  ·have h2:a<0:=Wa h
   have h3:b<0:=by simpa [h2] using h1.symm
   repeat(refine wkA ?_;intros)
   rw[show IntKind.i64.wrap (-Lib.compareInt a.natAbs b.natAbs)=Lib.compareInt a b by
    rw[IntWalk.i64_in _ (by unfold Lib.compareInt;by_cases h1:(a.natAbs:Int)<b.natAbs <;> by_cases h2:(a.natAbs:Int)>b.natAbs <;> simp[h1,h2])]
    unfold Lib.compareInt
    by_cases h4:a<b
    ·rw[if_neg (by omega),if_pos (by omega),if_pos h4]
    ·by_cases h5:a>b
     ·rw[if_pos (by omega),if_neg h4,if_pos h5];rfl
     ·rw[if_neg (by omega),if_neg (by omega),if_neg h4,if_neg h5];rfl]
   repeat(refine wkA ?_;intros)
   exact rtT rfl rfl
  ·have h2:¬a<0:=Wb h
   have h3:¬b<0:=by simpa [h2] using h1.symm
   repeat(refine wkA ?_;intros)
   rw[show Lib.compareInt a.natAbs b.natAbs=Lib.compareInt a b by rw[Int.natAbs_of_nonneg (by omega),Int.natAbs_of_nonneg (by omega)]]
   exact rtT rfl rfl⟩
theorem ZhI (n:Int)(h0: -9223372036854775808<=n)(h1:n<=9223372036854775807)(w:World):Calls prog 178 [.int .i64 n].toArray w (Ret (vI n) w):=by
 refine Zb Tryz.func178 rfl Tryz.ntmps178 rfl ?_
 have e1:0<=n->IntKind.u64.wrap n=((n.natAbs:Nat):Int):=fun h=>by rw[IntWalk.u64_in _ (by omega)];omega
 have e2:n<0->IntKind.u64.wrap (-(IntKind.u64.wrap n))=((n.natAbs:Nat):Int):=fun h=>by
  have ha:IntKind.u64.wrap n=n+18446744073709551616:=by rw[IntKind.wrap_u64];omega
  rw[ha,IntKind.wrap_u64]
  omega
 have e3:sg (decide (n<0)) n.natAbs=n:=by unfold sg;by_cases h:n<0 <;> simp[h] <;> omega
 repeat(refine wkA ?_;intros)
 refine Zk rfl (fun h=>?_) (fun h=>?_)
 ·have hn:=Wa h
  repeat(refine wkA ?_;intros)
  rw[e2 hn]
  repeat(first|(refine wkA ?_;intros)|(refine sC rfl rfl ?_ ?_;focus(first|exact trivial|omega)))
  rw[e3]
  repeat(refine wkA ?_;intros)
  exact rtC rfl rfl
 ·have hn:=Wb h
  repeat(refine wkA ?_;intros)
  rw[e1 (by omega)]
  repeat(first|(refine wkA ?_;intros)|(refine sC rfl rfl ?_ ?_;focus(first|exact trivial|omega)))
  rw[e3]
  repeat(refine wkA ?_;intros)
  exact rtC rfl rfl
instance Zwv (n:Int):SpecC prog 178 [.int .i64 n] (vI n) (-9223372036854775808<=n/\n<=9223372036854775807):=⟨fun h w=>ZhI n h.1 h.2 w⟩
end
end Go.Vt
