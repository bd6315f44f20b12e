/- For any up to 12 units whose ends have up to 20 bytes, and for any decoded moving label (up to 8 stretches), Check returns OK or the first error. Conditions: none. (part 6 of 28.) Conditions: those that each statement names. -/
import Derived.Test.YtcgkgdgpdpihmaaGreatDoorProg
import Derived.Test.YtcgkgdgpdpihmaaGreatDoorKC5
set_option linter.unusedSimpArgs false
set_option linter.unusedVariables false
set_option maxHeartbeats 2000000
set_option maxRecDepth 100000
namespace Go.Vt
open Go.RowKit Go.Proofs
open Go.Proofs.Tryz (prog)
section
def dgs :Nat->Nat->List Nat
 |_,0=>[]
 |a,m+1=>a % 4294967296::dgs (a / 4294967296) m
theorem Z9 :∀(m a:Nat),(dgs a m).length=m
 |0,_=>rfl
 |m+1,a=>by simp[dgs,Z9 m]
theorem Zar :∀(m a:Nat),Dg (dgs a m)
 |0,_=>fun d hd=>by simp[dgs] at hd
 |m+1,a=>fun d hd=>by
  rcases List.mem_cons.1 hd with rfl|hd
  ·omega
  ·exact Zar m _ d hd
theorem ZbO :∀(m a:Nat),vd (dgs a m)=a % 4294967296 ^ m
 |0,a=>by simp[dgs,vd,Nat.mod_one]
 |m+1,a=>by
  rw[dgs,vd,ZbO m,Nat.pow_succ,Nat.mul_comm (4294967296 ^ m),Nat.mod_mul]
theorem Zh1 {ds:List Nat}{m a:Nat}(h:Dg ds)(hl:ds.length=m)(hv:vd ds=a):ds=dgs a m:=by
 subst hv
 refine Zh9 h (Zar _ _) (by rw[Z9,hl]) ?_
 rw[ZbO,Nat.mod_eq_of_lt]
 rw[<-hl]
 exact ZaQ h
theorem ZnU (d b r:Nat)(hd:d<256 ^ r)(hb:b<256)(hr:r<4):bits .or .u32 (d:Int) (IntKind.u32.wrap ((b:Int)*2 ^ (8*(r:Int)).toNat))=((d+b*256 ^ r:Nat):Int):=by
 have hp:(256:Nat) ^ r<=16777216:=by
  have h3:(256:Nat) ^ r<=256 ^ 3:=Nat.pow_le_pow_right (by omega) (by omega)
  have h4:(256:Nat) ^ 3=16777216:=by decide
  omega
 have hbr:b*256 ^ r<=255*16777216:=Nat.mul_le_mul (by omega) hp
 have e0:(b:Int)*2 ^ (8*(r:Int)).toNat=((b*256 ^ r:Nat):Int):=by rw[pow256,Int.natCast_mul]
 rw[e0,IntWalk.u32_in _ (by omega)]
 unfold bits
 have h1:BitVec.ofInt IntKind.u32.bits ((d:Nat):Int)=BitVec.ofNat 32 d:=BitVec.ofInt_natCast _ _
 have h2:BitVec.ofInt IntKind.u32.bits ((b*256 ^ r:Nat):Int)=BitVec.ofNat 32 (b*256 ^ r):=BitVec.ofInt_natCast _ _
 have h256:(256:Nat) ^ r=2 ^ (8*r):=by rw[show(256:Nat)=2 ^ 8 from rfl,<-Nat.pow_mul]
 have h3:d|||(b*256 ^ r)=d+b*256 ^ r:=by
  rw[Nat.or_comm,h256,<-Nat.shiftLeft_eq,<-Nat.shiftLeft_add_eq_or_of_lt (by rw[<-h256];exact hd),Nat.add_comm]
 simp only[h1,h2]
 show IntKind.u32.wrap ((BitVec.ofNat 32 d|||BitVec.ofNat 32 (b*256 ^ r)).toNat:Int)=_
 rw[BitVec.toNat_or,BitVec.toNat_ofNat,BitVec.toNat_ofNat,Nat.mod_eq_of_lt (by omega),Nat.mod_eq_of_lt (by omega),h3,IntWalk.u32_in _ (by omega)]
theorem ZpZ (a i:Nat)(h:i<(mag a).size):(mag a)[(((mag a).size:Int)-1-(i:Int)).toNat]? =some (UInt8.ofNat (a / 256 ^ i % 256)):=by
 have e:(((mag a).size:Int)-1-(i:Int)).toNat=(mag a).size-1-i:=by omega
 rw[e]
 have hl:(le a).length=(mag a).size:=(ZbF a).symm
 have h1:(mag a)[(mag a).size-1-i]? =(le a).reverse[(mag a).size-1-i]? :=by
  have h2:∀j,(mag a)[j]? =(mag a).data[j]? :=fun j=>by
   by_cases hj:j<(mag a).size
   ·rw[getElem?_pos (mag a) j hj]
    exact(Array.getElem?_eq_getElem (xs:=(mag a).data) hj).symm
   ·rw[getElem?_neg (mag a) j hj]
    exact(Array.getElem?_eq_none (xs:=(mag a).data) (Nat.le_of_not_lt hj)).symm
  rw[h2]
  simp[mag]
 rw[h1,List.getElem?_reverse (by omega),hl,show(mag a).size-1-((mag a).size-1-i)=i by omega,Zhg _ _ (by omega)]
theorem Ziz {a i m:Nat}{ds:List Nat}(hi:i<(le a).length)(hm:i / 4<m)(hlen:ds.length=m)(hD:Dg ds)(hv:vd ds=vle ((le a).take i)):
  ∃h:i / 4<ds.length,ds[i / 4]<256 ^ (i % 4)/\(ds.set (i / 4) (ds[i / 4]+(a / 256 ^ i % 256)*256 ^ (i % 4))).length=m/\Dg (ds.set (i / 4) (ds[i / 4]+(a / 256 ^ i % 256)*256 ^ (i % 4)))/\
   vd (ds.set (i / 4) (ds[i / 4]+(a / 256 ^ i % 256)*256 ^ (i % 4)))=vle ((le a).take (i+1)):=by
 have hlt:i / 4<ds.length:=by omega
 have hvi:vle ((le a).take i)<256 ^ i:=by
  have:=Zdo ((le a).take i)
  rwa [Wt,Nat.min_eq_left (by omega)] at this
 have h1:=Zd6 ds (i / 4) hlt
 have hd:ds[i / 4]<256 ^ (i % 4):=by
  rcases Nat.lt_or_ge ds[i / 4] (256 ^ (i % 4)) with h|h
  ·exact h
  ·have h2:256 ^ (i % 4)*4294967296 ^ (i / 4)<=ds[i / 4]*4294967296 ^ (i / 4):=Nat.mul_le_mul_right _ h
   rw[Nat.mul_comm (256 ^ (i % 4)),<-ZjG] at h2
   omega
 have hb:a / 256 ^ i % 256<256:=Nat.mod_lt _ (by omega)
 have hp:(256:Nat) ^ (i % 4)<=16777216:=by
  have h3:(256:Nat) ^ (i % 4)<=256 ^ 3:=Nat.pow_le_pow_right (by omega) (by omega)
  have h4:(256:Nat) ^ 3=16777216:=by decide
  omega
 have hbr:(a / 256 ^ i % 256)*256 ^ (i % 4)<=255*16777216:=Nat.mul_le_mul (by omega) hp
 refine⟨hlt,hd,by rw[List.length_set];exact hlen,Zbu hD _ _ (by omega), ?_⟩
 have hs:=ZaE ds (i / 4) (ds[i / 4]+(a / 256 ^ i % 256)*256 ^ (i % 4)) hlt
 rw[Nat.add_mul,Nat.mul_assoc,Nat.mul_comm (256 ^ (i % 4)),<-ZjG] at hs
 have ht:vle ((le a).take (i+1))=vle ((le a).take i)+256 ^ i*(a / 256 ^ i % 256):=by
  rw[Wn hi,Zcs,Wt,Nat.min_eq_left (by omega)]
  have hg:=Zhg i a hi
  rw[List.getElem?_eq_getElem hi] at hg
  simp only[Option.some.injEq] at hg
  rw[hg]
  simp[vle]
 rw[ht,<-hv,Nat.mul_comm (256 ^ i)]
 omega
theorem Zap (a:Nat)(ha:(mag a).size<=1099511627776)(w:World):Calls prog 226 [.string (mag a)].toArray w (RetB (fun b=> .slice (some ⟨b,0,none⟩) (((mag a).size+3) / 4) (((mag a).size+3) / 4)) (dig .u32 (dgs a (((mag a).size+3) / 4))) 230 w):=by
 obtain⟨N,hN⟩:∃N,N=(mag a).size:=⟨_,rfl⟩
 obtain⟨m,hm⟩:∃m,m=(N+3) / 4:=⟨_,rfl⟩
 have hle:(le a).length=N:=by rw[hN,ZbF]
 rw[<-hN,<-hm]
 refine Zb Tryz.func226 rfl Tryz.ntmps226 rfl ?_
 repeat(refine wkA ?_;intros)
 have e:((N:Int)+3) / 4=(m:Int):=by omega
 simp only[<-hN]
 simp only[e]
 refine Zbq (k:= .u32) (B:=4) (m:=m) rfl rfl ⟨by omega,by omega⟩ rfl rfl ?_
 intro b
 repeat(refine wkA ?_;intros)
 simp only[<-hN]
 refine Zq (S:=Nat×List Nat) (fun s=>s.1<=N/\s.2.length=m/\Dg s.2/\vd s.2=vle ((le a).take s.1)) (fun s=>[(0, .string (mag a)),(3, .slice (some ⟨b,0,none⟩) m m),(12, .int .i64 N),(13, .int .i64 s.1)]) (fun s=>[⟨b,dig .u32 s.2,230⟩]) (fun s=>N-s.1) (0,List.replicate m 0)
  ⟨Wm _,by simp,Zew m,by simp[Zey,vle]⟩ (by repeat(first|exact Zz|refine Zu rfl ?_)) (Wj _) (fun s hs=>?_)
 obtain⟨i,ds⟩:=s
 obtain⟨hi,hlen,hD,hv⟩:=hs
 simp only at hi hlen hD hv⊢
 repeat(refine wkA ?_;intros)
 refine Zk rfl (fun h=>?_) (fun h=>?_)
 ·have hlt:i<N:=by have:=Wa h;omega
  obtain⟨h4,hd,h5,h6,h7⟩:=Ziz (m:=m) (by omega) (by omega) hlen hD hv
  have hb:a / 256 ^ i % 256<256:=Nat.mod_lt _ (by omega)
  have hu:((UInt8.ofNat (a / 256 ^ i % 256)).toNat:Int)=((a / 256 ^ i % 256:Nat):Int):=by rw[toNat_ofNat]
  repeat(refine wkA ?_;intros)
  simp only[<-hN]
  repeat(refine wkA ?_;intros)
  refine jD 14 14 (h:=?_)
  (repeat(refine wkH ?_))
  refine hq (ZM rfl (show ds[0+((i:Int) / 4).toNat*1]? =some ds[i / 4] by rw[show 0+((i:Int) / 4).toNat*1=i / 4 by omega];simp[h4])) rfl rfl ?_
  (repeat(refine wkH ?_))
  have hg:(mag a)[((N:Int)-1-(i:Int)).toNat]? =some (UInt8.ofNat (a / 256 ^ i % 256)):=by
   have:=ZpZ a i (by omega)
   rwa [<-hN] at this
  refine hq (ZaX rfl rfl (by omega) hg) rfl rfl ?_
  (repeat(refine wkH ?_))
  refine hq (Zco rfl rfl (by simp only[IntKind.bits];omega)) rfl rfl ?_
  refine hq (ZdN rfl rfl) rfl rfl ?_
  refine Zo (Zs ?_)
  have eo:=ZnU ds[i / 4] (a / 256 ^ i % 256) (i % 4) hd hb (by omega)
  rw[<-hu] at eo
  have ei:((i % 4:Nat):Int)=(i:Int) % 4:=by omega
  rw[ei] at eo
  rw[eo]
  repeat(refine wkA ?_;intros)
  refine Z1 rfl rfl (by omega) rfl ?_
  rw[show 0+((i:Int) / 4).toNat*1=i / 4 by omega]
  repeat(refine wkA ?_;intros)
  exact Zg (i+1,_) ⟨hlt,h5,h6,h7⟩ (by repeat(first|exact Zz|refine Zu rfl ?_)) (Wj _) (by simp only;omega)
 ·have hge:i=N:=by have:=Wb h;omega
  subst hge
  repeat(refine wkA ?_;intros)
  have hfin:ds=dgs a m:=Zh1 hD hlen (by rw[hv,List.take_of_length_le (Nat.le_of_eq hle),Zfo])
  subst hfin
  exact ZB rfl rfl (fun w hw=>Zjh hw)
end
section
theorem ZmG (ds:List Nat)(l:Nat)(h:0<l)(hl:l<=ds.length):ds.take l=ds.take (l-1)++[ds[l-1]]:=by
 have:=Wn (l:=ds) (i:=l-1) (by omega)
 rwa [show l-1+1=l by omega] at this
theorem Zm9 (b l c:Nat)(ds:List Nat)(fz:Nat×Nat)(hl:l<=ds.length)(hc:l<=c)(hc2:c<=1099511627776)(w:World)(hw:w.heap[b]? =some (.cells (dig .u32 ds) 230 fz)):
  Calls prog 245 [.slice (some ⟨b,0,none⟩) l c].toArray w (Ret (.slice (some ⟨b,0,none⟩) (tl (ds.take l)) c) w):=by
 refine Zb Tryz.func245 rfl Tryz.ntmps245 rfl ?_
 repeat(refine wkA ?_;intros)
 refine Zq (S:=Nat) (fun m=>m<=l/\tl (ds.take m)=tl (ds.take l)) (fun m=>[(0, .slice (some ⟨b,0,none⟩) m c)]) (fun _=>[]) (fun m=>m) l ⟨Wl _,rfl⟩ (by repeat(first|exact Zz|refine Zu rfl ?_)) (Wj _) (fun m hm=>?_)
 obtain⟨hm1,hm2⟩:=hm
 rcases Nat.eq_zero_or_pos m with h0|h0
 ·subst h0
  repeat(refine wkA ?_;intros)
  rw[<-hm2]
  exact rtT rfl rfl
 ·have hd:decide ((0:Int)<(m:Int))=true:=by simp;omega
  have hlt:m-1<ds.length:=by omega
  have htk:=ZmG ds m h0 (by omega)
  repeat(refine wkA ?_;intros)
  simp only[hd]
  repeat(refine wkA ?_;intros)
  refine jq (Zed rfl hw (show ds[0+((m:Int)-1).toNat*1]? =some ds[m-1] by rw[show 0+((m:Int)-1).toNat*1=m-1 by omega];simp[hlt])) rfl rfl ?_
  repeat(refine wkA ?_;intros)
  refine Zk rfl (fun h=>?_) (fun h=>?_)
  ·have hz:ds[m-1]=0:=by have:=Wa h;omega
   repeat(refine wkA ?_;intros)
   refine jq (ZeK rfl rfl (by omega)) rfl rfl ?_
   rw[show((m:Int)-1).toNat=m-1 by omega]
   repeat(refine wkA ?_;intros)
   refine Zg (m-1) ⟨by omega, ?_⟩ (by repeat(first|exact Zz|refine Zu rfl ?_)) (Wj _) (by omega)
   rw[<-hm2,htk,Zkh,if_pos hz]
  ·have hz:¬ds[m-1]=0:=by have:=Wb h;omega
   repeat(refine wkA ?_;intros)
   have e:tl (ds.take l)=m:=by rw[<-hm2,htk,Zkh,if_neg hz,Wt];omega
   rw[e]
   exact rtT rfl rfl
def bytesR (M V q:Nat):List Nat:=(List.range M).map fun j=>if M-q<=j then V / 256 ^ (M-1-j) % 256 else 0
theorem ZbT (M V q:Nat):(bytesR M V q).length=M:=by simp[bytesR]
theorem ZbR (M V q j:Nat)(h:j<M):(bytesR M V q)[j]? =some (if M-q<=j then V / 256 ^ (M-1-j) % 256 else 0):=by simp[bytesR,h]
theorem ZiD (M V:Nat):bytesR M V 0=List.replicate M 0:=by
 apply List.ext_getElem?
 intro j
 by_cases h:j<M
 ·rw[ZbR _ _ _ _ h,if_neg (by omega)];simp[h]
 ·rw[List.getElem?_eq_none (by rw[ZbT];omega),List.getElem?_eq_none (by simp;omega)]
theorem ZiB (M V q:Nat)(h:q<M):(bytesR M V q).set (M-1-q) (V / 256 ^ q % 256)=bytesR M V (q+1):=by
 apply List.ext_getElem?
 intro j
 by_cases hj:j<M
 ·rw[List.getElem?_set,ZbR _ _ _ _ hj]
  by_cases he:M-1-q=j
  ·subst he
   rw[if_pos rfl,if_pos (by rw[ZbT];omega),ZbR _ _ _ _ hj,if_pos (by omega),show M-1-(M-1-q)=q by omega]
  ·rw[if_neg he,ZbR _ _ _ _ hj]
   congr 1
   by_cases h1:M-q<=j
   ·rw[if_pos h1,if_pos (by omega)]
   ·rw[if_neg h1,if_neg (by omega)]
 ·rw[List.getElem?_eq_none (by rw[List.length_set,ZbT];omega),List.getElem?_eq_none (by rw[ZbT];omega)]
def bgs :Nat->Nat->List UInt8
 |_,0=>[]
 |a,m+1=>UInt8.ofNat (a % 256)::bgs (a / 256) m
theorem Zdj :∀(m a:Nat),(bgs a m).length=m
 |0,_=>rfl
 |m+1,a=>by simp[bgs,Zdj m]
theorem Zjg :∀(m a:Nat),vle (bgs a m)=a % 256 ^ m
 |0,a=>by simp[bgs,vle,Nat.mod_one]
 |m+1,a=>by
  rw[bgs,vle,Zjg m,Nat.pow_succ,Nat.mul_comm (256 ^ m),Nat.mod_mul,toNat_ofNat]
theorem ZjI :∀(m a i:Nat),i<m->(bgs a m)[i]? =some (UInt8.ofNat (a / 256 ^ i % 256))
 |0,_,i,h=>by omega
 |m+1,a,0,_=>by simp[bgs]
 |m+1,a,i+1,h=>by
  simp only[bgs,List.getElem?_cons_succ]
  rw[ZjI m _ i (by omega),Nat.div_div_eq_div_mul,Nat.pow_succ,Nat.mul_comm]
theorem ZmA (M V i:Nat)(u:UInt8)(hu:(bgs V M).reverse[i]? =some u):(dig .u8 (bytesR M V M))[0+i]? =some (.int .u8 u.toNat):=by
 have hi:i<M:=by
  rcases Nat.lt_or_ge i M with h1|h1
  ·exact h1
  ·rw[List.getElem?_eq_none (by rw[List.length_reverse,Zdj];exact h1)] at hu;cases hu
 rw[Nat.zero_add,Zf3,ZbR _ _ _ _ hi,if_pos (by omega)]
 rw[List.getElem?_reverse (by rw[Zdj];exact hi),Zdj,ZjI _ _ _ (by omega)] at hu
 simp only[Option.some.injEq] at hu
 subst hu
 simp
theorem ZdD (ds:List Nat)(hD:Dg ds)(i:Nat)(h:i<ds.length):vd ds / 4294967296 ^ i % 4294967296=ds[i]:=by
 rw[Zav ds i (by omega),List.drop_eq_getElem_cons h,vd]
 have h1:=ZaQ (Zbj hD i)
 rw[Wt,Nat.min_eq_left (by omega)] at h1
 have h2:=ZZ hD h
 have h3:0<4294967296 ^ i:=Nat.pow_pos (by omega)
 rw[Nat.add_mul_div_left _ _ h3,Nat.div_eq_of_lt h1]
 omega
theorem ZgM (ds:List Nat)(hD:Dg ds)(i k:Nat)(h:i<ds.length)(hk:k<4):ds[i] / 256 ^ k % 256=vd ds / 256 ^ (4*i+k) % 256:=by
 rw[<-ZdD ds hD i h,Nat.pow_add,<-ZcU,<-Nat.div_div_eq_div_mul]
 generalize vd ds / 4294967296 ^ i=x
 have hk':k=0\/k=1\/k=2\/k=3:=by omega
 rcases hk' with rfl|rfl|rfl|rfl
 ·simp only[Nat.pow_zero,Nat.div_one];omega
 ·simp only[Nat.pow_one];omega
 ·rw[show(256:Nat) ^ 2=65536 by decide];omega
 ·rw[show(256:Nat) ^ 3=16777216 by decide];omega
theorem byte8 (x k:Nat):IntKind.u8.wrap ((x:Int) / 2 ^ (8*(k:Int)).toNat)=((x / 256 ^ k % 256:Nat):Int):=Zkk x k
theorem Zby (b l c:Nat)(ds:List Nat)(fz:Nat×Nat)(hl:l<=ds.length)(hc:l<=c)(hc2:c<=1099511627776)(hD:Dg ds)(w:World)(hw:w.heap[b]? =some (.cells (dig .u32 ds) 230 fz)):
  Calls prog 227 [.slice (some ⟨b,0,none⟩) l c].toArray w (Ret (.string (mag (vd (ds.take l)))) w):=by
 obtain⟨n,hn⟩:∃n,n=tl (ds.take l):=⟨_,rfl⟩
 have hnl:n<=l:=by have:=ZpB (ds.take l);rw[Wt] at this;omega
 have htk:(ds.take l).take n=ds.take n:=by rw[List.take_take,Nat.min_eq_left hnl]
 have hV:vd (ds.take l)=vd (ds.take n):=by rw[<-htk,hn,ZuE]
 have hDn:=Zbj hD n
 have hln:(ds.take n).length=n:=by rw[Wt];omega
 rw[hV]
 obtain⟨V,hVd⟩:∃V,V=vd (ds.take n):=⟨_,rfl⟩
 have hVlt:V<256 ^ (4*n):=by
  have:=ZaQ hDn
  rw[hln,ZcU,<-hVd] at this
  exact this
 rw[<-hVd]
 refine Zb Tryz.func227 rfl Tryz.ntmps227 rfl ?_
 repeat(refine wkA ?_;intros)
 refine jq (Za8 rfl (fun w' hw'=>Zm9 b l c ds fz hl hc hc2 w' (by rw[hw'.ext.block b (Zae hw)];exact hw))) rfl rfl ?_
 rw[<-hn]
 repeat(refine wkA ?_;intros)
 refine Zk rfl (fun h=>?_) (fun h=>?_)
 ·have h0:n=0:=by have:=Wa h;omega
  subst h0
  have:V=0:=by rw[hVd];rfl
  subst this
  repeat(refine wkA ?_;intros)
  exact rtT rfl rfl
 ·have h0:0<n:=by have:=Wb h;omega
  repeat(refine wkA ?_;intros)
  refine Zbq (k:= .u8) (B:=1) (m:=4*n) rfl rfl ⟨by omega,by omega⟩ rfl rfl ?_
  intro bb
  repeat(refine wkA ?_;intros)
  refine Zq (S:=Nat) (fun i=>i<=n) (fun i=>[(0, .slice (some ⟨b,0,none⟩) n c),(16, .slice (some ⟨b,0,none⟩) n c),(3, .slice (some ⟨bb,0,none⟩) (4*n) (4*n)),(17, .int .i64 n),(18, .int .i64 i)]) (fun i=>[⟨bb,dig .u8 (bytesR (4*n) V (4*i)),5⟩]) (fun i=>n-i) 0 (Wm _)
   (by repeat(first|exact Zz|refine Zu rfl ?_)) (by rw[Nat.mul_zero,ZiD];exact Wj _) (fun i hi=>?_)
  repeat(refine wkA ?_;intros)
  refine Zk rfl (fun h=>?_) (fun h=>?_)
  ·have hlt:i<n:=by have:=Wa h;omega
   have hid:i<ds.length:=by omega
   have hget:(ds.take n)[i]'(by omega)=ds[i]:=List.getElem_take
   have hdlt:=ZZ hD hid
   repeat(refine wkA ?_;intros)
   refine jq (Zed rfl hw (show ds[0+(i:Int).toNat*1]? =some ds[i] by rw[show 0+(i:Int).toNat*1=i by omega];simp[hid])) rfl rfl ?_
   repeat(refine wkA ?_;intros)
   refine Zq (S:=Nat) (fun k=>k<=4) (fun k=>[(0, .slice (some ⟨b,0,none⟩) n c),(16, .slice (some ⟨b,0,none⟩) n c),(3, .slice (some ⟨bb,0,none⟩) (4*n) (4*n)),(17, .int .i64 n),(18, .int .i64 i),(4, .int .i64 i),(5, .int .u32 (ds[i]:Nat)),(23, .int .i64 k)]) (fun k=>[⟨bb,dig .u8 (bytesR (4*n) V (4*i+k)),5⟩]) (fun k=>4-k) 0 (Wm _)
    (by repeat(first|exact Zz|refine Zu rfl ?_)) (Wj _) (fun k hk=>?_)
   repeat(refine wkA ?_;intros)
   refine Zk rfl (fun h=>?_) (fun h=>?_)
   ·have hk4:k<4:=by have:=Wa h;omega
    have hby:ds[i] / 256 ^ k % 256=V / 256 ^ (4*i+k) % 256:=by
     rw[<-hget,ZgM (ds.take n) hDn i k (by omega) hk4,hVd]
    repeat(refine wkA ?_;intros)
    refine jq (ZaI rfl rfl (by simp only[IntKind.bits];omega)) rfl rfl ?_
    repeat(refine wkA ?_;intros)
    rw[byte8,hby]
    refine Z1 rfl rfl (by rw[ZbT];omega) rfl ?_
    rw[show 0+(((4*n:Nat):Int)-1-4*(i:Int)-(k:Int)).toNat*1=4*n-1-(4*i+k) by omega,ZiB _ _ _ (by omega)]
    repeat(refine wkA ?_;intros)
    exact Zg (k+1) hk4 (by repeat(first|exact Zz|refine Zu rfl ?_)) (Wj _) (by omega)
   ·have hk4:k=4:=by have:=Wb h;omega
    subst hk4
    repeat(refine wkA ?_;intros)
    exact Zg (i+1) hlt (by repeat(first|exact Zz|refine Zu rfl ?_)) (Wj _) (by omega)
  ·have hge:i=n:=by have:=Wb h;omega
   subst hge
   repeat(refine wkA ?_;intros)
   refine jq (Zbn (bs:=(bgs V (4*i)).reverse) rfl (by rw[List.length_reverse,Zdj]) (ZmA (4*i) V)) rfl rfl ?_
   refine jq (Za8 rfl (fun w' _=>(Tryz.strings_TrimLeft_one _ 0 (by decide) w').mono fun e w2 ⟨h1,h2⟩=>(show Ret _ _ _ _ from⟨h1,by subst h2;exact Ext.refl _⟩))) rfl rfl ?_
   have hfin:mag V=⟨(Lib.trimLeftB (bgs V (4*i)).reverse 0).toArray⟩:=by
    rw[<-ZnY,List.reverse_reverse,Zjg,Nat.mod_eq_of_lt hVlt]
   rw[hfin]
   repeat(refine wkA ?_;intros)
   exact rtT rfl rfl
end
section
theorem p32 :(2:Int) ^ (32:Int).toNat=4294967296:=by decide
instance ZvD (x y:Nat):ExtC prog 225 [.int .u64 x, .int .u64 y, .int .u64 0] (.tuple #[.int .u64 (((x+y) % 18446744073709551616:Nat):Int), .int .u64 (((x+y) / 18446744073709551616:Nat):Int)]) (x<18446744073709551616/\y<18446744073709551616):=⟨fun h w=>by
 have:=run_add64 (P:=prog) x y 0 (by omega) (by omega) (by omega) (by omega) w
 show(callFunc _ #[.int .u64 x, .int .u64 y, .int .u64 0]).run prog w=_
 rw[run_callFunc_extern Tryz.func225 (by kernel_rfl) (by kernel_rfl) (by kernel_rfl) (e:=add64Entry) (by kernel_rfl),this]
 simp only[Result.andThen,Int.add_zero]
 rfl⟩
theorem Zik {os ys:List Nat}{i c S y:Nat}(hi:i<os.length)(hD:Dg os)(hc:c<=1)(hy:y<4294967296)(hS:vd os+c*4294967296 ^ i+vd (ys.drop i)*4294967296 ^ i=S)(hdr:vd (ys.drop i)=y+4294967296*vd (ys.drop (i+1))):
  (c+os[i]+y) / 4294967296<=1/\Dg (os.set i ((c+os[i]+y) % 4294967296))/\
   vd (os.set i ((c+os[i]+y) % 4294967296))+(c+os[i]+y) / 4294967296*4294967296 ^ (i+1)+vd (ys.drop (i+1))*4294967296 ^ (i+1)=S:=by
 have h1:=ZZ hD hi
 refine⟨by omega,Zbu hD _ _ (Nat.mod_lt _ (by omega)), ?_⟩
 have hs:=ZaE os i ((c+os[i]+y) % 4294967296) hi
 have hb:=Nat.div_add_mod (c+os[i]+y) 4294967296
 generalize (c+os[i]+y) / 4294967296=q at*
 generalize (c+os[i]+y) % 4294967296=r at*
 rw[hdr] at hS
 rw[show(4294967296:Nat) ^ (i+1)=4294967296 ^ i*4294967296 from Nat.pow_succ _ _]
 generalize (4294967296:Nat) ^ i=p at*
 have e:(4294967296*q+r)*p=(c+os[i]+y)*p:=by rw[hb]
 rw[Nat.add_mul,Nat.add_mul,Nat.add_mul,Nat.mul_assoc] at e
 rw[Nat.add_mul,Nat.mul_assoc] at hS
 have e1:q*(p*4294967296)=4294967296*(q*p):=by rw[Nat.mul_comm p,<-Nat.mul_assoc,Nat.mul_comm q,Nat.mul_assoc]
 have e2:vd (ys.drop (i+1))*(p*4294967296)=4294967296*(vd (ys.drop (i+1))*p):=by rw[Nat.mul_comm p,<-Nat.mul_assoc,Nat.mul_comm (vd _) 4294967296,Nat.mul_assoc]
 rw[e1,e2]
 omega
theorem Zaw (a:Nat):vd (dgs a (((mag a).size+3) / 4))=a:=by
 rw[ZbO,Nat.mod_eq_of_lt]
 rw[ZcU]
 have h1:a<256 ^ (mag a).size:=Z2.1 (Wl _)
 exact Nat.lt_of_lt_of_le h1 (Nat.pow_le_pow_right (by omega) (by omega))
theorem Zdw (ys:List Nat)(i:Nat)(h:i<ys.length):vd (ys.drop i)=ys[i]+4294967296*vd (ys.drop (i+1)):=by
 rw[List.drop_eq_getElem_cons h,vd]
theorem Zbe (ys:List Nat)(i:Nat)(h:ys.length<=i):vd (ys.drop i)=0:=by
 rw[List.drop_eq_nil_of_le h];rfl
theorem ZoB (a b:Nat)(ha:(mag a).size<=1099511627776)(hb:(mag b).size<=1099511627776)(w:World):Calls prog 207 [.string (mag a), .string (mag b)].toArray w (Ret (.string (mag (a+b))) w):=by
 refine Zb Tryz.func207 rfl Tryz.ntmps207 rfl ?_
 refine Zc2 (ZdQ ?_)
 repeat(first|refine sX rfl rfl ?_|(refine sS rfl rfl ?_ ?_;focus omega)|(refine sC rfl rfl ?_ ?_;focus(first|exact trivial|assumption|constructor <;> assumption|exact mb2 rfl rfl|exact mb4 rfl rfl rfl rfl))|(refine sA rfl rfl ?_;intro _)|refine sT rfl ?_|refine sW rfl rfl ?_|refine sK rfl rfl ?_|refine cY ?_|refine pkT rfl rfl rfl rfl ?_|refine pkF rfl rfl rfl rfl ?_)
 refine Zfi (S:=Unit) (fun _=>True) (fun _=>[(0, .string (mag a)),(1, .string (mag b))]) (fun _=>[]) ?_ (fun _ _=>?_)
 ·repeat(refine wkA ?_;intros)
  refine Zk rfl (fun h=>?_) (fun h=>?_)
  ·rw[Wq] at h
   have h1:=Zca h.1
   have h2:=Zca h.2
   have h3:=Zcb a
   have h4:=Zcb b
   rw[h1] at h3
   rw[h2] at h4
   simp only[h1,h2]
   repeat(first|(refine wkA ?_;intros)|(refine sC rfl rfl ?_ ?_;focus(exact⟨h3,h4⟩)))
   refine Zk rfl (fun h=>?_) (fun h=>?_)
   ·have h5:=Wa h
    have h6:(a+b) % 18446744073709551616=a+b:=by omega
    simp only[h6]
    repeat(first|(refine wkA ?_;intros)|(refine sC rfl rfl ?_ ?_;focus(omega)))
    exact rtT rfl rfl
   ·repeat(refine wkA ?_;intros)
    exact Zj () trivial (by repeat(first|exact Zz|refine Zu rfl ?_)) (Wj _)
  ·repeat(refine wkA ?_;intros)
   exact Zj () trivial (by repeat(first|exact Zz|refine Zu rfl ?_)) (Wj _)
 ·repeat(refine wkA ?_;intros)
  refine ZaC rfl (fun w' _=>Zap a ha w') rfl rfl ?_
  intro b1
  repeat(refine wkA ?_;intros)
  refine ZaC rfl (fun w' _=>Zap b hb w') rfl rfl ?_
  intro b2
  repeat(refine wkA ?_;intros)
  obtain⟨na,hna⟩:∃na,na=((mag a).size+3) / 4:=⟨_,rfl⟩
  obtain⟨nb,hnb⟩:∃nb,nb=((mag b).size+3) / 4:=⟨_,rfl⟩
  have hva:vd (dgs a na)=a:=by rw[hna,Zaw]
  have hvb:vd (dgs b nb)=b:=by rw[hnb,Zaw]
  have hla:=Z9 na a
  have hlb:=Z9 nb b
  have hDa:=Zar na a
  have hDb:=Zar nb b
  simp only[<-hna,<-hnb]
  generalize dgs a na=xa at*
  generalize dgs b nb=xb at*
  refine ZY (S:=Nat×List Nat×Nat×List Nat) (fun s=>vd s.2.1+vd s.2.2.2=a+b/\s.2.2.2.length<=s.2.1.length/\Dg s.2.1/\Dg s.2.2.2/\s.2.1.length<=549755813888) (fun s=>[(10, .slice (some ⟨s.1,0,none⟩) s.2.1.length s.2.1.length),(11, .slice (some ⟨s.2.2.1,0,none⟩) s.2.2.2.length s.2.2.2.length)]) (fun s=>[⟨s.2.2.1,dig .u32 s.2.2.2,230⟩,⟨s.1,dig .u32 s.2.1,230⟩]) ?_ (fun s hs=>?_)
  ·refine Zk rfl (fun h=>?_) (fun h=>?_)
   ·have h1:=Wa h
    repeat(refine wkA ?_;intros)
    exact Zqp (List.Perm.swap _ _ _) (Zj (b2,xb,b1,xa) ⟨by simp only;omega,by simp only;omega,hDb,hDa,by simp only;omega⟩ (by rw[<-hla,<-hlb];repeat(first|exact Zz|refine Zu rfl ?_)) (Wj _))
   ·have h1:=Wb h
    repeat(refine wkA ?_;intros)
    exact Zj (b1,xa,b2,xb) ⟨by simp only;omega,by simp only;omega,hDa,hDb,by simp only;omega⟩ (by rw[<-hla,<-hlb];repeat(first|exact Zz|refine Zu rfl ?_)) (Wj _)
  ·obtain⟨bx,xs,bY,ys⟩:=s
   obtain⟨hS,hle,hDx,hDy,hlim⟩:=hs
   simp only at hS hle hDx hDy hlim⊢
   repeat(refine wkA ?_;intros)
   refine Zbq (k:= .u32) (B:=4) (m:=xs.length+1) rfl rfl ⟨by omega,by omega⟩ rfl rfl ?_
   intro bo
   repeat(refine wkA ?_;intros)
   refine Zhi (k:= .u32) rfl rfl (by simp) (Wl _) rfl rfl ?_
   have e1:xs.take (min xs.length (xs.length+1))++(List.replicate (xs.length+1) 0).drop (min xs.length (xs.length+1))=xs++[0]:=by
    rw[Nat.min_eq_left (by omega),List.take_of_length_le (Wl _),List.drop_replicate,show xs.length+1-xs.length=1 by omega]
    rfl
   simp only[e1]
   have hvo:vd (xs++[0])=vd xs:=by rw[Za5];simp[vd]
   repeat(refine wkA ?_;intros)
   refine Zq (S:=Nat×List Nat×Nat) (fun s=>s.1<=xs.length+1/\s.2.1.length=xs.length+1/\Dg s.2.1/\s.2.2<=1/\vd s.2.1+s.2.2*4294967296 ^ s.1+vd (ys.drop s.1)*4294967296 ^ s.1=a+b)
    (fun s=>[(11, .slice (some ⟨bY,0,none⟩) ys.length ys.length),(12, .slice (some ⟨bo,0,none⟩) (xs.length+1) (xs.length+1)),(13, .int .u64 s.2.2),(52, .int .i64 ((xs.length+1:Nat):Int)),(53, .int .i64 s.1)])
    (fun s=>[⟨bo,dig .u32 s.2.1,230⟩,⟨bY,dig .u32 ys,230⟩,⟨bx,dig .u32 xs,230⟩]) (fun s=>xs.length+1-s.1) (0,xs++[0],0)
    ⟨by simp,by simp,Zgh hDx (fun d hd=>by simp at hd;omega),by simp,by simp[hvo,hS]⟩ (by repeat(first|exact Zz|refine Zu rfl ?_)) (Wj _) (fun s hs=>?_)
   obtain⟨i,os,c⟩:=s
   obtain⟨hi,hlo,hDo,hc,hinv⟩:=hs
   simp only at hi hlo hDo hc hinv⊢
   repeat(refine wkA ?_;intros)
   refine Zk rfl (fun h=>?_) (fun h=>?_)
   ·have hlt:i<xs.length+1:=by have:=Wa h;omega
    have hio:i<os.length:=by omega
    have hdo:=ZZ hDo hio
    repeat(refine wkA ?_;intros)
    refine jq (ZM rfl (show os[0+(i:Int).toNat*1]? =some os[i] by rw[show 0+(i:Int).toNat*1=i by omega];simp[hio])) rfl rfl ?_
    repeat(refine wkA ?_;intros)
    refine Zk rfl (fun h=>?_) (fun h=>?_)
    ·have hiy:i<ys.length:=by have:=Wa h;omega
     have hdy:=ZZ hDy hiy
     obtain⟨g1,g2,g3⟩:=Zik hio hDo hc hdy hinv (Zdw ys i hiy)
     repeat(refine wkA ?_;intros)
     refine jq (ZM rfl (show ys[0+(i:Int).toNat*1]? =some ys[i] by rw[show 0+(i:Int).toNat*1=i by omega];simp[hiy])) rfl rfl ?_
     repeat(refine wkA ?_;intros)
     refine jq (ZaI rfl rfl (by decide)) rfl rfl ?_
     repeat(refine wkA ?_;intros)
     rw[p32,IntKind.wrap_u32,show((c:Int)+(os[i]:Nat)+(ys[i]:Nat)) % 4294967296=(((c+os[i]+ys[i]) % 4294967296:Nat):Int) by omega,show((c:Int)+(os[i]:Nat)+(ys[i]:Nat)) / 4294967296=(((c+os[i]+ys[i]) / 4294967296:Nat):Int) by omega]
     refine Z1 rfl rfl (by omega) rfl ?_
     rw[show 0+(i:Int).toNat*1=i by omega]
     repeat(refine wkA ?_;intros)
     exact Zg (i+1,_,_) ⟨hlt,by rw[List.length_set];exact hlo,g2,g1,g3⟩ (by repeat(first|exact Zz|refine Zu rfl ?_)) (Wj _) (by simp only;omega)
    ·have hiy:ys.length<=i:=by have:=Wb h;omega
     obtain⟨g1,g2,g3⟩:=Zik (y:=0) hio hDo hc (by omega) hinv (by rw[Zbe ys i hiy,Zbe ys (i+1) (by omega)])
     simp only[Nat.add_zero] at g1 g2 g3
     repeat(refine wkA ?_;intros)
     refine jq (ZaI rfl rfl (by decide)) rfl rfl ?_
     repeat(refine wkA ?_;intros)
     rw[p32,IntKind.wrap_u32,show((c:Int)+(os[i]:Nat)) % 4294967296=(((c+os[i]) % 4294967296:Nat):Int) by omega,show((c:Int)+(os[i]:Nat)) / 4294967296=(((c+os[i]) / 4294967296:Nat):Int) by omega]
     refine Z1 rfl rfl (by omega) rfl ?_
     rw[show 0+(i:Int).toNat*1=i by omega]
     repeat(refine wkA ?_;intros)
     exact Zg (i+1,_,_) ⟨hlt,by rw[List.length_set];exact hlo,g2,g1,g3⟩ (by repeat(first|exact Zz|refine Zu rfl ?_)) (Wj _) (by simp only;omega)
   ·have hge:i=xs.length+1:=by have:=Wb h;omega
    subst hge
    repeat(refine wkA ?_;intros)
    have hfin:vd (os.take (xs.length+1))=a+b:=by
     rw[List.take_of_length_le (by omega)]
     rw[Zbe ys _ (by omega)] at hinv
     have h1:=ZaQ hDx
     have h2:=ZaQ hDy
     have h3:4294967296 ^ ys.length<=4294967296 ^ xs.length:=Nat.pow_le_pow_right (by omega) hle
     have h4:(4294967296:Nat) ^ (xs.length+1)=4294967296 ^ xs.length*4294967296:=Nat.pow_succ _ _
     have hc':c=0\/c=1:=by omega
     rcases hc' with rfl|rfl
     ·omega
     ·omega
    refine jq (Za8 rfl (fun w' hw'=>Zby bo (xs.length+1) (xs.length+1) os (0,0) (by omega) (Wl _) (by omega) hDo w' (hw'.mem _ MemC.out).2)) rfl rfl ?_
    rw[hfin]
    repeat(refine wkA ?_;intros)
    exact rtT rfl rfl
end
section
theorem Zin {os ys:List Nat}{i c r c' a T y:Nat}(hi:i<os.length)(hr:r+c+y=os[i]+c'*4294967296)(hS:vd os+T=a+vd (ys.drop i)*4294967296 ^ i+c*4294967296 ^ i)(hdr:vd (ys.drop i)=y+4294967296*vd (ys.drop (i+1))):
  vd (os.set i r)+T=a+vd (ys.drop (i+1))*4294967296 ^ (i+1)+c'*4294967296 ^ (i+1):=by
 have hs:=ZaE os i r hi
 rw[hdr] at hS
 rw[show(4294967296:Nat) ^ (i+1)=4294967296 ^ i*4294967296 from Nat.pow_succ _ _]
 generalize (4294967296:Nat) ^ i=p at*
 have e:(r+c+y)*p=(os[i]+c'*4294967296)*p:=by rw[hr]
 rw[Nat.add_mul,Nat.add_mul,Nat.add_mul,Nat.mul_comm c' 4294967296,Nat.mul_assoc] at e
 rw[Nat.add_mul,Nat.mul_assoc] at hS
 have e1:c'*(p*4294967296)=4294967296*(c'*p):=by rw[Nat.mul_comm p,<-Nat.mul_assoc,Nat.mul_comm c',Nat.mul_assoc]
 have e2:vd (ys.drop (i+1))*(p*4294967296)=4294967296*(vd (ys.drop (i+1))*p):=by rw[Nat.mul_comm p,<-Nat.mul_assoc,Nat.mul_comm (vd _) 4294967296,Nat.mul_assoc]
 rw[e1,e2]
 omega
theorem Zbs {a b:Nat}(h:b<=a):(mag b).size<=(mag a).size:=by
 rw[Z2]
 exact Nat.lt_of_le_of_lt h (Z2.1 (Wl _))
theorem ZnZ (a b:Nat)(ha:(mag a).size<=1099511627776)(hba:b<=a)(w:World):Calls prog 209 [.string (mag a), .string (mag b)].toArray w (Ret (.string (mag (a-b))) w):=by
 have hb:(mag b).size<=1099511627776:=Wi (Zbs hba) ha
 refine Zb Tryz.func209 rfl Tryz.ntmps209 rfl ?_
 refine Zc2 (ZdQ ?_)
 repeat(first|refine sX rfl rfl ?_|(refine sS rfl rfl ?_ ?_;focus omega)|(refine sC rfl rfl ?_ ?_;focus(first|exact trivial|assumption|constructor <;> assumption|exact mb2 rfl rfl|exact mb4 rfl rfl rfl rfl))|(refine sA rfl rfl ?_;intro _)|refine sT rfl ?_|refine sW rfl rfl ?_|refine sK rfl rfl ?_|refine cY ?_|refine pkT rfl rfl rfl rfl ?_|refine pkF rfl rfl rfl rfl ?_)
 refine Zfi (S:=Unit) (fun _=>True) (fun _=>[(0, .string (mag a)),(1, .string (mag b))]) (fun _=>[]) ?_ (fun _ _=>?_)
 ·repeat(refine wkA ?_;intros)
  refine Zk rfl (fun h=>?_) (fun h=>?_)
  ·rw[Wq] at h
   have h1:=Zca h.1
   have h2:=Zca h.2
   have h3:=Zcb a
   have h4:=Zcb b
   rw[h1] at h3
   rw[h2] at h4
   simp only[h1,h2]
   repeat(first|(refine wkA ?_;intros)|(refine sC rfl rfl ?_ ?_;focus(exact⟨h3,h4⟩)))
   rw[IntWalk.u64_in _ (by omega),show(a:Int)-b=((a-b:Nat):Int) by omega]
   repeat(first|(refine wkA ?_;intros)|(refine sC rfl rfl ?_ ?_;focus(omega)))
   exact rtT rfl rfl
  ·repeat(refine wkA ?_;intros)
   exact Zj () trivial (by repeat(first|exact Zz|refine Zu rfl ?_)) (Wj _)
 ·repeat(refine wkA ?_;intros)
  refine ZaC rfl (fun w' _=>Zap a ha w') rfl rfl ?_
  intro bx
  repeat(refine wkA ?_;intros)
  refine ZaC rfl (fun w' _=>Zap b hb w') rfl rfl ?_
  intro bY
  repeat(refine wkA ?_;intros)
  obtain⟨na,hna⟩:∃na,na=((mag a).size+3) / 4:=⟨_,rfl⟩
  obtain⟨nb,hnb⟩:∃nb,nb=((mag b).size+3) / 4:=⟨_,rfl⟩
  have hva:vd (dgs a na)=a:=by rw[hna,Zaw]
  have hvb:vd (dgs b nb)=b:=by rw[hnb,Zaw]
  have hla:=Z9 na a
  have hlb:=Z9 nb b
  have hDx:=Zar na a
  have hDy:=Zar nb b
  have hle:nb<=na:=by have:=Zbs hba;omega
  simp only[<-hna,<-hnb]
  generalize dgs a na=xs at*
  generalize dgs b nb=ys at*
  subst hla
  subst hlb
  refine Zbq (k:= .u32) (B:=4) (m:=xs.length) rfl rfl ⟨by omega,by omega⟩ rfl rfl ?_
  intro bo
  repeat(refine wkA ?_;intros)
  refine Zhi (k:= .u32) rfl rfl (by simp) (Wl _) rfl rfl ?_
  have e1:xs.take (min xs.length xs.length)++(List.replicate xs.length 0).drop (min xs.length xs.length)=xs:=by
   rw[Nat.min_self,List.take_of_length_le (Wl _),List.drop_replicate,Nat.sub_self]
   simp
  simp only[e1]
  repeat(refine wkA ?_;intros)
  refine Zq (S:=Nat×List Nat×Nat) (fun s=>s.1<=xs.length/\s.2.1.length=xs.length/\Dg s.2.1/\s.2.2<=1/\vd s.2.1+b=a+vd (ys.drop s.1)*4294967296 ^ s.1+s.2.2*4294967296 ^ s.1)
   (fun s=>[(9, .slice (some ⟨bY,0,none⟩) ys.length ys.length),(10, .slice (some ⟨bo,0,none⟩) xs.length xs.length),(11, .int .i64 s.2.2),(37, .int .i64 (xs.length:Int)),(38, .int .i64 s.1)])
   (fun s=>[⟨bo,dig .u32 s.2.1,230⟩,⟨bY,dig .u32 ys,230⟩,⟨bx,dig .u32 xs,230⟩]) (fun s=>xs.length-s.1) (0,xs,0)
   ⟨by simp,by simp,hDx,by simp,by simp[hva,hvb]⟩ (by repeat(first|exact Zz|refine Zu rfl ?_)) (Wj _) (fun s hs=>?_)
  obtain⟨i,os,c⟩:=s
  obtain⟨hi,hlo,hDo,hc,hinv⟩:=hs
  simp only at hi hlo hDo hc hinv⊢
  repeat(refine wkA ?_;intros)
  refine Zk rfl (fun h=>?_) (fun h=>?_)
  ·have hlt:i<xs.length:=by have:=Wa h;omega
   have hio:i<os.length:=by omega
   have hdo:=ZZ hDo hio
   repeat(refine wkA ?_;intros)
   refine jq (ZM rfl (show os[0+(i:Int).toNat*1]? =some os[i] by rw[show 0+(i:Int).toNat*1=i by omega];simp[hio])) rfl rfl ?_
   repeat(refine wkA ?_;intros)
   refine ZY (S:=Int) (fun s=>∃y:Nat,s=(os[i]:Int)-c-y/\y<4294967296/\vd (ys.drop i)=y+4294967296*vd (ys.drop (i+1)))
    (fun s=>[(9, .slice (some ⟨bY,0,none⟩) ys.length ys.length),(10, .slice (some ⟨bo,0,none⟩) xs.length xs.length),(12, .int .i64 i),(13, .int .i64 s),(37, .int .i64 (xs.length:Int)),(38, .int .i64 i)])
    (fun s=>[⟨bo,dig .u32 os,230⟩,⟨bY,dig .u32 ys,230⟩,⟨bx,dig .u32 xs,230⟩]) ?_ (fun d hd=>?_)
   ·refine Zk rfl (fun h=>?_) (fun h=>?_)
    ·have hiy:i<ys.length:=by have:=Wa h;omega
     have hdy:=ZZ hDy hiy
     repeat(refine wkA ?_;intros)
     refine jq (ZM rfl (show ys[0+(i:Int).toNat*1]? =some ys[i] by rw[show 0+(i:Int).toNat*1=i by omega];simp[hiy])) rfl rfl ?_
     repeat(refine wkA ?_;intros)
     exact Zj _ ⟨ys[i],rfl,hdy,Zdw ys i hiy⟩ (by repeat(first|exact Zz|refine Zu rfl ?_)) (Wj _)
    ·have hiy:ys.length<=i:=by have:=Wb h;omega
     repeat(refine wkA ?_;intros)
     exact Zj ((os[i]:Int)-c) ⟨0,by simp,by omega,by rw[Zbe ys i hiy,Zbe ys (i+1) (by omega)]⟩ (by repeat(first|exact Zz|refine Zu rfl ?_)) (Wj _)
   ·obtain⟨y,hdv,hy,hdr⟩:=hd
    repeat(refine wkA ?_;intros)
    refine Zk rfl (fun h=>?_) (fun h=>?_)
    ·have hneg:d<0:=Wa h
     obtain⟨r,hr⟩:∃r:Nat,(r:Int)=d+4294967296:=⟨(d+4294967296).toNat,by omega⟩
     have g:=Zin (r:=r) (c':=1) hio (by omega) hinv hdr
     repeat(refine wkA ?_;intros)
     simp only[<-hr]
     repeat(refine wkA ?_;intros)
     refine Z1 rfl rfl (by omega) rfl ?_
     rw[show 0+(i:Int).toNat*1=i by omega]
     repeat(refine wkA ?_;intros)
     exact Zg (i+1,_,1) ⟨hlt,by rw[List.length_set];exact hlo,Zbu hDo _ _ (by omega),by simp,g⟩ (by repeat(first|exact Zz|refine Zu rfl ?_)) (Wj _) (by simp only;omega)
    ·have hneg:¬d<0:=Wb h
     obtain⟨r,hr⟩:∃r:Nat,(r:Int)=d:=⟨d.toNat,by omega⟩
     have g:=Zin (r:=r) (c':=0) hio (by omega) hinv hdr
     simp only[<-hr]
     repeat(refine wkA ?_;intros)
     refine Z1 rfl rfl (by omega) rfl ?_
     rw[show 0+(i:Int).toNat*1=i by omega]
     repeat(refine wkA ?_;intros)
     exact Zg (i+1,_,0) ⟨hlt,by rw[List.length_set];exact hlo,Zbu hDo _ _ (by omega),by simp,g⟩ (by repeat(first|exact Zz|refine Zu rfl ?_)) (Wj _) (by simp only;omega)
  ·have hge:i=xs.length:=by have:=Wb h;omega
   subst hge
   repeat(refine wkA ?_;intros)
   have hfin:vd (os.take xs.length)=a-b:=by
    rw[List.take_of_length_le (by omega)]
    rw[Zbe ys _ (by omega)] at hinv
    have h1:=ZaQ hDo
    rw[hlo] at h1
    have hc':c=0\/c=1:=by omega
    rcases hc' with rfl|rfl
    ·omega
    ·omega
   refine jq (Za8 rfl (fun w' hw'=>Zby bo xs.length xs.length os (0,0) (by omega) (Wl _) (by omega) hDo w' (hw'.mem _ MemC.out).2)) rfl rfl ?_
   rw[hfin]
   repeat(refine wkA ?_;intros)
   exact rtT rfl rfl
end
section
theorem Zoz {os ys:List Nat}{i k c d M t:Nat}(hk:k<ys.length)(hi:i+k<os.length)(ht:t=c+(os[i+k]+d*ys[k]))(hS:vd os+c*4294967296 ^ (i+k)=M+d*vd (ys.take k)*4294967296 ^ i):
  vd (os.set (i+k) (t % 4294967296))+t / 4294967296*4294967296 ^ (i+(k+1))=M+d*vd (ys.take (k+1))*4294967296 ^ i:=by
 have hs:=ZaE os (i+k) (t % 4294967296) hi
 have hb:=Nat.div_add_mod t 4294967296
 generalize t / 4294967296=q at*
 generalize t % 4294967296=r at*
 have hy:vd (ys.take (k+1))=vd (ys.take k)+4294967296 ^ k*ys[k]:=by
  rw[Wn hk,Za5,Wt,Nat.min_eq_left (by omega)]
  simp[vd]
 rw[hy,show(4294967296:Nat) ^ (i+(k+1))=4294967296 ^ (i+k)*4294967296 from Nat.pow_succ _ _]
 have e:(4294967296*q+r)*4294967296 ^ (i+k)=(c+(os[i+k]+d*ys[k]))*4294967296 ^ (i+k):=by rw[hb,ht]
 have e3:d*(vd (ys.take k)+4294967296 ^ k*ys[k])*4294967296 ^ i=d*vd (ys.take k)*4294967296 ^ i+d*ys[k]*4294967296 ^ (i+k):=by
  rw[Nat.mul_add,Nat.add_mul,Nat.pow_add]
  congr 1
  rw[Nat.mul_comm (4294967296 ^ k),<-Nat.mul_assoc,Nat.mul_assoc (d*ys[k]),Nat.mul_comm (4294967296 ^ k)]
 rw[e3]
 generalize (4294967296:Nat) ^ (i+k)=p at*
 rw[Nat.add_mul,Nat.add_mul,Nat.add_mul,Nat.mul_assoc] at e
 have e1:q*(p*4294967296)=4294967296*(q*p):=by rw[Nat.mul_comm p,<-Nat.mul_assoc,Nat.mul_comm q,Nat.mul_assoc]
 rw[e1]
 omega
theorem Ze2 {c o d y:Nat}(hc:c<4294967296)(ho:o<4294967296)(hd:d<4294967296)(hy:y<4294967296):d*y<=18446744065119617025/\c+(o+d*y)<18446744073709551616:=by
 have h:d*y<=4294967295*4294967295:=Nat.mul_le_mul (by omega) (by omega)
 omega
theorem Zpy {os:List Nat}{i:Nat}(h:vd os<4294967296 ^ i)(hi:i<os.length):os[i]=0:=by
 have:=Zd6 os i hi
 rcases Nat.eq_zero_or_pos os[i] with h1|h1
 ·exact h1
 ·have h2:1*4294967296 ^ i<=os[i]*4294967296 ^ i:=Nat.mul_le_mul_right _ h1
  omega
instance ZwA (x y:Nat):SpecC prog 229 [.int .u64 x, .int .u64 y] (.tuple #[.int .u64 ((x*y / 18446744073709551616:Nat):Int), .int .u64 ((x*y % 18446744073709551616:Nat):Int)]) (x<18446744073709551616/\y<18446744073709551616):=⟨fun h w=>
 (Tryz.bits_Mul64 x y h.1 h.2 w).mono fun e w' ⟨h1,h2⟩=>by subst h2;exact⟨h1,Ext.refl _⟩⟩
theorem Zpb (a b:Nat)(ha:(mag a).size<=1099511627776)(hb:(mag b).size<=1099511627776)(w:World):Calls prog 210 [.string (mag a), .string (mag b)].toArray w (Ret (.string (mag (a*b))) w):=by
 refine Zb Tryz.func210 rfl Tryz.ntmps210 rfl ?_
 refine Zc2 (ZdQ ?_)
 repeat(first|refine sX rfl rfl ?_|(refine sS rfl rfl ?_ ?_;focus omega)|(refine sC rfl rfl ?_ ?_;focus(first|exact trivial|assumption|constructor <;> assumption|exact mb2 rfl rfl|exact mb4 rfl rfl rfl rfl))|(refine sA rfl rfl ?_;intro _)|refine sT rfl ?_|refine sW rfl rfl ?_|refine sK rfl rfl ?_|refine cY ?_|refine pkT rfl rfl rfl rfl ?_|refine pkF rfl rfl rfl rfl ?_)
 refine Zfi (S:=Unit) (fun _=>True) (fun _=>[(0, .string (mag a)),(1, .string (mag b))]) (fun _=>[]) ?_ (fun _ _=>?_)
 ·repeat(refine wkA ?_;intros)
  refine Zk rfl (fun h=>?_) (fun h=>?_)
  ·rw[Wq] at h
   have h1:=Zca h.1
   have h2:=Zca h.2
   have h3:=Zcb a
   have h4:=Zcb b
   rw[h1] at h3
   rw[h2] at h4
   simp only[h1,h2]
   repeat(first|(refine wkA ?_;intros)|(refine sC rfl rfl ?_ ?_;focus(exact⟨h3,h4⟩)))
   refine Zk rfl (fun h=>?_) (fun h=>?_)
   ·have h5:=Wa h
    have h6:(a*b) % 18446744073709551616=a*b:=by omega
    simp only[h6]
    repeat(first|(refine wkA ?_;intros)|(refine sC rfl rfl ?_ ?_;focus(omega)))
    exact rtT rfl rfl
   ·repeat(refine wkA ?_;intros)
    exact Zj () trivial (by repeat(first|exact Zz|refine Zu rfl ?_)) (Wj _)
  ·repeat(refine wkA ?_;intros)
   exact Zj () trivial (by repeat(first|exact Zz|refine Zu rfl ?_)) (Wj _)
 ·repeat(refine wkA ?_;intros)
  refine ZaC rfl (fun w' _=>Zap a ha w') rfl rfl ?_
  intro bx
  repeat(refine wkA ?_;intros)
  refine ZaC rfl (fun w' _=>Zap b hb w') rfl rfl ?_
  intro bY
  repeat(refine wkA ?_;intros)
  obtain⟨na,hna⟩:∃na,na=((mag a).size+3) / 4:=⟨_,rfl⟩
  obtain⟨nb,hnb⟩:∃nb,nb=((mag b).size+3) / 4:=⟨_,rfl⟩
  have hva:vd (dgs a na)=a:=by rw[hna,Zaw]
  have hvb:vd (dgs b nb)=b:=by rw[hnb,Zaw]
  have hla:=Z9 na a
  have hlb:=Z9 nb b
  have hDx:=Zar na a
  have hDy:=Zar nb b
  simp only[<-hna,<-hnb]
  generalize dgs a na=xs at*
  generalize dgs b nb=ys at*
  subst hla
  subst hlb
  have em:(xs.length:Int)+(ys.length:Int)+1=((xs.length+ys.length+1:Nat):Int):=by omega
  simp only[em]
  refine Zbq (k:= .u32) (B:=4) (m:=xs.length+ys.length+1) rfl rfl ⟨by omega,by omega⟩ rfl rfl ?_
  intro bo
  repeat(refine wkA ?_;intros)
  refine Zq (S:=Nat×List Nat) (fun s=>s.1<=xs.length/\s.2.length=xs.length+ys.length+1/\Dg s.2/\vd s.2=vd (xs.take s.1)*b)
   (fun s=>[(10, .slice (some ⟨bx,0,none⟩) xs.length xs.length),(11, .slice (some ⟨bY,0,none⟩) ys.length ys.length),(12, .slice (some ⟨bo,0,none⟩) (xs.length+ys.length+1) (xs.length+ys.length+1)),(46, .slice (some ⟨bx,0,none⟩) xs.length xs.length),(47, .int .i64 (xs.length:Int)),(48, .int .i64 s.1)])
   (fun s=>[⟨bo,dig .u32 s.2,230⟩,⟨bY,dig .u32 ys,230⟩,⟨bx,dig .u32 xs,230⟩]) (fun s=>xs.length-s.1) (0,List.replicate (xs.length+ys.length+1) 0)
   ⟨by simp,by simp,Zew _,by simp[vd,Zey]⟩ (by repeat(first|exact Zz|refine Zu rfl ?_)) (Wj _) (fun s hs=>?_)
  obtain⟨i,os⟩:=s
  obtain⟨hi,hlo,hDo,hinv⟩:=hs
  simp only at hi hlo hDo hinv⊢
  repeat(refine wkA ?_;intros)
  refine Zk rfl (fun h=>?_) (fun h=>?_)
  ·have hlt:i<xs.length:=by have:=Wa h;omega
   have hdx:=ZZ hDx hlt
   repeat(refine wkA ?_;intros)
   refine jq (ZM rfl (show xs[0+(i:Int).toNat*1]? =some xs[i] by rw[show 0+(i:Int).toNat*1=i by omega];simp[hlt])) rfl rfl ?_
   repeat(refine wkA ?_;intros)
   have hbig:vd os<4294967296 ^ (i+ys.length):=by
    rw[hinv,Nat.pow_add]
    have h1:=ZaQ (Zbj hDx i)
    rw[Wt,Nat.min_eq_left (by omega)] at h1
    have h2:=ZaQ hDy
    rw[hvb] at h2
    rcases Nat.eq_zero_or_pos b with h3|h3
    ·subst h3
     rw[Nat.mul_zero]
     exact Nat.mul_pos (Nat.pow_pos (by omega)) (Nat.pow_pos (by omega))
    ·exact Nat.lt_of_lt_of_le (Nat.mul_lt_mul_of_pos_right h1 h3) (Nat.mul_le_mul_left _ (Nat.le_of_lt h2))
   have htop:=Zpy hbig (by omega)
   refine Zq (S:=Nat×List Nat×Nat) (fun s=>s.1<=ys.length/\s.2.1.length=xs.length+ys.length+1/\Dg s.2.1/\s.2.2<4294967296/\s.2.1[i+ys.length]? =some 0/\vd s.2.1+s.2.2*4294967296 ^ (i+s.1)=vd (xs.take i)*b+xs[i]*vd (ys.take s.1)*4294967296 ^ i)
    (fun s=>[(10, .slice (some ⟨bx,0,none⟩) xs.length xs.length),(11, .slice (some ⟨bY,0,none⟩) ys.length ys.length),(12, .slice (some ⟨bo,0,none⟩) (xs.length+ys.length+1) (xs.length+ys.length+1)),(46, .slice (some ⟨bx,0,none⟩) xs.length xs.length),(47, .int .i64 (xs.length:Int)),(48, .int .i64 i),(13, .int .i64 i),(14, .int .u32 xs[i]),(15, .int .u64 s.2.2),(54, .int .i64 ys.length),(55, .int .i64 s.1)])
    (fun s=>[⟨bo,dig .u32 s.2.1,230⟩,⟨bY,dig .u32 ys,230⟩,⟨bx,dig .u32 xs,230⟩]) (fun s=>ys.length-s.1) (0,os,0)
    ⟨by simp,hlo,hDo,by simp,by simp only;rw[List.getElem?_eq_getElem (by omega),htop],by simp[vd,hinv]⟩ (by repeat(first|exact Zz|refine Zu rfl ?_)) (Wj _) (fun s hs=>?_)
   obtain⟨k,ps,c⟩:=s
   obtain⟨hk,hlp,hDp,hc,hz,hin⟩:=hs
   simp only at hk hlp hDp hc hz hin⊢
   repeat(refine wkA ?_;intros)
   refine Zk rfl (fun h=>?_) (fun h=>?_)
   ·have hky:k<ys.length:=by have:=Wa h;omega
    have hdy:=ZZ hDy hky
    have hip:i+k<ps.length:=by omega
    have hdp:=ZZ hDp hip
    obtain⟨hw1,hw2⟩:=Ze2 hc hdp hdx hdy
    repeat(refine wkA ?_;intros)
    refine jD 19 19 (h:=?_)
    (repeat(refine wkH ?_))
    refine hq (ZM rfl (show ps[0+((i:Int)+(k:Int)).toNat*1]? =some ps[i+k] by rw[show 0+((i:Int)+(k:Int)).toNat*1=i+k by omega];simp[hip])) rfl rfl ?_
    (repeat(refine wkH ?_))
    refine hq (ZM rfl (show ys[0+(k:Int).toNat*1]? =some ys[k] by rw[show 0+(k:Int).toNat*1=k by omega];simp[hky])) rfl rfl ?_
    refine hq (ZfI rfl ?_) rfl rfl ?_
    ·omega
    refine hq (Zgg rfl rfl ?_) rfl rfl ?_
    ·rw[<-Int.natCast_mul];omega
    rw[<-Int.natCast_mul]
    (repeat(refine wkH ?_))
    refine Zo (Zs ?_)
    repeat(refine wkA ?_;intros)
    refine jq (ZaI rfl rfl (by decide)) rfl rfl ?_
    repeat(refine wkA ?_;intros)
    obtain⟨t,ht⟩:∃t,t=c+(ps[i+k]+xs[i]*ys[k]):=⟨_,rfl⟩
    rw[p32,IntKind.wrap_u32,show(c:Int)+((ps[i+k]:Nat)+((xs[i]*ys[k]:Nat):Int))=(t:Int) by omega,show(t:Int) % 4294967296=((t % 4294967296:Nat):Int) by omega,show(t:Int) / 4294967296=((t / 4294967296:Nat):Int) by omega]
    refine Z1 rfl rfl (by omega) rfl ?_
    rw[show 0+((i:Int)+(k:Int)).toNat*1=i+k by omega]
    have g:=Zoz hky hip ht hin
    repeat(refine wkA ?_;intros)
    exact Zg (k+1,_,t / 4294967296) ⟨hky,by rw[List.length_set];exact hlp,Zbu hDp _ _ (Nat.mod_lt _ (by omega)),by simp only;omega,by simp only;rw[List.getElem?_set_ne (by omega)];exact hz,g⟩ (by repeat(first|exact Zz|refine Zu rfl ?_)) (Wj _) (by simp only;omega)
   ·have hge:k=ys.length:=by have:=Wb h;omega
    subst hge
    repeat(refine wkA ?_;intros)
    have hip:i+ys.length<ps.length:=by omega
    refine Z1 rfl rfl (by omega) rfl ?_
    rw[show 0+((i:Int)+(ys.length:Int)).toNat*1=i+ys.length by omega]
    repeat(refine wkA ?_;intros)
    have hfin:vd (ps.set (i+ys.length) c)=vd (xs.take (i+1))*b:=by
     have hs:=ZaE ps (i+ys.length) c hip
     rw[List.getElem?_eq_getElem hip] at hz
     simp only[Option.some.injEq] at hz
     rw[hz,Nat.zero_mul] at hs
     rw[List.take_of_length_le (Wl _),hvb] at hin
     have hy:vd (xs.take (i+1))=vd (xs.take i)+4294967296 ^ i*xs[i]:=by
      rw[Wn hlt,Za5,Wt,Nat.min_eq_left (by omega)]
      simp[vd]
     rw[hy,Nat.add_mul]
     have e4:4294967296 ^ i*xs[i]*b=xs[i]*b*4294967296 ^ i:=by rw[Nat.mul_assoc,Nat.mul_comm]
     rw[e4]
     omega
    exact Zg (i+1,_) ⟨hlt,by rw[List.length_set];exact hlp,Zbu hDp _ _ hc,hfin⟩ (by repeat(first|exact Zz|refine Zu rfl ?_)) (Wj _) (by simp only;omega)
  ·have hge:i=xs.length:=by have:=Wb h;omega
   subst hge
   repeat(refine wkA ?_;intros)
   have hfin:vd (os.take (xs.length+ys.length+1))=a*b:=by
    rw[List.take_of_length_le (by omega),hinv,List.take_of_length_le (Wl _),hva]
   refine jq (Za8 rfl (fun w' hw'=>Zby bo (xs.length+ys.length+1) (xs.length+ys.length+1) os (0,0) (by omega) (Wl _) (by omega) hDo w' (hw'.mem _ MemC.out).2)) rfl rfl ?_
   rw[hfin]
   repeat(refine wkA ?_;intros)
   exact rtT rfl rfl
end
end Go.Vt
