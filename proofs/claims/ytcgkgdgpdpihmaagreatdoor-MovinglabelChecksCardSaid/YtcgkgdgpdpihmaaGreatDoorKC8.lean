/- For any up to 12 units whose ends have up to 20 bytes, and for any decoded moving label (up to 8 stretches), Check returns OK or the first error. Conditions: none. (part 8 of 28.) Conditions: those that each statement names. -/
import Derived.Test.YtcgkgdgpdpihmaaGreatDoorProg
import Derived.Test.YtcgkgdgpdpihmaaGreatDoorKC7
set_option linter.unusedSimpArgs false
set_option linter.unusedVariables false
set_option maxHeartbeats 20000000
set_option maxRecDepth 100000
namespace Go.Vt
open Go.RowKit Go.Proofs
open Go.Proofs.Tryz (prog)
section
theorem ZoD {P:Program}{w0:World}{n:Nat}{ops:Array Oper}{L:List Blk}{E:Env}{Q:Exit->Act->World->Prop}{rest:List Oper}{ty:TypeId}{pos:String}{aft:Array Edge}{gd:Option (Nat×Bool)}
  {f:FuncId} {xs:List Operand} {l:List Value} {ats:Array TypeId} {t:Tmp} {S:Type} (I:S->Prop) (val:S->Value) (mem:S->List Blk) (hl:Env.evs E xs=some l) [hf:CallC P f] (hc:∀w,Own w0 L w->Calls P f l.toArray w fun e w'=>∃s,I s/\RetO (val s) w0 (mem s) e w')
  (hg:guardB ops E gd=some true) (hd:Nat.blt t n=true) (h:∀s,I s->JO P w0 n ops Q rest ((t,val s)::E) (mem s)):JO P w0 n ops Q (⟨some t, .call ⟨.value (.func f),xs.toArray,ats⟩,ty,pos,aft,gd⟩::rest) E L:=
 Zht (S:={s:S // I s}) (o:=⟨some t, .call ⟨.value (.func f),xs.toArray,ats⟩,ty,pos,aft,gd⟩) hg hd (fun s=>val s.1) (fun s=>mem s.1) (fun _ _ ha=>ZbX hf.out ha hl)
  (fun w hw=>(hc w hw).mono fun _ _ ⟨s,hs,he,ho⟩=>⟨⟨s,hs⟩,he,ho⟩) (fun s=>h s.1 s.2)
theorem ZdS (b c:Nat)(xs:List Nat)(s:Nat)(fz:Nat×Nat)(hs:s<32)(hD:Dg xs)(hx:xs.length<=1099511627776)(w:World)(hw:w.heap[b]? =some (.cells (dig .u32 xs) 230 fz)):
  Calls prog 244 [.slice (some ⟨b,0,none⟩) xs.length c, .int .i64 s].toArray w (RetB (fun b=> .slice (some ⟨b,0,none⟩) (xs.length+1) (xs.length+1)) (dig .u32 (dgs (vd xs*2 ^ s) (xs.length+1))) 230 w):=by
 obtain⟨os,h1,h2,h3,h4⟩:=Zg4 b c xs s fz hs hD hx w hw
 rw[Zh1 h2 h1 h3] at h4
 exact h4
instance ZCe (x:Nat):SpecC prog 243 [.int .u32 x] (.int .i64 (32-(Lib.bitLen x:Int))) (x<4294967296):=⟨fun h w=>(Tryz.bits_LeadingZeros32 x w (by omega) (by omega)).mono fun e w' ⟨h1,h2⟩=>by subst h2;exact⟨h1,Ext.refl _⟩⟩
theorem bit32 {x:Nat}(h0:x≠0)(h:x<4294967296):1<=Lib.bitLen x/\Lib.bitLen x<=32/\x<2 ^ Lib.bitLen x:=by
 obtain⟨h1,h2,h3⟩:=Zcd (x:=x) (by omega) h0
 refine⟨h1, ?_,h3⟩
 rcases Nat.lt_or_ge 32 (Lib.bitLen x) with h4|h4
 ·have h5:(2:Nat) ^ 32<=2 ^ (Lib.bitLen x-1):=Nat.pow_le_pow_right (by omega) (by omega)
  omega
 ·exact h4
theorem ZeX {b n:Nat}(hb:b≠0)(hn:n=((mag b).size+3) / 4):1<=n/\4294967296 ^ (n-1)<=b/\b<4294967296 ^ n:=by
 have h1:1<=(mag b).size:=by
  rcases Nat.eq_zero_or_pos (mag b).size with h1|h1
  ·exfalso
   have:(mag b).size<=0:=by omega
   rw[Z2] at this
   omega
  ·exact h1
 refine⟨by omega, ?_, ?_⟩
 ·rw[ZcU]
  rcases Nat.lt_or_ge b (256 ^ (4*(n-1))) with h2|h2
  ·have:=Z2.2 h2
   omega
  ·exact h2
 ·rw[ZcU]
  have h2:b<256 ^ (mag b).size:=Z2.1 (Wl _)
  exact Nat.lt_of_lt_of_le h2 (Nat.pow_le_pow_right (by omega) (by omega))
theorem ZlY {b n:Nat}(hb:b≠0)(hn:n=((mag b).size+3) / 4):∃t,(dgs b n)[n-1]? =some t/\t≠0/\t<4294967296/\t*4294967296 ^ (n-1)<=b/\b<(t+1)*4294967296 ^ (n-1):=by
 obtain⟨h1,h2,h3⟩:=ZeX hb hn
 have hl:=Z9 n b
 have hD:=Zar n b
 have hv:vd (dgs b n)=b:=by rw[ZbO,Nat.mod_eq_of_lt h3]
 generalize dgs b n=ds at*
 have hi:n-1<ds.length:=by omega
 refine⟨ds[n-1],by simp[hi], ?_,ZZ hD hi, ?_⟩
 ·intro h0
  have h4:=Zav ds (n-1) (by omega)
  rw[List.drop_eq_getElem_cons hi,List.drop_eq_nil_of_le (by omega),h0] at h4
  have h5:=ZaQ (Zbj hD (n-1))
  rw[Wt,Nat.min_eq_left (by omega)] at h5
  simp[vd] at h4
  omega
 ·have h4:=Zav ds (n-1) (by omega)
  rw[List.drop_eq_getElem_cons hi,List.drop_eq_nil_of_le (by omega),hv] at h4
  have h5:=ZaQ (Zbj hD (n-1))
  rw[Wt,Nat.min_eq_left (by omega)] at h5
  simp only[vd,Nat.mul_zero,Nat.add_zero] at h4
  rw[Nat.mul_comm (4294967296 ^ (n-1))] at h4
  rw[Nat.add_mul,Nat.one_mul]
  omega
theorem Znt {a n:Nat}(h:a<4294967296 ^ n):dgs a (n+1)=dgs a n++[0]:=by
 symm
 refine Zh1 (Zgh (Zar _ _) (fun d hd=>by simp at hd;omega)) (by simp[Z9]) ?_
 rw[Za5,ZbO,Nat.mod_eq_of_lt h]
 simp[vd]
structure KI (A Y n m k:Nat)(zs os:List Nat):Prop where
 hk:k<=m
 lz:zs.length=m+n
 dz:Dg zs
 lo:os.length=m
 dO:Dg os
 z0:∀i,i<k->os[i]? =some 0
 eq:A=vd zs+Y*vd os
 lt:vd (zs.drop k)<Y
theorem Zm0 {b s t n:Nat}(hn:1<=n)(hs:s<=32)(h:b<(t+1)*4294967296 ^ (n-1))(ht:t<2 ^ (32-s)):b*2 ^ s<4294967296 ^ n:=by
 have hp:0<2 ^ s:=Nat.pow_pos (by omega)
 have h1:b*2 ^ s<(t+1)*4294967296 ^ (n-1)*2 ^ s:=Nat.mul_lt_mul_of_pos_right h hp
 have h2:(t+1)*2 ^ s<=2 ^ (32-s)*2 ^ s:=Nat.mul_le_mul_right _ ht
 rw[<-Nat.pow_add,show 32-s+s=32 by omega] at h2
 have h3:(t+1)*2 ^ s*4294967296 ^ (n-1)<=2 ^ 32*4294967296 ^ (n-1):=Nat.mul_le_mul_right _ h2
 have h4:2 ^ 32*4294967296 ^ (n-1)=4294967296 ^ n:=by
  obtain⟨k,rfl⟩:∃k,n=k+1:=⟨n-1,by omega⟩
  rw[Nat.add_sub_cancel,show(4294967296:Nat) ^ (k+1)=4294967296 ^ k*4294967296 from Nat.pow_succ _ _,Nat.mul_comm]
 have h5:(t+1)*4294967296 ^ (n-1)*2 ^ s=(t+1)*2 ^ s*4294967296 ^ (n-1):=by rw[Nat.mul_assoc,Nat.mul_comm (4294967296 ^ (n-1)),<-Nat.mul_assoc]
 omega
theorem Zpa {a b s n m nx:Nat}(ha:a<4294967296 ^ nx)(hb:4294967296 ^ (n-1)<=b)(hn:1<=n)(hm:nx+1=m+n)(hs:s<32):KI (a*2 ^ s) (b*2 ^ s) n m m (dgs (a*2 ^ s) (nx+1)) (List.replicate m 0):=by
 obtain⟨hp1,hp2⟩:=pow31 hs
 have hA:a*2 ^ s<4294967296 ^ (nx+1):=by
  rw[Nat.pow_succ]
  exact Nat.mul_lt_mul'' ha (by omega)
 have hv:vd (dgs (a*2 ^ s) (nx+1))=a*2 ^ s:=by rw[ZbO,Nat.mod_eq_of_lt hA]
 refine⟨Wl _,by rw[Z9,hm],Zar _ _,by simp,Zew _,fun i hi=>by simp[hi],by rw[hv,Zey];simp, ?_⟩
 have h1:=Zav (dgs (a*2 ^ s) (nx+1)) m (by rw[Z9];omega)
 rw[hv] at h1
 have h2:a*2 ^ s<4294967296 ^ nx*2 ^ s:=Nat.mul_lt_mul_of_pos_right ha (by omega)
 have h3:4294967296 ^ nx=4294967296 ^ m*4294967296 ^ (n-1):=by rw[<-Nat.pow_add];congr 1;omega
 have h4:4294967296 ^ m*vd ((dgs (a*2 ^ s) (nx+1)).drop m)<4294967296 ^ m*(4294967296 ^ (n-1)*2 ^ s):=by
  rw[<-Nat.mul_assoc,<-h3]
  omega
 have h5:=Nat.lt_of_mul_lt_mul_left h4
 have h6:4294967296 ^ (n-1)*2 ^ s<=b*2 ^ s:=Nat.mul_le_mul_right _ hb
 omega
theorem Zk8 {zs:List Nat}{W i s:Nat}(hD:Dg zs)(hv:vd zs=W*2 ^ s)(hi:i+1<zs.length)(hs:s<32):(zs[i+1]*4294967296+zs[i]) / 2 ^ s % 4294967296=W / 4294967296 ^ i % 4294967296:=by
 have hp:0<2 ^ s:=Nat.pow_pos (by omega)
 have h0:=ZdD zs hD i (by omega)
 have h1:=ZdD zs hD (i+1) hi
 rw[Nat.pow_succ,<-Nat.div_div_eq_div_mul] at h1
 have hW:W=vd zs / 2 ^ s:=by rw[hv,Nat.mul_div_cancel _ hp]
 have e1:W / 4294967296 ^ i=vd zs / 4294967296 ^ i / 2 ^ s:=by rw[hW,Nat.div_div_eq_div_mul,Nat.div_div_eq_div_mul,Nat.mul_comm]
 rw[e1,<-h0,<-h1]
 generalize vd zs / 4294967296 ^ i=Z
 have h2:Z / 4294967296 % 4294967296*4294967296+Z % 4294967296=Z % (4294967296*4294967296):=by rw[Nat.mod_mul];omega
 rw[h2]
 have h3:=Nat.div_add_mod Z (4294967296*4294967296)
 generalize Z % (4294967296*4294967296)=r at*
 generalize Z / (4294967296*4294967296)=k at*
 have h4:(4294967296:Nat)*4294967296*k=2 ^ s*(4294967296*(2 ^ (32-s)*k)):=by
  have h5:(4294967296:Nat)=2 ^ s*2 ^ (32-s):=by rw[<-Nat.pow_add,show s+(32-s)=32 by omega]
  have h6:(4294967296:Nat)*4294967296*k=4294967296*(4294967296*k):=Nat.mul_assoc _ _ _
  rw[h6]
  conv=>lhs;rw[h5]
  rw[show 2 ^ s*2 ^ (32-s)*(2 ^ s*2 ^ (32-s)*k)=2 ^ s*((2 ^ s*2 ^ (32-s))*(2 ^ (32-s)*k)) by grind,<-h5]
 rw[<-h3,h4,Nat.mul_add_div hp,Nat.mul_add_mod]
theorem Zog {l:List Nat}{i n:Nat}(hl:l.length=n)(hi:i<n):(l.take i++List.replicate (n-i) 0).set i (l[i]'(by omega))=l.take (i+1)++List.replicate (n-(i+1)) 0:=by
 have h1:(l.take i).length=i:=by rw[Wt];omega
 obtain⟨k,hk⟩:∃k,n-i=k+1:=⟨n-i-1,by omega⟩
 rw[hk,show n-(i+1)=k by omega,List.set_append_right _ _ (by omega),h1,Nat.sub_self,List.replicate_succ,List.set_cons_zero,Wn (by omega),List.append_assoc]
 rfl
theorem Zro {Y v1 v2 n:Nat}(hn:2<=n)(h:4294967296 ^ (n-1)<=Y)(hY:Y<(v1*4294967296+v2+1)*4294967296 ^ (n-2))(h2:v2<4294967296):0<v1:=by
 rcases Nat.eq_zero_or_pos v1 with h0|h0
 ·exfalso
  subst h0
  have h1:(0*4294967296+v2+1)*4294967296 ^ (n-2)<=4294967296*4294967296 ^ (n-2):=Nat.mul_le_mul_right _ (by omega)
  have h3:4294967296 ^ (n-1)=4294967296*4294967296 ^ (n-2):=by
   rw[show n-1=n-2+1 by omega,Nat.pow_succ,Nat.mul_comm]
  omega
 ·exact h0
theorem Zoh (a b:Nat)(hb0:b≠0)(ha:(mag a).size<=1099511627776)(hb:(mag b).size<=1099511627776)(w:World):Calls prog 223 [.string (mag a), .string (mag b)].toArray w (Ret (.tuple #[.string (mag (a / b)), .string (mag (a % b))]) w):=by
 refine Zb Tryz.func223 rfl Tryz.ntmps223 rfl ?_
 repeat(refine wkA ?_;intros)
 refine Zk rfl (fun h=>?_) (fun h=>?_)
 ·rw[Wq] at h
  have h1:=Zca h.1
  have h2:=Zca h.2
  have h3:=Zcb a
  have h4:=Zcb b
  rw[h1] at h3
  rw[h2] at h4
  simp only[h1,h2]
  have hqd:(a:Int) / (b:Int)=((a / b:Nat):Int):=rfl
  have hrd:(a:Int) % (b:Int)=((a % b:Nat):Int):=rfl
  have hq2:a / b<=a:=Nat.div_le_self _ _
  have hr2:a % b<=a:=Nat.mod_le _ _
  repeat(refine wkA ?_;intros)
  refine jD 10 10 (h:=?_)
  (repeat(refine wkH ?_))
  refine hq (ZfY rfl rfl ?_) rfl rfl ?_
  ·omega
  rw[hqd]
  (repeat(first|refine wkH ?_|(refine tC rfl rfl ?_ ?_;focus(omega))))
  refine hq (Zeg rfl rfl ?_) rfl rfl ?_
  ·omega
  rw[hrd]
  (repeat(first|refine wkH ?_|(refine tC rfl rfl ?_ ?_;focus(omega))))
  refine Zo (Zs ?_)
  repeat(refine wkA ?_;intros)
  exact ZF rfl (Zy rfl) (Zy rfl) (fun w hw=>ZP hw)
 ·repeat(refine wkA ?_;intros)
  refine Zk rfl (fun h=>?_) (fun h=>?_)
  ·have hlt:=Zju.1 (Wa h)
   repeat(refine wkA ?_;intros)
   rw[Nat.div_eq_of_lt (by omega),Nat.mod_eq_of_lt (by omega)]
   exact ZF rfl (Zy rfl) (Zy rfl) (fun w hw=>ZP hw)
  ·have hge:b<=a:=by
    have:=Wb h
    rw[Zju] at this
    omega
   repeat(refine wkA ?_;intros)
   refine ZaC rfl (fun w' _=>Zap b hb w') rfl rfl ?_
   intro bY
   obtain⟨nb,hnb⟩:∃nb,nb=((mag b).size+3) / 4:=⟨_,rfl⟩
   obtain⟨na,hna⟩:∃na,na=((mag a).size+3) / 4:=⟨_,rfl⟩
   simp only[<-hnb]
   obtain⟨hn1,hbl,hbh⟩:=ZeX hb0 hnb
   obtain⟨t,ht,ht0,htB,htl,hth⟩:=ZlY hb0 hnb
   have hvb:vd (dgs b nb)=b:=by rw[hnb,Zaw]
   have hlb:=Z9 nb b
   have hDb:=Zar nb b
   repeat(refine wkA ?_;intros)
   refine Zk rfl (fun h=>?_) (fun h=>?_)
   ·have hone:nb=1:=by have:=Wa h;omega
    subst hone
    repeat(refine wkA ?_;intros)
    refine ZaC rfl (fun w' _=>Zap a ha w') rfl rfl ?_
    intro bx
    simp only[<-hna]
    repeat(refine wkA ?_;intros)
    refine jq (ZM rfl (show(dgs b 1)[0+(0:Int).toNat*1]? =some t from ht)) rfl rfl ?_
    have htb:t=b:=by
     simp only[Nat.sub_self,Nat.pow_zero,Nat.mul_one] at htl hth
     omega
    have hva:vd (dgs a na)=a:=by rw[hna,Zaw]
    have hla:=Z9 na a
    have hDa:=Zar na a
    generalize dgs a na=xs at*
    subst hla
    refine ZoD (S:=List Nat) (fun qs=>qs.length=xs.length/\Dg qs/\vd qs=vd xs / t) (fun _=> .int .u32 ((vd xs % t:Nat):Int)) (fun qs=>[⟨bx,dig .u32 qs,230⟩,⟨bY,dig .u32 (dgs b 1),230⟩]) rfl
     (fun w' hw'=>(Zlk bx xs.length xs t hDa (by omega) htB (by omega) _ w' _ hw').mono fun e w2 ⟨qs,g1,g2,g3,g4⟩=>⟨qs,⟨g1,g2,g3⟩,g4⟩) rfl rfl (fun qs hqs=>?_)
    obtain⟨g1,g2,g3⟩:=hqs
    repeat(refine wkA ?_;intros)
    refine jq (Za8 rfl (fun w' hw'=>Zby bx xs.length xs.length qs (0,0) (by omega) (Wl _) (by omega) g2 w' (hw'.mem _ MemC.out).2)) rfl rfl ?_
    have e1:vd (qs.take xs.length)=a / b:=by rw[List.take_of_length_le (by omega),g3,hva,htb]
    have e2:vd xs % t=a % b:=by rw[hva,htb]
    rw[e1]
    have hrb:a % b<4294967296:=by have:=Nat.mod_lt a (Nat.pos_of_ne_zero hb0);omega
    simp only[e2]
    repeat(first|(refine wkA ?_;intros)|(refine sC rfl rfl ?_ ?_;focus(omega)))
    exact ZF rfl (Zy rfl) (Zy rfl) (fun w hw=>ZP hw)
   ·have hn2:2<=nb:=by have:=Wb h;omega
    have hnle:nb<=na:=by have:=Zbs hge;omega
    obtain⟨l1,l2,l3⟩:=bit32 ht0 htB
    obtain⟨s,hs⟩:∃s,s=32-Lib.bitLen t:=⟨_,rfl⟩
    have es:(32:Int)-Lib.bitLen t=(s:Int):=by omega
    have hs32:s<32:=by omega
    rw[show Lib.bitLen t=32-s by omega] at l3
    have hYB:=Zm0 hn1 (by omega) hth l3
    obtain⟨hp1,hp2⟩:=pow31 hs32
    repeat(refine wkA ?_;intros)
    refine jq (ZM rfl (show(dgs b nb)[0+((nb:Int)-1).toNat*1]? =some t by rw[show 0+((nb:Int)-1).toNat*1=nb-1 by omega];exact ht)) rfl rfl ?_
    repeat(first|(refine wkA ?_;intros)|(refine sC rfl rfl ?_ ?_;focus(exact htB)))
    simp only[es]
    refine ZaC rfl (fun w' _=>Zap a ha w') rfl rfl ?_
    intro bxa
    simp only[<-hna]
    have hva:vd (dgs a na)=a:=by rw[hna,Zaw]
    have hla:=Z9 na a
    have hDa:=Zar na a
    have haB:a<4294967296 ^ na:=(ZeX (by omega) hna).2.2
    generalize dgs a na=xs at*
    subst hla
    generalize dgs b nb=ys0 at*
    subst hlb
    repeat(refine wkA ?_;intros)
    refine ZaC rfl (fun w' hw'=>ZdS bxa xs.length xs s (0,0) hs32 hDa (by omega) w' (hw'.mem _ MemC.out).2) rfl rfl ?_
    intro bx
    rw[hva]
    repeat(refine wkA ?_;intros)
    refine ZaC rfl (fun w' hw'=>ZdS bY ys0.length ys0 s (0,0) hs32 hDb (by omega) w' (hw'.mem _ MemC.out).2) rfl rfl ?_
    intro b2
    rw[hvb,Znt hYB]
    repeat(refine wkA ?_;intros)
    refine jq (ZeK rfl rfl (by omega)) rfl rfl ?_
    rw[Int.toNat_natCast]
    repeat(refine wkA ?_;intros)
    obtain⟨n,hn⟩:∃n,n=ys0.length:=⟨_,rfl⟩
    obtain⟨m,hm⟩:∃m,xs.length+1=m+n:=⟨xs.length+1-n,by omega⟩
    have em:((xs.length+1:Nat):Int)-(ys0.length:Int)=(m:Int):=by omega
    simp only[em]
    simp only[<-hn]
    refine Zbq (k:= .u32) (B:=4) (m:=m) rfl rfl ⟨by omega,by omega⟩ rfl rfl ?_
    intro bo
    repeat(refine wkA ?_;intros)
    have hki:=Zpa (s:=s) haB (by rw[hn];exact hbl) (by omega) hm hs32
    have hlX:=Z9 (xs.length+1) (a*2 ^ s)
    generalize dgs (a*2 ^ s) (xs.length+1)=Xs at*
    rw[<-hn] at hYB
    have hvY:vd (dgs (b*2 ^ s) n)=b*2 ^ s:=by rw[ZbO,Nat.mod_eq_of_lt hYB]
    have hlY:=Z9 n (b*2 ^ s)
    have hDY:=Zar n (b*2 ^ s)
    generalize dgs (b*2 ^ s) n=ys at*
    simp only[hm]
    have hYlow:4294967296 ^ (n-1)<=b*2 ^ s:=by
     have h1:b*1<=b*2 ^ s:=Nat.mul_le_mul_left _ hp1
     rw[hn]
     omega
    generalize hY:b*2 ^ s=Y at*
    have hm40:m+n<=1099511627776:=by omega
    clear hvb hDb hva hDa ht hth htl
    refine Zq (S:=Nat×List Nat×List Nat) (fun t=>KI (a*2 ^ s) Y n m t.1 t.2.1 t.2.2)
     (fun t=>[(9, .slice (some ⟨b2,0,none⟩) n (n+1)),(12, .int .i64 s),(13, .slice (some ⟨bx,0,none⟩) (m+n) (m+n)),(14, .int .i64 n),(15, .slice (some ⟨bo,0,none⟩) m m),(16, .int .i64 ((t.1:Int)-1))])
     (fun t=>[⟨bo,dig .u32 t.2.2,230⟩,⟨b2,dig .u32 (ys++[0]),230⟩,⟨bx,dig .u32 t.2.1,230⟩]) (fun t=>t.1) (m,Xs,List.replicate m 0) hki
     (by repeat(first|exact Zz|refine Zu rfl ?_)) (by repeat(first|exact Wj _|exact Wk _|refine List.Sublist.cons_cons _ ?_|refine List.Sublist.cons _ ?_)) (fun t ht=>?_)
    obtain⟨k,zs,os⟩:=t
    simp only at ht⊢
    repeat(refine wkA ?_;intros)
    refine Zk rfl (fun h=>?_) (fun h=>?_)
    ·have hpos:0<k:=by have:=Wa h;omega
     obtain⟨j,rfl⟩:∃j,k=j+1:=⟨k-1,by omega⟩
     obtain⟨kk,klz,kdz,klo,kdo,kz0,keq,klt⟩:=ht
     have hjn:j+n<zs.length:=by omega
     have hj1:j+n-1<zs.length:=by omega
     have hj2:j+n-2<zs.length:=by omega
     have hy1:n-1<ys.length:=by omega
     have hy2:n-2<ys.length:=by omega
     obtain⟨p0,p1,p2,p3,p4,p5,p6⟩:=ZmQ kdz hDY (by omega) hlY hvY hjn klt
     have hz0:=ZZ kdz hjn
     have hz1:=ZZ kdz hj1
     have hz2:=ZZ kdz hj2
     have hv1:=ZZ hDY hy1
     have hv2:=ZZ hDY hy2
     have g1:zs[j+n]? =some zs[j+n]:=List.getElem?_eq_getElem hjn
     have g2:zs[j+n-1]? =some zs[j+n-1]:=List.getElem?_eq_getElem hj1
     have g3:zs[j+n-2]? =some zs[j+n-2]:=List.getElem?_eq_getElem hj2
     have g4:(ys++[0])[n-1]? =some ys[n-1]:=by rw[List.getElem?_append_left hy1];exact List.getElem?_eq_getElem hy1
     have g5:(ys++[0])[n-2]? =some ys[n-2]:=by rw[List.getElem?_append_left hy2];exact List.getElem?_eq_getElem hy2
     generalize hz0':zs[j+n]=z0 at*
     generalize zs[j+n-1]=z1 at*
     generalize zs[j+n-2]=z2 at*
     generalize ys[n-1]=v1 at*
     generalize ys[n-2]=v2 at*
     have hv10:0<v1:=Zro (by omega) hYlow p4 hv2
     have ej:((j+1:Nat):Int)-1=(j:Int):=by omega
     simp only[ej]
     repeat(refine wkA ?_;intros)
     refine jD 18 18 (h:=?_)
     (repeat(refine wkH ?_))
     refine hq (ZM rfl (show zs[0+((j:Int)+(n:Int)).toNat*1]? =some z0 by rw[show 0+((j:Int)+(n:Int)).toNat*1=j+n by omega];exact g1)) rfl rfl ?_
     (repeat(refine wkH ?_))
     refine hq (Zco rfl rfl (by decide)) rfl rfl ?_
     (repeat(refine wkH ?_))
     refine hq (ZM rfl (show zs[0+((j:Int)+(n:Int)-1).toNat*1]? =some z1 by rw[show 0+((j:Int)+(n:Int)-1).toNat*1=j+n-1 by omega];exact g2)) rfl rfl ?_
     (repeat(refine wkH ?_))
     refine hq (ZdN rfl rfl) rfl rfl ?_
     rw[Zez _ _ hz0 hz1]
     (repeat(refine wkH ?_))
     refine Zo (Zs ?_)
     obtain⟨high,hhigh⟩:∃high,high=z0*4294967296+z1:=⟨_,rfl⟩
     simp only[<-hhigh] at p1 p2⊢
     have hqd:((high:Nat):Int) / (v1:Int)=((high / v1:Nat):Int):=rfl
     have hrd:((high:Nat):Int) % (v1:Int)=((high % v1:Nat):Int):=rfl
     repeat(refine wkA ?_;intros)
     (refine Zaq [0,1,2,3,4,5,6,7,8,9,10,11,12,13,14,15] [16,17] (_) (h:=?_);refine wkI ?_)
     (repeat(refine wkH ?_))
     refine hq (ZM rfl (show(ys++[0])[0+((n:Int)-1).toNat*1]? =some v1 by rw[show 0+((n:Int)-1).toNat*1=n-1 by omega];exact g4)) rfl rfl ?_
     (repeat(refine wkH ?_))
     refine hq (ZfY rfl rfl ?_) rfl rfl ?_
     ·omega
     rw[hqd]
     (repeat(refine wkH ?_))
     refine hq (ZM rfl (show(ys++[0])[0+((n:Int)-1).toNat*1]? =some v1 by rw[show 0+((n:Int)-1).toNat*1=n-1 by omega];exact g4)) rfl rfl ?_
     (repeat(refine wkH ?_))
     refine hq (Zeg rfl rfl ?_) rfl rfl ?_
     ·omega
     rw[hrd]
     (repeat(refine wkH ?_))
     refine Zo ?_
     refine Zax rfl rfl rfl (Wj _) (Zax rfl rfl rfl (Wj _) (Za0 ?_))
     have hst:=Ziy hv10 hz2 p2 p3
     have hdm:=Nat.div_add_mod high v1
     have hml:=Nat.mod_lt high hv10
     have hgh:high / v1<=high:=Nat.div_le_self _ _
     generalize high / v1=g0 at*
     generalize high % v1=r0 at*
     generalize hU:vd (zs.drop j)=U at*
     refine Zux (Zi9 ?_)
     refine Zfi (S:=Nat) (fun g=>g<4294967296/\U<(g+1)*Y/\g*Y<=U+Y)
      (fun g=>[(9, .slice (some ⟨b2,0,none⟩) n (n+1)),(12, .int .i64 s),(13, .slice (some ⟨bx,0,none⟩) (m+n) (m+n)),(14, .int .i64 n),(15, .slice (some ⟨bo,0,none⟩) m m),(16, .int .i64 j),(18, .int .u64 g)])
      (fun _=>[⟨bo,dig .u32 os,230⟩,⟨b2,dig .u32 (ys++[0]),230⟩,⟨bx,dig .u32 zs,230⟩]) ?_ (fun g hg=>?_)
     ·repeat(refine wkA ?_;intros)
      refine Zq (S:=Nat×Nat) (fun t=>t.1*v1+t.2=high/\t.1<=high/\t.2<4294967296/\U<(t.1+1)*Y)
       (fun t=>[(9, .slice (some ⟨b2,0,none⟩) n (n+1)),(12, .int .i64 s),(13, .slice (some ⟨bx,0,none⟩) (m+n) (m+n)),(14, .int .i64 n),(15, .slice (some ⟨bo,0,none⟩) m m),(16, .int .i64 j),(18, .int .u64 t.1),(19, .int .u64 t.2)])
       (fun _=>[⟨bo,dig .u32 os,230⟩,⟨b2,dig .u32 (ys++[0]),230⟩,⟨bx,dig .u32 zs,230⟩]) (fun t=>t.1) (g0,r0) ⟨by rw[Nat.mul_comm];exact hdm,hgh,by simp only;omega,hst⟩
       (by repeat(first|exact Zz|refine Zu rfl ?_)) (Wj _) (fun t ht=>?_)
      obtain⟨g,r⟩:=t
      obtain⟨q1,q2,q3,q4⟩:=ht
      simp only at q1 q2 q3 q4⊢
      refine Zfi (S:=Unit) (fun _=>U<g*Y)
       (fun _=>[(9, .slice (some ⟨b2,0,none⟩) n (n+1)),(12, .int .i64 s),(13, .slice (some ⟨bx,0,none⟩) (m+n) (m+n)),(14, .int .i64 n),(15, .slice (some ⟨bo,0,none⟩) m m),(16, .int .i64 j),(18, .int .u64 g),(19, .int .u64 r)])
       (fun _=>[⟨bo,dig .u32 os,230⟩,⟨b2,dig .u32 (ys++[0]),230⟩,⟨bx,dig .u32 zs,230⟩]) ?_ (fun _ hgr=>?_)
      ·refine Zc2 ?_
       rcases Nat.lt_or_ge g 4294967296 with hB|hB
       ·have hdec:decide ((4294967296:Int)<=(g:Int))=false:=We (by omega)
        obtain⟨hw1,hw2⟩:=Ze2 (c:=0) (o:=0) (by omega) (by omega) hB hv2
        refine jD 24 24 (h:=?_)
        (repeat(refine wkH ?_))
        simp only[hdec]
        (repeat(refine wkH ?_))
        refine hq (ZM rfl (show(ys++[0])[0+((n:Int)-2).toNat*1]? =some v2 by rw[show 0+((n:Int)-2).toNat*1=n-2 by omega];exact g5)) rfl rfl ?_
        refine hq (ZfI rfl ?_) rfl rfl ?_
        ·omega
        refine hq (Zgg rfl rfl ?_) rfl rfl ?_
        ·rw[<-Int.natCast_mul];omega
        rw[<-Int.natCast_mul]
        (repeat(refine wkH ?_))
        refine hq (Zco rfl rfl (by decide)) rfl rfl ?_
        (repeat(refine wkH ?_))
        refine hq (ZM rfl (show zs[0+((j:Int)+(n:Int)-2).toNat*1]? =some z2 by rw[show 0+((j:Int)+(n:Int)-2).toNat*1=j+n-2 by omega];exact g3)) rfl rfl ?_
        (repeat(refine wkH ?_))
        refine hq (ZdN rfl rfl) rfl rfl ?_
        rw[Zez _ _ q3 hz2]
        (repeat(refine wkH ?_))
        refine Zo (Zs ?_)
        repeat(refine wkA ?_;intros)
        refine Zk rfl (fun h=>?_) (fun h=>?_)
        ·have hlt:r*4294967296+z2<g*v2:=by have:=Wa h;omega
         repeat(refine wkA ?_;intros)
         exact Zj () (Zll q1 hlt p2 p3) (by repeat(first|exact Zz|refine Zu rfl ?_)) (Wj _)
        ·have hle:g*v2<=r*4294967296+z2:=by have:=Wb h;omega
         repeat(refine wkA ?_;intros)
         exact Zj g ⟨hB,q4,Zgi hv10 q1 hle hB p1 (Nat.le_of_lt p4) p3⟩ (by repeat(first|exact Zz|refine Zu rfl ?_)) (Wj _)
       ·have hdec:decide ((4294967296:Int)<=(g:Int))=true:=Wc (by omega)
        refine jD 24 24 (h:=?_)
        (repeat(refine wkH ?_))
        simp only[hdec]
        (repeat(refine wkH ?_))
        refine Zo (Zs ?_)
        repeat(refine wkA ?_;intros)
        exact Zj () (Nat.lt_of_lt_of_le p6 (Nat.mul_le_mul_right _ hB)) (by repeat(first|exact Zz|refine Zu rfl ?_)) (Wj _)
      ·have hg1:1<=g:=by
        rcases Nat.eq_zero_or_pos g with h0|h0
        ·subst h0;omega
        ·exact h0
       obtain⟨g',rfl⟩:∃g',g=g'+1:=⟨g-1,by omega⟩
       have hwr:IntKind.u64.wrap (((g'+1:Nat):Int)-1)=(g':Int):=by rw[IntWalk.u64_in _ (by omega)];omega
       rw[Nat.add_mul,Nat.one_mul] at q1
       have q1':g'*v1+(r+v1)=high:=by omega
       repeat(refine wkA ?_;intros)
       simp only[hwr]
       refine jq (ZM rfl (show(ys++[0])[0+((n:Int)-1).toNat*1]? =some v1 by rw[show 0+((n:Int)-1).toNat*1=n-1 by omega];exact g4)) rfl rfl ?_
       repeat(refine wkA ?_;intros)
       refine Zk rfl (fun h=>?_) (fun h=>?_)
       ·have hbig:4294967296<=r+v1:=by have:=Wa h;omega
        have hB:g'<4294967296:=by
         rcases Nat.lt_or_ge g' 4294967296 with h1|h1
         ·exact h1
         ·have:=ZlP (q1'.trans hhigh) p5 hz1 h1
          omega
        have hle:g'*v2<=(r+v1)*4294967296+z2:=by
         have h1:g'*v2<=4294967296*4294967296:=Nat.mul_le_mul (by omega) (by omega)
         omega
        repeat(refine wkA ?_;intros)
        exact Zj g' ⟨hB,hgr,Zgi hv10 q1' hle hB p1 (Nat.le_of_lt p4) p3⟩ (by repeat(first|exact Zz|refine Zu rfl ?_)) (Wj _)
       ·have hsm:r+v1<4294967296:=by have:=Wb h;omega
        repeat(refine wkA ?_;intros)
        exact Zg (g',r+v1) ⟨q1',by simp only;omega,hsm,hgr⟩ (by repeat(first|exact Zz|refine Zu rfl ?_)) (Wj _) (by simp only;omega)
     ·obtain⟨hgB,hgU,hgY⟩:=hg
      repeat(refine wkA ?_;intros)
      refine Zq (S:=Nat×List Nat×Nat×Nat) (fun t=>t.1<=n/\Same zs t.2.1 j n/\t.2.1[j+n]? =some z0/\t.2.2.1<4294967296/\t.2.2.2<=1/\vd t.2.1+g*vd (ys.take t.1)*4294967296 ^ j=vd zs+(t.2.2.1+t.2.2.2)*4294967296 ^ (t.1+j))
       (fun t=>[(9, .slice (some ⟨b2,0,none⟩) n (n+1)),(12, .int .i64 s),(13, .slice (some ⟨bx,0,none⟩) (m+n) (m+n)),(14, .int .i64 n),(15, .slice (some ⟨bo,0,none⟩) m m),(16, .int .i64 j),(18, .int .u64 g),(20, .int .i64 t.2.2.2),(21, .int .u64 t.2.2.1),(167, .int .i64 n),(168, .int .i64 t.1)])
       (fun t=>[⟨bo,dig .u32 os,230⟩,⟨b2,dig .u32 (ys++[0]),230⟩,⟨bx,dig .u32 t.2.1,230⟩]) (fun t=>n-t.1) (0,zs,0,0) ⟨Wm _,ZmS kdz,g1,by simp,by simp,by simp[vd]⟩
       (by repeat(first|exact Zz|refine Zu rfl ?_)) (Wj _) (fun t ht=>?_)
      obtain⟨i,zq,c,bw⟩:=t
      obtain⟨hi,hsm,hzt,hc,hbw,hinv⟩:=ht
      simp only at hi hsm hzt hc hbw hinv⊢
      repeat(refine wkA ?_;intros)
      refine Zk rfl (fun h=>?_) (fun h=>?_)
      ·have hin:i<n:=by have:=Wa h;omega
       have hiy:i<ys.length:=by omega
       have hiz:i+j<zq.length:=by rw[hsm.len];omega
       have hdy:=ZZ hDY hiy
       have hdz:=ZZ hsm.dg hiz
       obtain⟨hw1,hw2⟩:=Ze2 (o:=0) hc (by omega) hgB hdy
       obtain⟨T,hT⟩:∃T,T=c+g*ys[i]:=⟨_,rfl⟩
       repeat(refine wkA ?_;intros)
       refine jq (ZM rfl (show(ys++[0])[0+(i:Int).toNat*1]? =some ys[i] by rw[show 0+(i:Int).toNat*1=i by omega,List.getElem?_append_left hiy];exact List.getElem?_eq_getElem hiy)) rfl rfl ?_
       refine jq (ZfI rfl ?_) rfl rfl ?_
       ·omega
       refine jq (Zgg rfl rfl ?_) rfl rfl ?_
       ·rw[<-Int.natCast_mul];omega
       rw[<-Int.natCast_mul]
       repeat(refine wkA ?_;intros)
       rw[show(c:Int)+((g*ys[i]:Nat):Int)=(T:Int) by omega]
       refine jq (ZM rfl (show zq[0+((i:Int)+(j:Int)).toNat*1]? =some zq[i+j] by rw[show 0+((i:Int)+(j:Int)).toNat*1=i+j by omega];exact List.getElem?_eq_getElem hiz)) rfl rfl ?_
       refine jq (Zj6 rfl ?_) rfl rfl ?_
       ·omega
       refine jq (Zek rfl) rfl rfl ?_
       refine jq (Zg6 rfl rfl ?_) rfl rfl ?_
       ·omega
       refine jq (Zek rfl) rfl rfl ?_
       refine jq (ZgQ rfl) rfl rfl ?_
       rw[IntKind.wrap_u32,show(T:Int) % 4294967296=((T % 4294967296:Nat):Int) by omega]
       repeat(refine wkA ?_;intros)
       refine jq (ZaI rfl rfl (by decide)) rfl rfl ?_
       rw[p32,show(T:Int) / 4294967296=((T / 4294967296:Nat):Int) by omega]
       repeat(refine wkA ?_;intros)
       refine Zk rfl (fun h=>?_) (fun h=>?_)
       ·have hneg:(zq[i+j]:Int)-bw-((T % 4294967296:Nat):Int)<0:=Wa h
        obtain⟨r,hr⟩:∃r:Nat,(r:Int)=(zq[i+j]:Int)-bw-((T % 4294967296:Nat):Int)+4294967296:=⟨((zq[i+j]:Int)-bw-((T % 4294967296:Nat):Int)+4294967296).toNat,by omega⟩
        have gs:=ZgH (b':=1) hiy hiz hT (by omega:r+bw+T % 4294967296=zq[i+j]+1*4294967296) hinv
        repeat(refine wkA ?_;intros)
        simp only[<-hr]
        refine Z1 rfl rfl (by omega) rfl ?_
        rw[show 0+((i:Int)+(j:Int)).toNat*1=i+j by omega]
        repeat(refine wkA ?_;intros)
        exact Zg (i+1,_,T / 4294967296,1) ⟨hin,hsm.set _ _ (by omega) (by omega) (by omega),by simp only;rw[List.getElem?_set_ne (by omega)];exact hzt,by simp only;omega,by simp,gs⟩ (by repeat(first|exact Zz|refine Zu rfl ?_)) (Wj _) (by simp only;omega)
       ·have hneg:¬(zq[i+j]:Int)-bw-((T % 4294967296:Nat):Int)<0:=Wb h
        obtain⟨r,hr⟩:∃r:Nat,(r:Int)=(zq[i+j]:Int)-bw-((T % 4294967296:Nat):Int):=⟨((zq[i+j]:Int)-bw-((T % 4294967296:Nat):Int)).toNat,by omega⟩
        have gs:=ZgH (b':=0) hiy hiz hT (by omega:r+bw+T % 4294967296=zq[i+j]+0*4294967296) hinv
        simp only[<-hr]
        repeat(refine wkA ?_;intros)
        refine Z1 rfl rfl (by omega) rfl ?_
        rw[show 0+((i:Int)+(j:Int)).toNat*1=i+j by omega]
        repeat(refine wkA ?_;intros)
        exact Zg (i+1,_,T / 4294967296,0) ⟨hin,hsm.set _ _ (by omega) (by omega) (by omega),by simp only;rw[List.getElem?_set_ne (by omega)];exact hzt,by simp only;omega,by simp,gs⟩ (by repeat(first|exact Zz|refine Zu rfl ?_)) (Wj _) (by simp only;omega)
      ·have hgei:i=n:=by have:=Wb h;omega
       subst hgei
       have hjz:j+i<zq.length:=by rw[hsm.len];exact hjn
       obtain⟨e,β,hβ,heB,hee⟩:∃e β:Nat,β<=1/\e<4294967296/\e+bw+c=z0+β*4294967296:=by
        by_cases hlt:z0<bw+c
        ·exact⟨z0+4294967296-bw-c,1,by omega,by omega,by omega⟩
        ·exact⟨z0-bw-c,0,by omega,by omega,by omega⟩
       have hwe:IntKind.u32.wrap ((z0:Int)-bw-c)=(e:Int):=by rw[IntKind.wrap_u32];omega
       have hzv:zq[j+i]=z0:=by rw[List.getElem?_eq_getElem hjz] at hzt;exact Option.some.inj hzt
       repeat(refine wkA ?_;intros)
       refine jq (ZM rfl (show zq[0+((j:Int)+(i:Int)).toNat*1]? =some z0 by rw[show 0+((j:Int)+(i:Int)).toNat*1=j+i by omega];exact hzt)) rfl rfl ?_
       repeat(refine wkA ?_;intros)
       rw[hwe]
       refine Z1 rfl rfl (by omega) rfl ?_
       rw[show 0+((j:Int)+(i:Int)).toNat*1=j+i by omega]
       have hs2:=hsm.set (j+i) e (by omega) (by omega) heB
       have hsub:=Zna hsm hjn hlY hvY hinv hzv hee rfl hs2
       have h2s:=hs2.small hjn p0
       have hge:(zq.set (j+i) e)[j+i]? =some e:=by rw[List.getElem?_set_self hjz]
       generalize zq.set (j+i) e=zw at*
       rw[hU] at hsub
       repeat(refine wkA ?_;intros)
       refine ZY (S:=Nat×List Nat) (fun t=>Same zs t.2 j i/\U=vd (t.2.drop j)+t.1*Y/\vd (t.2.drop j)<Y/\t.1<4294967296)
        (fun t=>[(9, .slice (some ⟨b2,0,none⟩) i (i+1)),(12, .int .i64 s),(13, .slice (some ⟨bx,0,none⟩) (m+i) (m+i)),(14, .int .i64 i),(15, .slice (some ⟨bo,0,none⟩) m m),(16, .int .i64 j),(18, .int .u64 t.1)])
        (fun t=>[⟨bo,dig .u32 os,230⟩,⟨b2,dig .u32 (ys++[0]),230⟩,⟨bx,dig .u32 t.2,230⟩]) ?_ (fun t ht=>?_)
       ·refine Zk rfl (fun h=>?_) (fun h=>?_)
        ·have hneg:(z0:Int)-bw-c<0:=Wa h
         have hβ1:β=1:=by omega
         subst hβ1
         have hg1:0<g:=by
          rcases Nat.eq_zero_or_pos g with h0|h0
          ·subst h0;omega
          ·exact h0
         have hwr:IntKind.u64.wrap ((g:Int)-1)=((g-1:Nat):Int):=by rw[IntWalk.u64_in _ (by omega)];omega
         repeat(refine wkA ?_;intros)
         simp only[hwr]
         refine Zq (S:=Nat×List Nat×Nat) (fun t=>t.1<=i/\Same zs t.2.1 j i/\t.2.1[j+i]? =some e/\t.2.2<=1/\vd t.2.1+t.2.2*4294967296 ^ (t.1+j)=vd zw+vd (ys.take t.1)*4294967296 ^ j)
          (fun t=>[(9, .slice (some ⟨b2,0,none⟩) i (i+1)),(12, .int .i64 s),(13, .slice (some ⟨bx,0,none⟩) (m+i) (m+i)),(14, .int .i64 i),(15, .slice (some ⟨bo,0,none⟩) m m),(16, .int .i64 j),(18, .int .u64 ((g-1:Nat):Int)),(25, .int .u64 t.2.2),(230, .int .i64 i),(231, .int .i64 t.1)])
          (fun t=>[⟨bo,dig .u32 os,230⟩,⟨b2,dig .u32 (ys++[0]),230⟩,⟨bx,dig .u32 t.2.1,230⟩]) (fun t=>i-t.1) (0,zw,0) ⟨Wm _,hs2,hge,by simp,by simp[vd]⟩
          (by repeat(first|exact Zz|refine Zu rfl ?_)) (Wj _) (fun t ht=>?_)
         obtain⟨k,z3,c3⟩:=t
         obtain⟨hk,hs3,he3,hc3,hin3⟩:=ht
         simp only at hk hs3 he3 hc3 hin3⊢
         repeat(refine wkA ?_;intros)
         refine Zk rfl (fun h=>?_) (fun h=>?_)
         ·have hkn:k<i:=by have:=Wa h;omega
          have hky:k<ys.length:=by omega
          have hkz:k+j<z3.length:=by rw[hs3.len];omega
          have hdy:=ZZ hDY hky
          have hdz:=ZZ hs3.dg hkz
          obtain⟨T,hT⟩:∃T,T=c3+(z3[k+j]+ys[k]):=⟨_,rfl⟩
          repeat(refine wkA ?_;intros)
          refine jD 16 16 (h:=?_)
          (repeat(refine wkH ?_))
          refine hq (ZM rfl (show z3[0+((k:Int)+(j:Int)).toNat*1]? =some z3[k+j] by rw[show 0+((k:Int)+(j:Int)).toNat*1=k+j by omega];exact List.getElem?_eq_getElem hkz)) rfl rfl ?_
          (repeat(refine wkH ?_))
          refine hq (ZM rfl (show(ys++[0])[0+(k:Int).toNat*1]? =some ys[k] by rw[show 0+(k:Int).toNat*1=k by omega,List.getElem?_append_left hky];exact List.getElem?_eq_getElem hky)) rfl rfl ?_
          (repeat(refine wkH ?_))
          refine Zo (Zs ?_)
          rw[show(c3:Int)+((z3[k+j]:Nat)+(ys[k]:Nat))=(T:Int) by omega]
          repeat(refine wkA ?_;intros)
          refine jq (ZaI rfl rfl (by decide)) rfl rfl ?_
          repeat(refine wkA ?_;intros)
          rw[p32,IntKind.wrap_u32,show(T:Int) % 4294967296=((T % 4294967296:Nat):Int) by omega,show(T:Int) / 4294967296=((T / 4294967296:Nat):Int) by omega]
          refine Z1 rfl rfl (by omega) rfl ?_
          rw[show 0+((k:Int)+(j:Int)).toNat*1=k+j by omega]
          have gs:=ZmL hky hkz hT hin3
          repeat(refine wkA ?_;intros)
          exact Zg (k+1,_,T / 4294967296) ⟨hkn,hs3.set _ _ (by omega) (by omega) (Nat.mod_lt _ (by omega)),by simp only;rw[List.getElem?_set_ne (by omega)];exact he3,by simp only;omega,gs⟩ (by repeat(first|exact Zz|refine Zu rfl ?_)) (Wj _) (by simp only;omega)
         ·have hki:k=i:=by have:=Wb h;omega
          subst hki
          have hjz3:j+k<z3.length:=by rw[hs3.len];exact hjn
          have hzv3:z3[j+k]=e:=by rw[List.getElem?_eq_getElem hjz3] at he3;exact Option.some.inj he3
          repeat(refine wkA ?_;intros)
          refine jq (ZM rfl (show z3[0+((j:Int)+(k:Int)).toNat*1]? =some e by rw[show 0+((j:Int)+(k:Int)).toNat*1=j+k by omega];exact he3)) rfl rfl ?_
          repeat(refine wkA ?_;intros)
          rw[IntKind.wrap_u32,show((e:Int)+c3) % 4294967296=(((e+c3) % 4294967296:Nat):Int) by omega]
          refine Z1 rfl rfl (by omega) rfl ?_
          rw[show 0+((j:Int)+(k:Int)).toNat*1=j+k by omega]
          have hs4:=hs3.set (j+k) ((e+c3) % 4294967296) (by omega) (by omega) (Nat.mod_lt _ (by omega))
          have hadd:=Zma (o:=(e+c3) / 4294967296) hs2 hs3 hjn hlY hvY hin3 hzv3 (by omega) rfl hs4
          have hback:=Zkw hsub hgY h2s (hs4.small hjn p0) (by omega) hadd hg1
          repeat(refine wkA ?_;intros)
          exact Zj (g-1,_) ⟨hs4,hback.1,hback.2,by simp only;omega⟩ (by repeat(first|exact Zz|refine Zu rfl ?_)) (Wj _)
        ·have hneg:¬(z0:Int)-bw-c<0:=Wb h
         have hβ0:β=0:=by omega
         subst hβ0
         have hri:=ZiF hsub hgU
         repeat(refine wkA ?_;intros)
         exact Zj (g,zw) ⟨hs2,hri.1,hri.2,hgB⟩ (by repeat(first|exact Zz|refine Zu rfl ?_)) (Wj _)
       ·obtain⟨q,z'⟩:=t
        obtain⟨hs',hUq,hlt',hqB⟩:=ht
        simp only at hs' hUq hlt' hqB⊢
        repeat(refine wkA ?_;intros)
        refine Z1 rfl rfl (by omega) rfl ?_
        rw[show 0+(j:Int).toNat*1=j by omega]
        repeat(refine wkA ?_;intros)
        have hjo:j<os.length:=by omega
        have hoj:os[j]=0:=by
         have:=kz0 j (by omega)
         rw[List.getElem?_eq_getElem hjo] at this
         exact Option.some.inj this
        exact Zg (j,z',os.set j q) ⟨by simp only;omega,by simp only;rw[hs'.len];exact klz,hs'.dg,by simp only[List.length_set];exact klo,Zbu kdo _ _ hqB,fun i' hi'=>by
         simp only at hi'⊢
         rw[List.getElem?_set_ne (by omega)]
         exact kz0 i' (by omega),ZkM hs' (by omega) hjo hoj keq (by rw[hU];exact hUq),hlt'⟩ (by repeat(first|exact Zz|refine Zu rfl ?_)) (Wj _) (by simp only;omega)
    ·have hk0:k=0:=by have:=Wb h;omega
     subst hk0
     obtain⟨kk,klz,kdz,klo,kdo,kz0,keq,klt⟩:=ht
     rw[List.drop_zero,<-hY] at klt
     rw[<-hY] at keq
     obtain⟨hquo,hrem⟩:=ZpU keq klt
     obtain⟨W,hW⟩:∃W,W=a % b:=⟨_,rfl⟩
     rw[<-hW] at hrem
     have hWB:W<4294967296 ^ n:=by
      have h1:=Nat.mod_lt a (Nat.pos_of_ne_zero hb0)
      rw[hn]
      omega
     have hvW:vd (dgs W n)=W:=by rw[ZbO,Nat.mod_eq_of_lt hWB]
     have hlW:=Z9 n W
     have hDW:=Zar n W
     generalize dgs W n=ws at*
     repeat(refine wkA ?_;intros)
     refine Zbq (k:= .u32) (B:=4) (m:=n) rfl rfl ⟨by omega,by omega⟩ rfl rfl ?_
     intro br
     repeat(refine wkA ?_;intros)
     refine Zq (S:=Nat) (fun i=>i<=n)
      (fun i=>[(12, .int .i64 s),(13, .slice (some ⟨bx,0,none⟩) (m+n) (m+n)),(15, .slice (some ⟨bo,0,none⟩) m m),(27, .slice (some ⟨br,0,none⟩) n n),(276, .int .i64 n),(277, .int .i64 i)])
      (fun i=>[⟨br,dig .u32 (ws.take i++List.replicate (n-i) 0),230⟩,⟨bo,dig .u32 os,230⟩,⟨bx,dig .u32 zs,230⟩]) (fun i=>n-i) 0 (Wm _)
      (by repeat(first|exact Zz|refine Zu rfl ?_)) (by repeat(first|exact Wj _|exact Wk _|refine List.Sublist.cons_cons _ ?_|refine List.Sublist.cons _ ?_)) (fun i hi=>?_)
     repeat(refine wkA ?_;intros)
     refine Zk rfl (fun h=>?_) (fun h=>?_)
     ·have hin:i<n:=by have:=Wa h;omega
      have h1z:i+1<zs.length:=by omega
      have h0z:i<zs.length:=by omega
      have hd1:=ZZ kdz h1z
      have hd0:=ZZ kdz h0z
      have hdig:=Zk8 kdz hrem h1z hs32
      have hwi:=ZdD ws hDW i (by omega)
      rw[hvW] at hwi
      rw[hwi] at hdig
      have hrow:=Zog hlW hin
      obtain⟨N,hN⟩:∃N,N=(zs[i+1]*4294967296+zs[i]) / 2 ^ s:=⟨_,rfl⟩
      have hNi:((zs[i+1]*4294967296+zs[i]:Nat):Int) / ((2 ^ s:Nat):Int)=(N:Int):=by rw[hN];rfl
      rw[<-hN] at hdig
      have hlen:(ws.take i++List.replicate (n-i) 0).length=n:=by rw[Wp,Wt,List.length_replicate];omega
      repeat(refine wkA ?_;intros)
      refine jD 19 19 (h:=?_)
      (repeat(refine wkH ?_))
      refine hq (ZM rfl (show zs[0+((i:Int)+1).toNat*1]? =some zs[i+1] by rw[show 0+((i:Int)+1).toNat*1=i+1 by omega];exact List.getElem?_eq_getElem h1z)) rfl rfl ?_
      (repeat(refine wkH ?_))
      refine hq (Zco rfl rfl (by decide)) rfl rfl ?_
      (repeat(refine wkH ?_))
      refine hq (ZM rfl (show zs[0+(i:Int).toNat*1]? =some zs[i] by rw[show 0+(i:Int).toNat*1=i by omega];exact List.getElem?_eq_getElem h0z)) rfl rfl ?_
      (repeat(refine wkH ?_))
      refine hq (ZdN rfl rfl) rfl rfl ?_
      rw[Zez _ _ hd1 hd0]
      (repeat(refine wkH ?_))
      refine hq (ZaI rfl rfl (by simp only[IntKind.bits];omega)) rfl rfl ?_
      rw[pow2i,hNi]
      refine hq (ZgQ rfl) rfl rfl ?_
      rw[IntKind.wrap_u32,show(N:Int) % 4294967296=((N % 4294967296:Nat):Int) by omega,hdig]
      (repeat(refine wkH ?_))
      refine Zo (Zs ?_)
      repeat(refine wkA ?_;intros)
      refine Z1 rfl rfl (by omega) rfl ?_
      rw[show 0+(i:Int).toNat*1=i by omega,hrow]
      repeat(refine wkA ?_;intros)
      exact Zg (i+1) hin (by repeat(first|exact Zz|refine Zu rfl ?_)) (Wj _) (by omega)
     ·have hge':i=n:=by have:=Wb h;omega
      subst hge'
      have e1:os.take m=os:=List.take_of_length_le (by omega)
      have e3:ws.take i++List.replicate (i-i) 0=ws:=by
       rw[Nat.sub_self,List.replicate_zero,Wh]
       exact List.take_of_length_le (by omega)
      have e2:(ws.take i++List.replicate (i-i) 0).take i=ws:=by
       rw[e3]
       exact List.take_of_length_le (by omega)
      repeat(refine wkA ?_;intros)
      refine jq (Za8 rfl (fun w' hw'=>Zby bo m m os (0,0) (by omega) (Wl _) (by omega) kdo w' (hw'.mem _ MemC.out).2)) rfl rfl ?_
      rw[e1,hquo]
      repeat(refine wkA ?_;intros)
      refine jq (Za8 rfl (fun w' hw'=>Zby br i i (ws.take i++List.replicate (i-i) 0) (0,0) (by rw[e3];omega) (Wl _) (by omega) (by rw[e3];exact hDW) w' (hw'.mem _ MemC.out).2)) rfl rfl ?_
      rw[e2,hvW,hW]
      repeat(refine wkA ?_;intros)
      exact ZF rfl (Zy rfl) (Zy rfl) (fun w hw=>ZP hw)
end
section
instance ZrH (a b:Nat):SpecC prog 223 [.string (mag a), .string (mag b)] (.tuple #[.string (mag (a / b)), .string (mag (a % b))]) (b≠0/\(mag a).size<=LIM/\(mag b).size<=LIM):=⟨fun h w=>Zoh a b h.1 h.2.1 h.2.2 w⟩
theorem ZlT (a b:Int)(hb:b≠0)(q r:Nat)(hq:q=a.natAbs / b.natAbs)(hr:r=a.natAbs % b.natAbs):
  (a<0/\r≠0->sg (decide (a<0) != decide (b<0)) (q+1)=a / b/\((b.natAbs-r:Nat):Int)=a % b)/\(¬(a<0/\r≠0)->sg (decide (a<0) != decide (b<0)) q=a / b/\(r:Int)=a % b):=by
 have hb':0<b.natAbs:=by omega
 have h1:=Nat.div_add_mod a.natAbs b.natAbs
 have h2:=Nat.mod_lt a.natAbs hb'
 rw[<-hq,<-hr] at h1
 rw[<-hr] at h2
 have key:∀(x:Int)(y:Int),a=b*x+y->0<=y->y<b.natAbs->x=a / b/\y=a % b:=by
  intro x y e h3 h4
  rcases Int.lt_or_le b 0 with h0|h0
  ·have:=(Int.ediv_emod_unique' (a:=a) (b:=b) (r:=y) (q:=x) h0).2 ⟨by omega,h3,by omega⟩
   exact⟨this.1.symm,this.2.symm⟩
  ·have:=(Int.ediv_emod_unique (a:=a) (b:=b) (r:=y) (q:=x) (by omega)).2 ⟨by omega,h3,by omega⟩
   exact⟨this.1.symm,this.2.symm⟩
 have hm:((b.natAbs*q:Nat):Int)=(b.natAbs:Int)*(q:Int):=by simp
 unfold sg
 refine⟨fun⟨ha,hr0⟩=>?_,fun hn=>?_⟩
 ·refine key _ _ ?_ (by omega) (by omega)
  rcases Int.lt_or_le b 0 with hb0|hb0
  ·simp only[ha,hb0,decide_true,bne_self_eq_false,Bool.false_eq_true,if_false]
   have:b= -(b.natAbs:Int):=by omega
   rw[this,Int.natAbs_neg,Int.natAbs_natCast,Int.natCast_add,Int.mul_add,Int.neg_mul,<-hm]
   omega
  ·have hb1:¬b<0:=by omega
   simp only[ha,hb1,decide_true,decide_false,Bool.bne_false,if_true]
   have:b=(b.natAbs:Int):=by omega
   rw[this,Int.natAbs_natCast,Int.natCast_add,Int.mul_neg,Int.mul_add,<-hm]
   omega
 ·refine key _ _ ?_ (by omega) (by omega)
  rcases Int.lt_or_le a 0 with ha|ha
  ·have hr0:r=0:=by
    rcases Nat.eq_zero_or_pos r with h|h
    ·exact h
    ·exact absurd ⟨ha,by omega⟩ hn
   rcases Int.lt_or_le b 0 with hb0|hb0
   ·simp only[ha,hb0,decide_true,bne_self_eq_false,Bool.false_eq_true,if_false]
    have:b= -(b.natAbs:Int):=by omega
    rw[this,Int.neg_mul,<-hm]
    omega
   ·have hb1:¬b<0:=by omega
    simp only[ha,hb1,decide_true,decide_false,Bool.bne_false,if_true]
    have:b=(b.natAbs:Int):=by omega
    rw[this,Int.mul_neg,<-hm]
    omega
  ·have ha1:¬a<0:=by omega
   rcases Int.lt_or_le b 0 with hb0|hb0
   ·simp only[ha1,hb0,decide_true,decide_false,Bool.bne_true,Bool.not_false,if_true]
    have:b= -(b.natAbs:Int):=by omega
    rw[this,Int.neg_mul,Int.mul_neg,Int.neg_neg,<-hm]
    omega
   ·have hb1:¬b<0:=by omega
    simp only[ha1,hb1,decide_false,bne_self_eq_false,Bool.false_eq_true,if_false]
    have:b=(b.natAbs:Int):=by omega
    rw[this,<-hm]
    omega
theorem ZqH :(⟨#[1]⟩:ByteArray)=mag 1:=by decide
instance ZvX (a b:Int):SpecC prog 224 [vI a,vI b] (.tuple #[vI (a / b),vI (a % b), .int .i64 0]) (b≠0/\mg a<=LIM/\mg b<=LIM):=⟨fun hp w=>by
 obtain⟨hb,ha,hbl⟩:=hp
 have hb':b.natAbs≠0:=by omega
 obtain⟨k1,k2⟩:=ZlT a b hb _ _ rfl rfl
 have hsq:(mag (a.natAbs / b.natAbs)).size<=LIM:=Wi (Zbs (Nat.div_le_self _ _)) ha
 have hlt:a.natAbs % b.natAbs<=b.natAbs:=Nat.le_of_lt (Nat.mod_lt _ (by omega))
 refine Zb Tryz.func224 rfl Tryz.ntmps224 rfl ?_
 repeat(refine wkA ?_;intros)
 refine Zk rfl (fun h=>?_) (fun h=>?_)
 ·have:=Z7.1 (Wa h)
  omega
 repeat(first|(refine wkA ?_;intros)|(refine sC rfl rfl ?_ ?_;focus(first|exact trivial|exact⟨hb',ha,hbl⟩)))
 generalize hq:a.natAbs / b.natAbs=q at*
 generalize hr:a.natAbs % b.natAbs=r at*
 by_cases hA:a<0
 ·simp only[Wc hA]
  repeat(refine wkA ?_;intros)
  refine Zk rfl (fun h=>?_) (fun h=>?_)
  ·have hn:¬mag r=⟨#[]⟩:=by simpa using h
   obtain⟨e1,e2⟩:=k1 ⟨hA,fun h0=>hn (Z7.2 h0)⟩
   (refine Zaq [0,1,2,3,4,5] [6,7] (_) (h:=?_);refine wkI ?_)
   rw[ZqH]
   (repeat(first|refine wkH ?_|(refine tC rfl rfl ?_ ?_;focus(first|exact trivial|exact⟨hsq,by decide⟩|exact⟨hbl,hlt⟩))))
   refine Zo ?_
   refine Zax rfl rfl rfl (Wj _) (Zax rfl rfl rfl (Wj _) (Za0 ?_))
   repeat(refine wkA ?_;intros)
   exact Za4 rfl (Z6 rfl) (Z6 rfl) (Zy rfl) (fun w hw=>by rw[e1,show sg false (b.natAbs-r)=a % b from e2];exact ZP hw)
  ·have hn:mag r=⟨#[]⟩:=by simpa using h
   obtain⟨e1,e2⟩:=k2 (fun h=>h.2 (Z7.1 hn))
   repeat(refine wkA ?_;intros)
   exact Za4 rfl (Z6 rfl) (Z6 rfl) (Zy rfl) (fun w hw=>by rw[e1,show sg false r=a % b from e2];exact ZP hw)
 ·simp only[We hA]
  obtain⟨e1,e2⟩:=k2 (fun h=>hA h.1)
  repeat(refine wkA ?_;intros)
  exact Za4 rfl (Z6 rfl) (Z6 rfl) (Zy rfl) (fun w hw=>by rw[e1,show sg false r=a % b from e2];exact ZP hw)⟩
theorem Zov (a b:Int)(ha:mg a<=LIM)(hb:mg b<=LIM)(w:World):Calls prog 204 [vI a,vI b].toArray w (Ret (vI (Int.gcd a b)) w):=by
 refine Zb Tryz.func204 rfl Tryz.ntmps204 rfl ?_
 repeat(refine wkA ?_;intros)
 (refine Zaq [0,1,2,3] [4,5] (_) (h:=?_);refine wkI ?_)
 (repeat(refine wkH ?_))
 refine Zo ?_
 refine Zax rfl rfl rfl (Wj _) (Zax rfl rfl rfl (Wj _) (Za0 ?_))
 repeat(refine wkA ?_;intros)
 rename_i ba bb bc
 refine Zq (S:=Nat×Nat) (fun s=>Nat.gcd s.1 s.2=Int.gcd a b/\(mag s.1).size<=LIM/\(mag s.2).size<=LIM) (fun s=>[(4, .pointer (some ⟨bc,0,none⟩)),(5, .string (mag s.1)),(6, .string (mag s.2))]) (fun _=>[⟨bc,Zt Zak,31⟩]) (fun s=>s.2) (a.natAbs,b.natAbs) ⟨rfl,ha,hb⟩
  sbB sbl (fun s hs=>?_)
 obtain⟨x,y⟩:=s
 obtain⟨hg,hx,hy⟩:=hs
 simp only at hg hx hy⊢
 repeat(refine wkA ?_;intros)
 refine Zk rfl (fun h=>?_) (fun h=>?_)
 ·have hn:¬mag y=⟨#[]⟩:=by simpa using h
  have hy0:y≠0:=fun h0=>hn (Z7.2 h0)
  repeat(refine wkA ?_;intros)
  refine Zk rfl (fun h=>?_) (fun h=>?_)
  ·have hxy:sm x=true/\sm y=true:=by simpa using h
   repeat(refine wkA ?_;intros)
   refine Zq (S:=Nat×Nat) (fun s=>Nat.gcd s.1 s.2=Int.gcd a b/\s.1<18446744073709551616/\s.2<18446744073709551616) (fun s=>[(4, .pointer (some ⟨bc,0,none⟩)),(7, .int .u64 s.1),(8, .int .u64 s.2)]) (fun _=>[⟨bc,Zt Zak,31⟩]) (fun s=>s.2) (lo x,lo y) ⟨by simp only[Zca hxy.1,Zca hxy.2];exact hg,Zcb _,Zcb _⟩
    sbB sbl (fun s hs=>?_)
   obtain⟨u,v⟩:=s
   obtain⟨hg,hu,hv⟩:=hs
   simp only at hg hu hv⊢
   repeat(refine wkA ?_;intros)
   refine Zk rfl (fun h=>?_) (fun h=>?_)
   ·have hv0:v≠0:=fun h0=>by subst h0;simp at h
    have hm:=Nat.mod_lt u (Nat.pos_of_ne_zero hv0)
    have hum:((u:Int) % (v:Int))=((u % v:Nat):Int):=rfl
    repeat(refine wkA ?_;intros)
    (refine Zaq [0,1,2,3] [4,5] ([]) (h:=?_);refine wkI ?_)
    (repeat(refine wkH ?_))
    refine hq (Zeg rfl rfl ?_) rfl rfl ?_
    ·omega
    rw[hum]
    refine Zo ?_
    refine Zax rfl rfl rfl (Wk _) (Zax rfl rfl rfl (Wk _) (Za0 ?_))
    repeat(refine wkA ?_;intros)
    exact Zg (v,u % v) ⟨by simp only;rw[<-hg,Nat.gcd_comm u v,Nat.gcd_comm v,Nat.gcd_rec v u],by omega,by omega⟩ sbB sbl hm
   ·have hv0:v=0:=by
     have:(v:Int)=0:=by simpa using h
     omega
    subst hv0
    rw[Nat.gcd_zero_right] at hg
    subst hg
    repeat(first|(refine wkA ?_;intros)|(refine sC rfl rfl ?_ ?_;focus(first|exact trivial|omega)))
    exact rtC rfl rfl
  ·repeat(first|(refine wkA ?_;intros)|(refine sC rfl rfl ?_ ?_;focus(first|exact trivial|exact⟨hy0,hx,hy⟩)))
   have hm:=Nat.mod_lt x (Nat.pos_of_ne_zero hy0)
   exact Zg (y,x % y) ⟨by simp only;rw[<-hg,Nat.gcd_comm x y,Nat.gcd_comm y,Nat.gcd_rec y x],hy,Wi (Zbs (Nat.mod_le _ _)) hx⟩ sbB sbl hm
 ·have hn:mag y=⟨#[]⟩:=by simpa using h
  have hy0:=Z7.1 hn
  subst hy0
  rw[Nat.gcd_zero_right] at hg
  subst hg
  repeat(refine wkA ?_;intros)
  exact rtC rfl rfl
instance ZB6 (a b:Int):SpecC prog 204 [vI a,vI b] (vI (Int.gcd a b)) (mg a<=LIM/\mg b<=LIM):=⟨fun h w=>Zov a b h.1 h.2 w⟩
end
end Go.Vt
