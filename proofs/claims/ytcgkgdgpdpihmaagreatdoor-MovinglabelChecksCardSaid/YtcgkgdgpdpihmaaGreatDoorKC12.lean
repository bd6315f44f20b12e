/- For any up to 12 units whose ends have up to 20 bytes, and for any decoded moving label (up to 8 stretches), Check returns OK or the first error. Conditions: none. (part 12 of 28.) Conditions: those that each statement names. -/
import Derived.Test.YtcgkgdgpdpihmaaGreatDoorProg
import Derived.Test.YtcgkgdgpdpihmaaGreatDoorKC11
set_option linter.unusedSimpArgs false
set_option linter.unusedVariables false
set_option maxHeartbeats 2000000
set_option maxRecDepth 100000
namespace Go.Vt
open Go.RowKit Go.Proofs
open Go.Proofs.Tryz (prog)
section
theorem Zb3 {xs:List Int}{j:Nat}(h:j<xs.length):vgI (xs.drop j)=gi xs (j:Int)+256*vgI (xs.drop (j+1)):=by
 rw[List.drop_eq_getElem_cons h,vgI,Zw h]
theorem Za7 {xs:List Int}{j:Nat}(h:xs.length<=j):vgI (xs.drop j)=0:=by
 rw[List.drop_of_length_le h]
 rfl
theorem ZgF {a b:Nat}(h:a<=b):(256:Int) ^ a<=256 ^ b:=by
 have:=Nat.pow_le_pow_right (show 0<256 by decide) h
 exact_mod_cast this
set_option maxHeartbeats 4000000 in
theorem Zi1 (v:Value)(n:Nat)(w:World)(hv:ArgS w v (eI .i64) (dI n))(hl:(dI n).length<=1125899906842624):
  Calls prog 200 [v].toArray w (Ret (.tuple #[.int .i64 (if(dI n).length<=7 then n else 0), .bool (decide ((dI n).length<=7))]) w):=by
 have h8:=Zbx n
 have hval:=ZaB n
 obtain⟨p,cp,rfl⟩:=hv.form
 generalize dI n=xs at*
 refine Zb Tryz.func200 rfl Tryz.ntmps200 rfl ?_
 repeat(refine wkB ?_;intros)
 by_cases h7:xs.length<=7
 ·rw[if_pos h7,Wc h7]
  simp only[We (show¬(7:Int)<((xs.length:Nat):Int) by omega)]
  repeat(refine wkB ?_;intros)
  rw[show(xs.length:Int)-1=(xs.length:Int)-1-((0:Nat):Int) by omega]
  refine Zq (S:=Nat) (fun k=>k<=xs.length) (fun k=>[(0, .slice p xs.length cp),(4, .int .i64 (vgI (xs.drop (xs.length-k)))),(5, .int .i64 ((xs.length:Int)-1-(k:Nat)))]) (fun _=>[]) (fun k=>xs.length-k) 0 (Wm _) (by rw[Nat.sub_zero,Za7 (Wl _)];exact sbB) slB (fun k hk=>?_)
  have hlt2:=ZcM (h8.drop (xs.length-k))
  have hnn2:=ZbD (h8.drop (xs.length-k))
  rw[List.length_drop,show xs.length-(xs.length-k)=k by omega] at hlt2
  have hp7:(256:Int) ^ k<=256 ^ 7:=ZgF (by omega)
  have hp7':(256:Int) ^ 7=72057594037927936:=by decide
  repeat(refine wkB ?_;intros)
  refine Zk rfl (fun h=>?_) (fun h=>?_)
  ·have hlt:k<xs.length:=by have:=Wa h;omega
   have hp6:(256:Int) ^ k<=256 ^ 6:=ZgF (by omega)
   have hp6':(256:Int) ^ 6=281474976710656:=by decide
   obtain⟨bw,ow,rfl,hr1⟩:=hv.opn (k:=0) hlt
   have e0:(xs.length:Int)-1-(k:Nat)=((xs.length-(k+1):Nat):Int):=by omega
   have e1:(xs.length:Int)-1-(k:Nat)-1=(xs.length:Int)-1-((k+1:Nat):Int):=by omega
   have hg:=h8.gi (i:=(xs.length:Int)-1-(k:Nat))
   have hst:vgI (xs.drop (xs.length-(k+1)))=vgI (xs.drop (xs.length-k))*256+gi xs ((xs.length:Int)-1-(k:Nat)):=by
    rw[Zb3 (by omega),e0,show xs.length-(k+1)+1=xs.length-k by omega,Int.mul_comm]
    omega
   repeat(first|(refine wkB ?_;intros)|(refine wnM ?_ ?_;(focus(exact⟨by omega,by omega⟩));intros))
   simp only[e1,<-hst]
   exact Zg (k+1) hlt sbB slB (by omega)
  ·obtain rfl:k=xs.length:=by have:=Wb h;omega
   rw[Nat.sub_self,List.drop_zero,hval]
   repeat(refine wkB ?_;intros)
   exact ZF rfl (Zy rfl) (Zy rfl) (fun w hw=>ZP hw)
 ·rw[if_neg h7,We h7]
  simp only[Wc (show(7:Int)<((xs.length:Nat):Int) by omega)]
  repeat(refine wkB ?_;intros)
  exact ZF rfl (Zy rfl) (Zy rfl) (fun w hw=>ZP hw)
instance ZwZ (w0:World)(L:List Blk)(v:Value)(n:Nat)[h:LstC w0 L v Int (eI .i64) (dI n)]:SpecM prog w0 L 200 [v] (.tuple #[.int .i64 (if(dI n).length<=7 then n else 0), .bool (decide ((dI n).length<=7))]) ((dI n).length<=1125899906842624):=⟨fun hl w hw=>Zi1 v n w (h.out w hw) hl⟩
theorem ZqU (n:Nat)(h:n<=9223372036854775807):(dI n).length<=8:=ZT.2 (Nat.lt_of_le_of_lt h (by decide))
set_option maxHeartbeats 4000000 in
theorem ZiA (z:Int)(w:World)(hz:0<=z/\z<=9223372036854775807):
  Calls prog 201 [.int .i64 z].toArray w (RetM (FlS (eI .i64) 1 (dI z.toNat)) (fun s=>vF s) (fun s=>mF 3 s) w):=by
 have h8:=ZqU z.toNat (by omega)
 refine Zb Tryz.func201 rfl Tryz.ntmps201 rfl ?_
 repeat(refine wkB ?_;intros)
 rw[show z=((z.toNat:Nat):Int) by omega]
 refine Zq (S:=(r:Nat)×(xs:List Int)×SlS (eI .i64) 1 xs) (fun q=>q.2.1++dI q.1=dI z.toNat/\q.1<=z.toNat) (fun q=>[(0, .int .i64 (q.1:Nat)),(3,vSl q.2.2)]) (fun q=>mS 3 q.2.2) (fun q=>q.1) ⟨z.toNat,[],SlS.no⟩ ⟨rfl,Wl _⟩ sbB suB (fun q hq=>?_)
 obtain⟨r,xs,o⟩:=q
 obtain⟨hq,hr⟩:=hq
 simp only at hq hr⊢
 have hlen:=congrArg List.length hq
 rw[Wp] at hlen
 repeat(refine wkB ?_;intros)
 refine Zk rfl (fun h=>?_) (fun h=>?_)
 ·have h0:0<r:=by have:=Wa h;omega
  have hst:=Zb8 (n:=r) (by omega)
  have e1:(r:Int) % 256=((r % 256:Nat):Int):=by omega
  have e2:(r:Int) / 256=((r / 256:Nat):Int):=by omega
  have hq':(xs++[((r % 256:Nat):Int)])++dI (r / 256)=dI z.toNat:=by rw[<-hq,hst,List.append_assoc];rfl
  repeat(refine wkB ?_;intros)
  simp only[e1]
  repeat(refine wkB ?_;intros)
  refine sU rfl rfl ?_ ?_ ?_ ?_
  ·rfl
  ·rfl
  ·exact⟨by decide,by omega,by omega⟩
  intro o'
  repeat(refine wkB ?_;intros)
  simp only[e2]
  exact Zg ⟨r / 256,_,o'⟩ ⟨hq',Wi (Nat.div_le_self _ _) hr⟩ sbB suB (by show r / 256<r;omega)
 ·obtain rfl:r=0:=by have:=Wb h;omega
  rw[Zdu,Wh] at hq
  obtain⟨f,g1,g2⟩:=o.fl hq
  repeat(refine wkB ?_;intros)
  exact ZB rfl rfl (fun w hw=>⟨f,by show Ending.returned _=Ending.returned (vF f);rw[g1],by show Own _ (mF _ f) _;rw[g2];exact hw.sub suB⟩)
instance Zwp (w0:World)(L:List Blk)(z:Int):SpecR prog w0 L 201 [.int .i64 z] (FlS (eI .i64) 1 (dI z.toNat)) (fun s=>vF s) (fun s=>mF 3 s) (0<=z/\z<=9223372036854775807):=⟨fun hz w _=>ZiA z w hz⟩
def gD (xs:List Int)(i:Nat):Int:=if i<xs.length then gi xs (i:Int) else 0
theorem ZbB {xs:List Int}(h:D8 xs)(i:Nat):0<=gD xs i/\gD xs i<=255:=by
 unfold gD
 split
 ·have:=h.gi (i:=(i:Int));omega
 ·exact⟨Int.le_refl _,by decide⟩
theorem ZfK (xs:List Int)(i:Nat):vgI (xs.drop i)=gD xs i+256*vgI (xs.drop (i+1)):=by
 unfold gD
 split
 ·rename_i h
  exact Zb3 h
 ·rename_i h
  rw[Za7 (by omega),Za7 (by omega)]
  rfl
structure PlS (a b:List Int)(i:Nat)(c:Int)(xs:List Int):Prop where
 cr:0<=c/\c<=1
 d:D8 xs
 n:xs.length=i
 v:vgI xs+256 ^ i*(c+vgI (a.drop i)+vgI (b.drop i))=vgI a+vgI b
 e:i<=max a.length b.length\/(i=max a.length b.length+1/\c=0)
theorem PlS.start (a b:List Int):PlS a b 0 0 []:=⟨⟨Int.le_refl _,by decide⟩,Zmx,rfl,by simp[vgI], .inl (Wm _)⟩
theorem PlS.step {a b:List Int}{i:Nat}{c:Int}{xs:List Int}(h:PlS a b i c xs)(ha:D8 a)(hb:D8 b)(hc:i<a.length\/i<b.length\/0<c):PlS a b (i+1) ((c+gD a i+gD b i) / 256) (xs++[(c+gD a i+gD b i) % 256]):=by
 have g1:=ZbB ha i
 have g2:=ZbB hb i
 have h1:=h.cr
 have hv:=h.v
 rw[ZfK a i,ZfK b i] at hv
 refine⟨⟨by omega,by omega⟩,h.d.append (ZhH ⟨by omega,by omega⟩),by rw[Wp,h.n];rfl, ?_, ?_⟩
 ·rw[ZhZ,h.n,<-hv,Int.pow_succ]
  generalize vgI (a.drop (i+1))=A at*
  generalize vgI (b.drop (i+1))=B at*
  generalize hs:c+gD a i+gD b i=s at*
  have e:s=s % 256+256*(s / 256):=by omega
  have e2:c+(gD a i+256*A)+(gD b i+256*B)=s % 256+256*(s / 256+A+B):=by omega
  rw[e2,Int.mul_add (256 ^ i) (s % 256),Int.mul_assoc]
  omega
 ·rcases h.e with h2|⟨h2,h3⟩
  ·by_cases h4:i<max a.length b.length
   ·exact .inl h4
   ·refine .inr ⟨by omega, ?_⟩
    have e1:gD a i=0:=by unfold gD;rw[if_neg (by omega)]
    have e2:gD b i=0:=by unfold gD;rw[if_neg (by omega)]
    omega
  ·omega
theorem PlS.fin {a b:List Int}{i:Nat}{c:Int}{xs:List Int}(h:PlS a b i c xs)(hc:¬(i<a.length\/i<b.length\/0<c)):vgI xs=vgI a+vgI b:=by
 have:=h.v
 have h1:=h.cr
 rw[Za7 (by omega),Za7 (by omega),show c=0 by omega] at this
 simpa using this
set_option maxHeartbeats 8000000 in
theorem Zku (v1 v2:Value)(m n:Nat)(w:World)(h1:ArgS w v1 (eI .i64) (dI m))(h2:ArgS w v2 (eI .i64) (dI n))(hl:(dI m).length<=1099511627776/\(dI n).length<=1099511627776):
  Calls prog 124 [v1,v2].toArray w (RetM (FlS (eI .i64) 1 (dI (m+n))) (fun s=>vF s) (fun s=>mF 3 s) w):=by
 have a8:=Zbx m
 have b8:=Zbx n
 have av:=ZaB m
 have bv:=ZaB n
 obtain⟨p,cp,rfl⟩:=h1.form
 obtain⟨q,cq',rfl⟩:=h2.form
 generalize dI m=a at*
 generalize dI n=b at*
 refine Zb Tryz.func124 rfl Tryz.ntmps124 rfl ?_
 repeat(refine wkB ?_;intros)
 refine Zq (S:=(i:Nat)×(c:Int)×(xs:List Int)×SlS (eI .i64) 1 xs) (fun q=>PlS a b q.1 q.2.1 q.2.2.1) (fun s=>[(0, .slice p a.length cp),(1, .slice q b.length cq'),(5,vSl s.2.2.2),(6, .int .i64 s.2.1),(7, .int .i64 (s.1:Nat))]) (fun s=>mS 3 s.2.2.2) (fun s=>max a.length b.length+1-s.1) ⟨0,0,[],SlS.no⟩ (PlS.start a b) sbB suB (fun s hs=>?_)
 obtain⟨i,c,xs,o⟩:=s
 simp only at hs⊢
 have hc:=hs.cr
 have hn:=hs.n
 have he:=hs.e
 repeat(refine wkB ?_;intros)
 refine Zdz (S:={z:Bool // z=true↔(i<a.length\/i<b.length\/0<c)}) (fun _=>True) (fun z=>[(0, .slice p a.length cp),(1, .slice q b.length cq'),(5,vSl o),(6, .int .i64 c),(7, .int .i64 (i:Nat)),(21, .bool z.1)]) (fun _=>mS 3 o) ?_ (fun z _=>?_)
 ·by_cases c1:i<a.length
  ·simp only[Wc (show(i:Int)<(a.length:Nat) by omega)]
   repeat(refine wkB ?_;intros)
   exact Zj ⟨true,by simp[c1]⟩ trivial sbB suB
  ·simp only[We (show¬(i:Int)<(a.length:Nat) by omega)]
   repeat(refine wkB ?_;intros)
   by_cases c2:i<b.length
   ·simp only[Wc (show(i:Int)<(b.length:Nat) by omega)]
    repeat(refine wkB ?_;intros)
    exact Zj ⟨true,by simp[c2]⟩ trivial sbB suB
   ·simp only[We (show¬(i:Int)<(b.length:Nat) by omega)]
    repeat(refine wkB ?_;intros)
    exact Zj ⟨decide (0<c),by simp[c1,c2]⟩ trivial sbB suB
 obtain⟨z,hz⟩:=z
 simp only
 refine Zk rfl (fun h=>?_) (fun h=>?_)
 ·have hor:=hz.1 h
  have hst:=hs.step a8 b8 hor
  have g1:=ZbB a8 i
  have g2:=ZbB b8 i
  repeat(refine wkB ?_;intros)
  refine ZY (S:=Unit) (fun _=>True) (fun _=>[(0, .slice p a.length cp),(1, .slice q b.length cq'),(5,vSl o),(6, .int .i64 (c+gD a i)),(7, .int .i64 (i:Nat))]) (fun _=>mS 3 o) ?_ (fun _ _=>?_)
  ·refine Zk rfl (fun h=>?_) (fun h=>?_)
   ·have hlt:i<a.length:=by have:=Wa h;omega
    have hne:a≠[]:=fun h0=>by rw[h0] at hlt;simp at hlt
    obtain⟨bw,ow,cw,hvw,hcw,hrow⟩:=h1.blk (k:=0) hne []
    injection hvw with x1 x2 x3
    subst x1 x3
    have hr1:∀L,RowC w L bw ow Int (eI .i64) a:=fun L=>⟨fun w' hw'=>hrow.out w' (hw'.sub (Wk _))⟩
    have e:gD a i=gi a (i:Int):=by unfold gD;rw[if_pos hlt]
    rw[e] at g1⊢
    repeat(refine wkB ?_;intros)
    exact Zj () trivial sbB suB
   ·have hlt:¬i<a.length:=by have:=Wb h;omega
    have e:gD a i=0:=by unfold gD;rw[if_neg hlt]
    rw[e,Int.add_zero]
    repeat(refine wkB ?_;intros)
    exact Zj () trivial sbB suB
  repeat(refine wkB ?_;intros)
  refine ZY (S:=Unit) (fun _=>True) (fun _=>[(0, .slice p a.length cp),(1, .slice q b.length cq'),(5,vSl o),(6, .int .i64 (c+gD a i+gD b i)),(7, .int .i64 (i:Nat))]) (fun _=>mS 3 o) ?_ (fun _ _=>?_)
  ·refine Zk rfl (fun h=>?_) (fun h=>?_)
   ·have hlt:i<b.length:=by have:=Wa h;omega
    obtain⟨bw,ow,rfl,hr1⟩:=h2.opn (k:=0) hlt
    have e:gD b i=gi b (i:Int):=by unfold gD;rw[if_pos hlt]
    rw[e] at g2⊢
    repeat(refine wkB ?_;intros)
    exact Zj () trivial sbB suB
   ·have hlt:¬i<b.length:=by have:=Wb h;omega
    have e:gD b i=0:=by unfold gD;rw[if_neg hlt]
    rw[e,Int.add_zero]
    repeat(refine wkB ?_;intros)
    exact Zj () trivial sbB suB
  repeat(refine wkB ?_;intros)
  refine sU rfl rfl ?_ ?_ ?_ ?_
  ·rfl
  ·rfl
  ·exact⟨by decide,by omega,by omega⟩
  intro o'
  repeat(first|(refine wkB ?_;intros)|(refine wnM ?_ ?_;(focus(exact⟨by omega,by omega⟩));intros))
  exact Zg ⟨i+1,_,_,o'⟩ hst sbB suB (by show max a.length b.length+1-(i+1)<max a.length b.length+1-i;omega)
 ·have hor:¬(i<a.length\/i<b.length\/0<c):=fun h0=>by rw[hz.2 h0] at h;cases h
  have hfin:=hs.fin hor
  have hl':xs.length<=1125899906842624:=by omega
  repeat(first|(refine wkB ?_;intros)|(refine wnM ?_ ?_;(focus(exact hl'));intros))
  obtain⟨f,g1,g2⟩:∃f:FlS (eI .i64) 1 (dI (m+n)),vF f=tkV (tzN xs xs.length) (vSl o)/\∀T,mF T f=mS T o:=by
   have e:(vgI xs).toNat=m+n:=by omega
   have:=o.trim hs.d
   rwa [e] at this
  exact ZB rfl rfl (fun w hw=>⟨f,by show Ending.returned _=Ending.returned (vF f);rw[g1],by show Own _ (mF _ f) _;rw[g2];exact hw.sub suB⟩)
instance ZxF (w0:World)(L:List Blk)(v1 v2:Value)(m n:Nat)[h1:LstC w0 L v1 Int (eI .i64) (dI m)][h2:LstC w0 L v2 Int (eI .i64) (dI n)]:SpecR prog w0 L 124 [v1,v2] (FlS (eI .i64) 1 (dI (m+n))) (fun s=>vF s) (fun s=>mF 3 s) ((dI m).length<=1099511627776/\(dI n).length<=1099511627776):=⟨fun hl w hw=>Zku v1 v2 m n w (h1.out w hw) (h2.out w hw) hl⟩
end
section
structure MiS (a b:List Int)(i:Nat)(c:Int)(xs:List Int):Prop where
 cr:0<=c/\c<=1
 d:D8 xs
 n:xs.length=i
 v:vgI xs+256 ^ i*(vgI (a.drop i)-vgI (b.drop i)-c)=vgI a-vgI b
 e:i<=a.length
theorem MiS.start (a b:List Int):MiS a b 0 0 []:=⟨⟨Int.le_refl _,by decide⟩,Zmx,rfl,by simp[vgI],Wm _⟩
def miD (z:Int):Int:=if z<0 then z+256 else z
def miC (z:Int):Int:=if z<0 then 1 else 0
theorem MiS.step {a b:List Int}{i:Nat}{c:Int}{xs:List Int}(h:MiS a b i c xs)(ha:D8 a)(hb:D8 b)(hc:i<a.length):MiS a b (i+1) (miC (gD a i-c-gD b i)) (xs++[miD (gD a i-c-gD b i)]):=by
 have g1:=ZbB ha i
 have g2:=ZbB hb i
 have h1:=h.cr
 have hv:=h.v
 rw[ZfK a i,ZfK b i] at hv
 have hm:miD (gD a i-c-gD b i)-256*miC (gD a i-c-gD b i)=gD a i-c-gD b i:=by
  unfold miD miC
  split <;> omega
 have hr:0<=miD (gD a i-c-gD b i)/\miD (gD a i-c-gD b i)<256:=by
  unfold miD
  split <;> omega
 have hr2:0<=miC (gD a i-c-gD b i)/\miC (gD a i-c-gD b i)<=1:=by
  unfold miC
  split <;> omega
 refine⟨hr2,h.d.append (ZhH hr),by rw[Wp,h.n];rfl, ?_,hc⟩
 rw[ZhZ,h.n,<-hv,Int.pow_succ]
 generalize vgI (a.drop (i+1))=A at*
 generalize vgI (b.drop (i+1))=B at*
 generalize miD (gD a i-c-gD b i)=D at*
 generalize miC (gD a i-c-gD b i)=C at*
 have e2:gD a i+256*A-(gD b i+256*B)-c=D+256*(A-B-C):=by omega
 rw[e2,Int.mul_add (256 ^ i) D,Int.mul_assoc]
 omega
theorem MiS.fin {a b:List Int}{c:Int}{xs:List Int}(h:MiS a b a.length c xs)(hb:D8 b)(hle:vgI b<=vgI a):vgI xs=vgI a-vgI b:=by
 have hv:=h.v
 have h1:=h.cr
 rw[Za7 (Wl _)] at hv
 have h2:=ZbD (hb.drop a.length)
 have h3:=ZcM h.d
 rw[h.n] at h3
 generalize vgI (b.drop a.length)=B at*
 by_cases h0:B+c=0
 ·rw[show 0-B-c=0 by omega] at hv
  omega
 ·have h4:=Int.mul_le_mul_of_nonneg_left (show 1<=B+c by omega) (Int.le_of_lt (ZdO a.length))
  have h5:(256:Int) ^ a.length*(0-B-c)= -(256 ^ a.length*(B+c)):=by rw[<-Int.mul_neg];congr 1;omega
  omega
set_option maxHeartbeats 8000000 in
theorem Zi3 (v1 v2:Value)(m n:Nat)(w:World)(h1:ArgS w v1 (eI .i64) (dI m))(h2:ArgS w v2 (eI .i64) (dI n))(hl:((dI m).length<=1099511627776/\(dI n).length<=1099511627776)/\n<=m):
  Calls prog 126 [v1,v2].toArray w (RetM (FlS (eI .i64) 1 (dI (m-n))) (fun s=>vF s) (fun s=>mF 3 s) w):=by
 have a8:=Zbx m
 have b8:=Zbx n
 have av:=ZaB m
 have bv:=ZaB n
 obtain⟨p,cp,rfl⟩:=h1.form
 obtain⟨q,cq',rfl⟩:=h2.form
 generalize dI m=a at*
 generalize dI n=b at*
 refine Zb Tryz.func126 rfl Tryz.ntmps126 rfl ?_
 repeat(refine wkB ?_;intros)
 refine Zq (S:=(i:Nat)×(c:Int)×(xs:List Int)×SlS (eI .i64) 1 xs) (fun q=>MiS a b q.1 q.2.1 q.2.2.1) (fun s=>[(0, .slice p a.length cp),(1, .slice q b.length cq'),(5,vSl s.2.2.2),(6, .int .i64 s.2.1),(7, .int .i64 (s.1:Nat))]) (fun s=>mS 3 s.2.2.2) (fun s=>a.length-s.1) ⟨0,0,[],SlS.no⟩ (MiS.start a b) sbB suB (fun s hs=>?_)
 obtain⟨i,c,xs,o⟩:=s
 simp only at hs⊢
 have hc:=hs.cr
 have hn:=hs.n
 have he:=hs.e
 repeat(refine wkB ?_;intros)
 refine Zk rfl (fun h=>?_) (fun h=>?_)
 ·have hlt:i<a.length:=by have:=Wa h;omega
  have hst:=hs.step a8 b8 hlt
  have g1:=ZbB a8 i
  have g2:=ZbB b8 i
  have hne:a≠[]:=fun h0=>by rw[h0] at hlt;simp at hlt
  obtain⟨bw,ow,cw,hvw,hcw,hrow⟩:=h1.blk (k:=0) hne []
  injection hvw with x1 x2 x3
  subst x1 x3
  have hr1:∀L,RowC w L bw ow Int (eI .i64) a:=fun L=>⟨fun w' hw'=>hrow.out w' (hw'.sub (Wk _))⟩
  have e:gi a (i:Int)=gD a i:=by unfold gD;rw[if_pos hlt]
  have e3:=a8.gi (i:=(i:Int))
  repeat(refine wkB ?_;intros)
  simp only[e]
  refine ZY (S:=Unit) (fun _=>True) (fun _=>[(0, .slice (some ⟨bw,ow,none⟩) a.length cp),(1, .slice q b.length cq'),(5,vSl o),(7, .int .i64 (i:Nat)),(8, .int .i64 (gD a i-c-gD b i))]) (fun _=>mS 3 o) ?_ (fun _ _=>?_)
  ·refine Zk rfl (fun h=>?_) (fun h=>?_)
   ·have hlt:i<b.length:=by have:=Wa h;omega
    obtain⟨bw,ow,rfl,hr2⟩:=h2.opn (k:=0) hlt
    have e:gD b i=gi b (i:Int):=by unfold gD;rw[if_pos hlt]
    rw[e] at g2⊢
    repeat(refine wkB ?_;intros)
    exact Zj () trivial sbB suB
   ·have hlt:¬i<b.length:=by have:=Wb h;omega
    have e:gD b i=0:=by unfold gD;rw[if_neg hlt]
    rw[e,Int.sub_zero]
    repeat(refine wkB ?_;intros)
    exact Zj () trivial sbB suB
  have hzr: -256<=gD a i-c-gD b i/\gD a i-c-gD b i<=255:=by omega
  generalize gD a i-c-gD b i=z at*
  repeat(refine wkB ?_;intros)
  refine ZY (S:=Unit) (fun _=>True) (fun _=>[(0, .slice (some ⟨bw,ow,none⟩) a.length cp),(1, .slice q b.length cq'),(5,vSl o),(6, .int .i64 (miC z)),(7, .int .i64 (i:Nat)),(8, .int .i64 (miD z))]) (fun _=>mS 3 o) ?_ (fun _ _=>?_)
  ·unfold miC miD
   refine Zk rfl (fun h=>?_) (fun h=>?_)
   ·have h0:z<0:=Wa h
    rw[if_pos h0,if_pos h0]
    repeat(refine wkB ?_;intros)
    exact Zj () trivial sbB suB
   ·have h0:¬z<0:=Wb h
    rw[if_neg h0,if_neg h0]
    repeat(refine wkB ?_;intros)
    exact Zj () trivial sbB suB
  repeat(refine wkB ?_;intros)
  refine sU rfl rfl ?_ ?_ ?_ ?_
  ·rfl
  ·rfl
  ·exact⟨by decide,by omega,by omega⟩
  intro o'
  repeat(first|(refine wkB ?_;intros)|(refine wnM ?_ ?_;(focus(exact⟨by omega,by omega⟩));intros))
  exact Zg ⟨i+1,_,_,o'⟩ hst sbB suB (by show a.length-(i+1)<a.length-i;omega)
 ·obtain rfl:i=a.length:=by have:=Wb h;omega
  have hfin:=hs.fin b8 (by omega)
  have hl':xs.length<=1125899906842624:=by omega
  repeat(first|(refine wkB ?_;intros)|(refine wnM ?_ ?_;(focus(exact hl'));intros))
  obtain⟨f,g1,g2⟩:∃f:FlS (eI .i64) 1 (dI (m-n)),vF f=tkV (tzN xs xs.length) (vSl o)/\∀T,mF T f=mS T o:=by
   have e:(vgI xs).toNat=m-n:=by omega
   have:=o.trim hs.d
   rwa [e] at this
  exact ZB rfl rfl (fun w hw=>⟨f,by show Ending.returned _=Ending.returned (vF f);rw[g1],by show Own _ (mF _ f) _;rw[g2];exact hw.sub suB⟩)
instance Zwf (w0:World)(L:List Blk)(v1 v2:Value)(m n:Nat)[h1:LstC w0 L v1 Int (eI .i64) (dI m)][h2:LstC w0 L v2 Int (eI .i64) (dI n)]:SpecR prog w0 L 126 [v1,v2] (FlS (eI .i64) 1 (dI (m-n))) (fun s=>vF s) (fun s=>mF 3 s) (((dI m).length<=1099511627776/\(dI n).length<=1099511627776)/\n<=m):=⟨fun hl w hw=>Zi3 v1 v2 m n w (h1.out w hw) (h2.out w hw) hl⟩
structure TmS (a b o0:List Int)(i k:Nat)(c:Int)(o:List Int):Prop where
 cr:0<=c/\c<=255
 d:D8 o
 n:o.length=a.length+b.length+1
 v:vgI o+256 ^ (i+k)*c=vgI o0+256 ^ i*(gD a i*vgI (b.take k))
 s:∀j,i+k<=j->gi o (j:Int)=gi o0 (j:Int)
 e:k<=b.length\/(k=b.length+1/\c=0)
structure TiS (a b:List Int)(i:Nat)(o:List Int):Prop where
 d:D8 o
 n:o.length=a.length+b.length+1
 v:vgI o=vgI (a.take i)*vgI b
 e:i<=a.length
theorem ZeV :∀{l:List Int} {k:Nat},D8 l->vgI l<256 ^ k->∀j,k<=j->gi l (j:Int)=0
 |[],k,_,_,j,_=>by
  unfold gi
  rw[List.getD_eq_getElem?_getD,List.getElem?_eq_none (by simp)]
  rfl
 |d::l,0,h,hv,j,hj=>by
  have h1:=ZbD h.cons.2
  have h2:=h.cons.1
  simp only[vgI] at hv
  have hd:d=0:=by omega
  have hl:vgI l<256 ^ 0:=by omega
  rcases j with _|j
  ·unfold gi
   simpa using hd
  ·have:=ZeV (k:=0) h.cons.2 hl j (Wm _)
   unfold gi at this⊢
   simpa using this
 |d::l,k+1,h,hv,j,hj=>by
  have h2:=h.cons.1
  simp only[vgI,Int.pow_succ] at hv
  have hl:vgI l<256 ^ k:=by omega
  rcases j with _|j
  ·omega
  ·have:=ZeV (k:=k) h.cons.2 hl j (by omega)
   unfold gi at this⊢
   simpa using this
theorem Zgo {l:List Int}{i j:Nat}{x:Int}(h:i≠j):gi (l.set i x) (j:Int)=gi l (j:Int):=by
 unfold gi
 simp only[Int.toNat_natCast,List.getD_eq_getElem?_getD,List.getElem?_set_ne h]
theorem TiS.start (a b:List Int):TiS a b 0 (List.replicate (a.length+b.length+1) 0):=⟨ZjP _,List.length_replicate,by rw[ZoF];simp[vgI],Wm _⟩
theorem TiS.row {a b o:List Int}{i:Nat}(h:TiS a b i o):TmS a b o i 0 0 o:=⟨⟨Int.le_refl _,by decide⟩,h.d,h.n,by simp[vgI],fun _ _=>rfl, .inl (Wm _)⟩
theorem TmS.step {a b o0 o:List Int}{i k:Nat}{c:Int}(h:TmS a b o0 i k c o)(ha:D8 a)(hb:D8 b)(hi:i<a.length)(hc:k<b.length\/0<c)(h0:TiS a b i o0):
  i+k<a.length+b.length+1/\TmS a b o0 i (k+1) ((gi o ((i+k:Nat):Int)+c+gD a i*gD b k) / 256) (o.set (i+k) ((gi o ((i+k:Nat):Int)+c+gD a i*gD b k) % 256))/\(0<=gD a i*gD b k/\gD a i*gD b k<=65025)/\0<=gi o ((i+k:Nat):Int)/\gi o ((i+k:Nat):Int)<=255:=by
 have g1:=ZbB ha i
 have g2:=ZbB hb k
 have g3:=h.d.gi (i:=((i+k:Nat):Int))
 have h1:=h.cr
 have hk:k<=b.length:=by
  rcases h.e with h2|h2 <;> omega
 have hp:0<=gD a i*gD b k/\gD a i*gD b k<=65025:=⟨Int.mul_nonneg g1.1 g2.1,by
  have:=Int.mul_le_mul g1.2 g2.2 g2.1 (by decide)
  exact this⟩
 have hlt:i+k<a.length+b.length+1:=by omega
 refine⟨hlt,⟨⟨by omega,by omega⟩,h.d.set _ ⟨by omega,by omega⟩,by rw[List.length_set];exact h.n, ?_,fun j hj=>?_, ?_⟩,hp,g3.1,by omega⟩
 ·have hv:=h.v
  rw[Zkd (by rw[h.n];exact hlt)]
  have hb2:vgI (b.take (k+1))=vgI (b.take k)+256 ^ k*gD b k:=by
   unfold gD
   split
   ·rename_i h3
    exact Zbd h3
   ·rename_i h3
    rw[List.take_of_length_le (by omega),List.take_of_length_le (by omega)]
    simp
  rw[hb2]
  generalize gi o ((i+k:Nat):Int)=y at*
  generalize gD a i=A at*
  generalize gD b k=B at*
  generalize hs:y+c+A*B=s at*
  have e1:s % 256-y+256*(s / 256)=c+A*B:=by omega
  have e2:(256:Int) ^ (i+(k+1))=256 ^ (i+k)*256:=Int.pow_succ 256 (i+k)
  have e3:(256:Int) ^ (i+k)=256 ^ i*256 ^ k:=Int.pow_add 256 i k
  have e4:(256:Int) ^ (i+k)*(s % 256-y)+256 ^ (i+k)*(256*(s / 256))=256 ^ (i+k)*(c+A*B):=by rw[<-Int.mul_add,e1]
  have e5:(256:Int) ^ (i+k)*(A*B)=256 ^ i*(A*(256 ^ k*B)):=by
   rw[e3,Int.mul_assoc]
   congr 1
   rw[<-Int.mul_assoc,<-Int.mul_assoc,Int.mul_comm (256 ^ k) A]
  rw[e2,Int.mul_assoc,Int.mul_add A,Int.mul_add (256 ^ i),<-e5]
  rw[Int.mul_add (256 ^ (i+k)) c] at e4
  omega
 ·rw[Zgo (by omega)]
  exact h.s j (by omega)
 ·rcases h.e with h2|⟨h2,h3⟩
  ·by_cases h4:k<b.length
   ·exact .inl h4
   ·refine .inr ⟨by omega, ?_⟩
    have e1:gD b k=0:=by unfold gD;rw[if_neg h4]
    have e2:gi o ((i+k:Nat):Int)=0:=by
     rw[h.s _ (Wl _)]
     refine ZeV (k:=i+b.length) h0.d ?_ _ (by omega)
     rw[h0.v]
     have l1:=ZcM (ha.take i)
     have l2:=ZcM hb
     have n1:=ZbD (ha.take i)
     have n2:=ZbD hb
     rw[Wt,Nat.min_eq_left h0.e] at l1
     rw[Int.pow_add]
     have q1:=Int.mul_le_mul_of_nonneg_left (Int.le_of_lt l2) n1
     have q2:=Int.mul_lt_mul_of_pos_right l1 (ZdO b.length)
     omega
    rw[e1,e2]
    omega
  ·omega
theorem TmS.fin {a b o0 o:List Int}{i k:Nat}{c:Int}(h:TmS a b o0 i k c o)(hi:i<a.length)(hc:¬(k<b.length\/0<c))(h0:TiS a b i o0):TiS a b (i+1) o:=by
 have h1:=h.cr
 have hv:=h.v
 refine⟨h.d,h.n, ?_,hi⟩
 rw[show c=0 by omega,List.take_of_length_le (by omega),h0.v] at hv
 have e:gD a i=gi a (i:Int):=by unfold gD;rw[if_pos hi]
 rw[Zbd hi,Int.add_mul,<-e,Int.mul_assoc]
 simpa using hv
set_option maxHeartbeats 8000000 in
theorem ZiN (v1 v2:Value)(m n:Nat)(w:World)(h1:ArgS w v1 (eI .i64) (dI m))(h2:ArgS w v2 (eI .i64) (dI n))(hl:(dI m).length<=1099511627776/\(dI n).length<=1099511627776):
  Calls prog 122 [v1,v2].toArray w (RetM (FlS (eI .i64) 1 (dI (m*n))) (fun s=>vF s) (fun s=>mF 3 s) w):=by
 have a8:=Zbx m
 have b8:=Zbx n
 have av:=ZaB m
 have bv:=ZaB n
 obtain⟨p,cp,rfl⟩:=h1.form
 obtain⟨q,cq',rfl⟩:=h2.form
 generalize dI m=a at*
 generalize dI n=b at*
 obtain⟨hl1,hl2⟩:=hl
 have eN:(a.length:Int)+(b.length:Nat)+1=((a.length+b.length+1:Nat):Int):=by omega
 refine Zb Tryz.func122 rfl Tryz.ntmps122 rfl ?_
 repeat(refine wkB ?_;intros)
 simp only[eN]
 generalize hN:a.length+b.length+1=N at*
 refine sM rfl rfl ⟨by omega,by omega⟩ (fun b5=>?_)
 repeat(refine wkB ?_;intros)
 have hst0:=TiS.start a b
 rw[hN] at hst0
 refine Zq (S:=Nat×List Int) (fun s=>TiS a b s.1 s.2) (fun s=>[(0, .slice p a.length cp),(1, .slice q b.length cq'),(5, .slice (some ⟨b5,0,none⟩) N N),(6, .int .i64 (s.1:Nat))]) (fun s=>[⟨b5,row (eI .i64) s.2 [],3⟩]) (fun s=>a.length-s.1) (0,List.replicate N 0) hst0 sbB slB (fun s hs=>?_)
 obtain⟨i,o0⟩:=s
 simp only at hs⊢
 have he:=hs.e
 repeat(refine wkB ?_;intros)
 refine Zk rfl (fun h=>?_) (fun h=>?_)
 ·have hlt:i<a.length:=by have:=Wa h;omega
  have hnea:a≠[]:=fun h0=>by rw[h0] at hlt;simp at hlt
  obtain⟨bw,ow,cw,hvw,hcw,hrow⟩:=h1.blk (k:=0) hnea []
  injection hvw with x1 x2 x3
  subst x1 x3
  have hr1:∀L,RowC w L bw ow Int (eI .i64) a:=fun L=>⟨fun w' hw'=>hrow.out w' (hw'.sub (Wk _))⟩
  have ea:gi a (i:Int)=gD a i:=by unfold gD;rw[if_pos hlt]
  repeat(refine wkB ?_;intros)
  refine Zq (S:=Nat×Int×List Int) (fun s=>TmS a b o0 i s.1 s.2.1 s.2.2) (fun s=>[(0, .slice (some ⟨bw,ow,none⟩) a.length cp),(1, .slice q b.length cq'),(5, .slice (some ⟨b5,0,none⟩) N N),(6, .int .i64 (i:Nat)),(7, .int .i64 s.2.1),(8, .int .i64 (s.1:Nat))]) (fun s=>[⟨b5,row (eI .i64) s.2.2 [],3⟩]) (fun s=>b.length+1-s.1) (0,0,o0) hs.row sbB slB (fun s ht=>?_)
  obtain⟨k,c,o⟩:=s
  simp only at ht⊢
  have hc:=ht.cr
  have hn:=ht.n
  have hke:=ht.e
  repeat(refine wkB ?_;intros)
  refine Zdz (S:={z:Bool // z=true↔(k<b.length\/0<c)}) (fun _=>True) (fun z=>[(0, .slice (some ⟨bw,ow,none⟩) a.length cp),(1, .slice q b.length cq'),(5, .slice (some ⟨b5,0,none⟩) N N),(6, .int .i64 (i:Nat)),(7, .int .i64 c),(8, .int .i64 (k:Nat)),(30, .bool z.1)]) (fun _=>[⟨b5,row (eI .i64) o [],3⟩]) ?_ (fun z _=>?_)
  ·by_cases c1:k<b.length
   ·simp only[Wc (show(k:Int)<(b.length:Nat) by omega)]
    repeat(refine wkB ?_;intros)
    exact Zj ⟨true,by simp[c1]⟩ trivial sbB slB
   ·simp only[We (show¬(k:Int)<(b.length:Nat) by omega)]
    repeat(refine wkB ?_;intros)
    exact Zj ⟨decide (0<c),by simp[c1]⟩ trivial sbB slB
  obtain⟨z,hz⟩:=z
  simp only
  refine Zk rfl (fun h=>?_) (fun h=>?_)
  ·have hor:=hz.1 h
   obtain⟨hik,hst,hp,hg⟩:=ht.step a8 b8 hlt hor hs
   rw[hN] at hik hn
   have eik:(i:Int)+(k:Nat)=((i+k:Nat):Int):=by omega
   have hg':0<=gi o ((i:Int)+(k:Nat))/\gi o ((i:Int)+(k:Nat))<=255:=by rw[eik];exact hg
   repeat(refine wkB ?_;intros)
   simp only[eik]
   repeat(refine wkB ?_;intros)
   refine ZY (S:=Unit) (fun _=>True) (fun _=>[(0, .slice (some ⟨bw,ow,none⟩) a.length cp),(1, .slice q b.length cq'),(5, .slice (some ⟨b5,0,none⟩) N N),(6, .int .i64 (i:Nat)),(8, .int .i64 (k:Nat)),(9, .int .i64 (gi o ((i+k:Nat):Int)+c+gD a i*gD b k))]) (fun _=>[⟨b5,row (eI .i64) o [],3⟩]) ?_ (fun _ _=>?_)
   ·refine Zk rfl (fun h=>?_) (fun h=>?_)
    ·have hlt:k<b.length:=by have:=Wa h;omega
     have hne:b≠[]:=fun h0=>by rw[h0] at hlt;simp at hlt
     obtain⟨bv,ov,cv,hvv,hcv,hrow2⟩:=h2.blk (k:=0) hne []
     injection hvv with x1 x2 x3
     subst x1 x3
     have hr2:∀L,RowC w L bv ov Int (eI .i64) b:=fun L=>⟨fun w' hw'=>hrow2.out w' (hw'.sub (Wk _))⟩
     have eb:gi b (k:Int)=gD b k:=by unfold gD;rw[if_pos hlt]
     rw[<-ea,<-eb] at hp⊢
     repeat(refine wkB ?_;intros)
     refine jD 12 12 (h:=?_)
     (repeat(refine wkH ?_))
     refine Zo ?_
     refine Zs ?_
     repeat(refine wkB ?_;intros)
     exact Zj () trivial sbB slB
    ·have hlt:¬k<b.length:=by have:=Wb h;omega
     have eb:gD b k=0:=by unfold gD;rw[if_neg hlt]
     rw[eb,Int.mul_zero,Int.add_zero]
     repeat(refine wkB ?_;intros)
     exact Zj () trivial sbB slB
   generalize gD a i*gD b k=ab at*
   repeat(refine wkB ?_;intros)
   simp only[eik]
   repeat(refine wkB ?_;intros)
   simp only[Int.toNat_natCast]
   repeat(first|(refine wkB ?_;intros)|(refine wnM ?_ ?_;(focus(exact⟨by omega,by omega⟩));intros))
   exact Zg (k+1,_,_) hst sbB slB (by show b.length+1-(k+1)<b.length+1-k;omega)
  ·have hor:¬(k<b.length\/0<c):=fun h0=>by rw[hz.2 h0] at h;cases h
   have hfin:=ht.fin hlt hor hs
   repeat(first|(refine wkB ?_;intros)|(refine wnM ?_ ?_;(focus(exact⟨by omega,by omega⟩));intros))
   exact Zg (i+1,o) hfin sbB slB (by show a.length-(i+1)<a.length-i;omega)
 ·obtain rfl:i=a.length:=by have:=Wb h;omega
  have hn:=hs.n
  rw[hN] at hn
  have hv:=hs.v
  rw[List.take_length,av,bv] at hv
  have hl':o0.length<=1125899906842624:=by omega
  have hne:o0≠[]:=fun h0=>by rw[h0,Wx] at hn;omega
  subst hn
  obtain⟨os,e1,e2⟩:∃os:SlS (eI .i64) 1 o0,vSl os= .slice (some ⟨b5,0,none⟩) o0.length o0.length/\∀T,mS T os=[⟨b5,row (eI .i64) o0 [],T⟩]:=⟨SlS.at_ b5 o0.length [] ⟨Wl _,by simp⟩ hne,rfl,fun _=>rfl⟩
  rw[<-e1,<-e2]
  repeat(first|(refine wkB ?_;intros)|(refine wnM ?_ ?_;(focus(exact hl'));intros))
  obtain⟨f,g1,g2⟩:∃f:FlS (eI .i64) 1 (dI (m*n)),vF f=tkV (tzN o0 o0.length) (vSl os)/\∀T,mF T f=mS T os:=by
   have e:(vgI o0).toNat=m*n:=by
    rw[hv]
    exact Int.toNat_natCast (m*n)
   have:=os.trim hs.d
   rwa [e] at this
  exact ZB rfl rfl (fun w hw=>⟨f,by show Ending.returned _=Ending.returned (vF f);rw[g1],by show Own _ (mF _ f) _;rw[g2];exact hw.sub suB⟩)
instance Zws (w0:World)(L:List Blk)(v1 v2:Value)(m n:Nat)[h1:LstC w0 L v1 Int (eI .i64) (dI m)][h2:LstC w0 L v2 Int (eI .i64) (dI n)]:SpecR prog w0 L 122 [v1,v2] (FlS (eI .i64) 1 (dI (m*n))) (fun s=>vF s) (fun s=>mF 3 s) ((dI m).length<=1099511627776/\(dI n).length<=1099511627776):=⟨fun hl w hw=>ZiN v1 v2 m n w (h1.out w hw) (h2.out w hw) hl⟩
end
section
theorem FlS.reads {α:Type}{enc:α->Array Value}{k:Nat}[he:EncC enc k]{xs:List α}(s:FlS enc k xs)(T:TypeId){w0 w:World}(hw:Own w0 (mF T s) w):ArgS w (vF s) enc xs:=by
 by_cases h0:xs=[]
 ·subst h0
  rcases s.cases T with⟨-,h1, -⟩|⟨b,c,sp,hc,h1, -⟩
  ·rw[h1];exact⟨.inl ⟨rfl,rfl⟩⟩
  ·rw[h1];exact⟨.inr ⟨⟨b,0,none⟩,c,rfl,Wm _,fun i f k' u hi=>by simp at hi⟩⟩
 ·obtain⟨s',e1,e2⟩:=s.sl h0
  rw[<-e1]
  have i1:LstC w0 (mS T s') (vSl s') α enc xs:=inferInstance
  exact i1.out w (by rw[e2];exact hw)
instance (priority :=low) lstFI {xs:List Int}(w0:World)(L L1:List Blk)(s:FlS (eI .i64) 1 xs)[h:OwnF 3 s L L1]:LstC w0 L (vF s) Int (eI .i64) xs:=⟨fun w hw=>s.reads 3 ((hw.perm h.out).sub (List.sublist_append_left _ _))⟩
instance (priority :=low) sbpFI {xs:List Int}(s:FlS (eI .i64) 1 xs)(A L L1:List Blk)[h:BmC (mF 3 s) L L1][g:SbpC A L1]:SbpC (mF 3 s++A) L:=⟨by
 obtain⟨L',hp⟩:=g.out
 exact⟨L',h.out.trans (by rw[List.append_assoc];exact hp.append_left _)⟩⟩
instance (priority :=low) sbpFI0 {xs:List Int}(s:FlS (eI .i64) 1 xs)(L L1:List Blk)[h:BmC (mF 3 s) L L1]:SbpC (mF 3 s) L:=⟨L1,h.out⟩
theorem FlS.trim {xs:List Int}(s:FlS (eI .i64) 1 xs)(hne:xs≠[])(h:D8 xs):∃f:FlS (eI .i64) 1 (dI (vgI xs).toNat),vF f=tkV (tzN xs xs.length) (vF s)/\∀T,mF T f=mF T s:=by
 obtain⟨s',e1,e2⟩:=s.sl hne
 obtain⟨f,g1,g2⟩:=s'.trim h
 exact⟨f,by rw[g1,e1],fun T=>by rw[g2,e2]⟩
def FlS.one {α:Type}{enc:α->Array Value}{k:Nat}(b:Nat)(x:α):FlS enc k [x]:=⟨some (b,1,[]),(fun h=>by cases h),fun t ht=>by injection ht with ht;subst ht;exact⟨Wl _,by simp⟩⟩
theorem FlS.one_v {α:Type}{enc:α->Array Value}{k:Nat}(b:Nat)(x:α):vF (FlS.one b x:FlS enc k [x])= .slice (some ⟨b,0,none⟩) 1 1:=rfl
instance (priority :=low) ofDel1 {α:Type}{enc:α->Array Value}{k:Nat}(T:TypeId)(b:Nat)(x:α)(L L1:List Blk)[h:DelC b L (row enc [x] []) T L1]:OwnF T (FlS.one b x:FlS enc k [x]) L L1:=⟨h.out⟩
structure PtS (w:World)(n:Nat) where
 v:Value
 m:List Blk
 r:∀{w0 w':World},Ext w w'->Own w0 m w'->ArgS w' v (eI .i64) (dI n)
instance (priority :=low) ptLst {w:World}{n:Nat}(L:List Blk)(s:PtS w n)[h:SblC s.m L]:LstC w L s.v Int (eI .i64) (dI n):=⟨fun _ hw=>s.r hw.ext (hw.sub h.out)⟩
def PtS.arg {w:World}{n:Nat}{v:Value}(h:ArgS w v (eI .i64) (dI n)):PtS w n:=⟨v,[],fun he _=>h.to he⟩
def PtS.fl (w:World){n:Nat}(f:FlS (eI .i64) 1 (dI n)):PtS w n:=⟨vF f,mF 3 f,fun _ hw=>f.reads 3 hw⟩
structure DvR (m n:Nat) where
 q:FlS (eI .i64) 1 (dI (m / n))
 r:Option (FlS (eI .i64) 1 (dI (m % n)))
 al:r=none->m<n
def DvR.rv {m n:Nat}(s:DvR m n)(v1:Value):Value:=match s.r with
 |some f=>vF f
 |none=>v1
def DvR.rm {m n:Nat}(s:DvR m n):List Blk:=match s.r with
 |some f=>mF 3 f
 |none=>[]
structure DvI (a:List Int)(B i:Nat)(Q:List Int)(R:Nat):Prop where
 d:D8 Q
 n:Q.length=a.length
 v:vgI (a.drop i)=vgI (Q.drop i)*B+R
 lt:R<B
 z:∀j,j<i->gi Q (j:Int)=0
 e:i<=a.length
structure DvJ (a:List Int)(B i:Nat)(Q:List Int)(R:Nat):Prop where
 d:D8 Q
 n:Q.length=a.length
 v:vgI (a.drop i)=vgI (Q.drop i)*B+R
 lt:(R:Int)+gi Q (i:Int)*B<256*B
 z:∀j,j<i->gi Q (j:Int)=0
 e:i<a.length
theorem DvI.start {a:List Int}{B:Nat}(hB:0<B):DvI a B a.length (List.replicate a.length 0) 0:=⟨ZjP _,List.length_replicate,by
 rw[Za7 (Wl _),Za7 (by rw[List.length_replicate];exact Wl _)]
 simp,hB,fun j hj=>by rw[Zw (by rw[List.length_replicate];exact hj),List.getElem_replicate],Wl _⟩
theorem DvI.next {a:List Int}{B i:Nat}{Q:List Int}{R:Nat}(h:DvI a B (i+1) Q R)(ha:D8 a):DvJ a B i Q (gi a (i:Int)+256*R).toNat/\((gi a (i:Int)+256*R).toNat:Int)=gi a (i:Int)+256*R:=by
 have g:=ha.gi (i:=(i:Int))
 have he:=h.e
 have e1:((gi a (i:Int)+256*R).toNat:Int)=gi a (i:Int)+256*R:=by omega
 have hz:=h.z i (by omega)
 refine⟨⟨h.d,h.n, ?_, ?_,fun j hj=>h.z j (by omega),by omega⟩,e1⟩
 ·rw[e1,Zb3 (xs:=a) (by omega),Zb3 (xs:=Q) (by rw[h.n];omega),hz,h.v]
  have:(0+256*vgI (Q.drop (i+1)))*(B:Int)=256*(vgI (Q.drop (i+1))*B):=by rw[Int.zero_add,Int.mul_assoc]
  omega
 ·rw[hz,e1]
  have:=h.lt
  omega
theorem DvJ.part {a:List Int}{B i:Nat}{Q:List Int}{R s:Nat}(h:DvJ a B i Q R)(hs:s*B<=R)(hB:0<B):gi Q (i:Int)+s<256:=by
 have h1:=h.lt
 have h2:((s*B:Nat):Int)<=R:=by omega
 rw[Int.natCast_mul] at h2
 have h3:(gi Q (i:Int)+s)*(B:Int)<256*B:=by rw[Int.add_mul];omega
 exact Int.lt_of_mul_lt_mul_right h3 (by omega)
theorem DvJ.take {a:List Int}{B i:Nat}{Q:List Int}{R s:Nat}(h:DvJ a B i Q R)(hs:s*B<=R)(hB:0<B):DvJ a B i (Q.set i (gi Q (i:Int)+s)) (R-s*B):=by
 have h0:=h.part hs hB
 have g:=h.d.gi (i:=(i:Int))
 have he:=h.e
 have hn:=h.n
 have hset:gi (Q.set i (gi Q (i:Int)+s)) (i:Int)=gi Q (i:Int)+s:=by
  rw[Zw (by rw[List.length_set];omega),List.getElem_set_self]
 have hsB:((R-s*B:Nat):Int)=R-(s:Int)*B:=by rw[Int.natCast_sub hs,Int.natCast_mul]
 refine⟨h.d.set _ ⟨by omega,by omega⟩,by rw[List.length_set];exact hn, ?_, ?_,fun j hj=>by rw[Zgo (by omega)];exact h.z j hj,he⟩
 ·have hv:=h.v
  rw[Zb3 (xs:=Q) (by omega)] at hv
  rw[Zb3 (xs:=Q.set i _) (by rw[List.length_set];omega),hset,hsB,hv,List.drop_set_of_lt (by omega)]
  generalize vgI (Q.drop (i+1))=V
  rw[Int.add_mul,Int.add_mul (gi Q (i:Int)+s),Int.add_mul (gi Q (i:Int))]
  omega
 ·have hl:=h.lt
  rw[hset,hsB,Int.add_mul]
  omega
theorem DvJ.fin {a:List Int}{B i:Nat}{Q:List Int}{R:Nat}(h:DvJ a B i Q R)(hc:R<B\/255<=gi Q (i:Int))(hB:0<B):DvI a B i Q R:=by
 have hl:=h.lt
 have hlt:R<B:=by
  rcases hc with hc|hc
  ·exact hc
  ·have:=Int.mul_le_mul_of_nonneg_right hc (show(0:Int)<=B by omega)
   omega
 exact⟨h.d,h.n,h.v,hlt,h.z,Nat.le_of_lt h.e⟩
theorem DvI.fin {a:List Int}{m B:Nat}{Q:List Int}{R:Nat}(h:DvI a B 0 Q R)(ha:vgI a=m)(hB:0<B):(vgI Q).toNat=m / B/\R=m % B:=by
 have hv:=h.v
 have hn:=ZbD h.d
 rw[List.drop_zero,List.drop_zero,ha] at hv
 have e:m=(vgI Q).toNat*B+R:=by
  have:((((vgI Q).toNat*B+R:Nat)):Int)=vgI Q*B+R:=by rw[Int.natCast_add,Int.natCast_mul,Int.toNat_of_nonneg hn]
  omega
 have hlt:=h.lt
 constructor
 ·rw[e,Nat.add_comm,Nat.add_mul_div_right _ _ hB,Nat.div_eq_of_lt hlt,Nat.zero_add]
 ·rw[e,Nat.add_comm,Nat.add_mul_mod_self_right,Nat.mod_eq_of_lt hlt]
set_option maxHeartbeats 16000000 in
theorem Zis (v1 v2:Value)(m n:Nat)(w:World)(h1:ArgS w v1 (eI .i64) (dI m))(h2:ArgS w v2 (eI .i64) (dI n))(hl:((dI m).length<=1073741824/\(dI n).length<=1073741824)/\0<n):
  Calls prog 168 [v1,v2].toArray w (RetM (DvR m n) (fun s=> .tuple #[vF s.q,s.rv v1]) (fun s=>mF 3 s.q++s.rm) w):=by
 have a8:=Zbx m
 have av:=ZaB m
 have hc1:=fun L=>h1.lst L
 have hc2:=fun L=>h2.lst L
 obtain⟨p,cp,rfl⟩:=h1.form
 obtain⟨q,cq',rfl⟩:=h2.form
 obtain⟨⟨hl1,hl2⟩,hn0⟩:=hl
 have hs1:(dI m).length<=1125899906842624:=by omega
 have hs2:(dI n).length<=1125899906842624:=by omega
 have hs3:(dI m).length<=1125899906842624/\(dI n).length<=1125899906842624:=⟨hs1,hs2⟩
 refine Zb Tryz.func168 rfl Tryz.ntmps168 rfl ?_
 repeat(first|(refine wkB ?_;intros)|(refine wnM ?_ ?_;(focus(first|exact hs1|exact hs2));intros))
 refine Zdz (S:={z:Bool // z=true↔((dI m).length<=7/\(dI n).length<=7)}) (fun _=>True) (fun z=>[(0, .slice p (dI m).length cp),(1, .slice q (dI n).length cq'),(5, .slice none 0 0),(6, .int .i64 (if(dI m).length<=7 then m else 0)),(8, .int .i64 (if(dI n).length<=7 then n else 0)),(30, .bool z.1)]) (fun _=>[]) ?_ (fun z _=>?_)
 ·by_cases c1:(dI m).length<=7
  ·simp only[Wc c1]
   repeat(refine wkB ?_;intros)
   by_cases c2:(dI n).length<=7
   ·simp only[Wc c2]
    repeat(refine wkB ?_;intros)
    simp only[if_pos c2,Wc (show(0:Int)<(n:Nat) by omega)]
    repeat(refine wkB ?_;intros)
    exact Zj ⟨true,by simp[c1,c2]⟩ trivial sbB slB
   ·simp only[We c2]
    repeat(refine wkB ?_;intros)
    exact Zj ⟨false,by simp[c2]⟩ trivial sbB slB
  ·simp only[We c1]
   repeat(refine wkB ?_;intros)
   exact Zj ⟨false,by simp[c1]⟩ trivial sbB slB
 obtain⟨z,hz⟩:=z
 simp only
 refine Zk rfl (fun h=>?_) (fun h=>?_)
 ·obtain⟨c1,c2⟩:=hz.1 h
  simp only[if_pos c1,if_pos c2]
  have hm7:m<256 ^ 7:=ZT.1 c1
  have hmb:m<=9223372036854775807:=Wi (Nat.le_of_lt hm7) (by decide)
  have hq:=Nat.div_le_self m n
  have hr:=Nat.mod_le m n
  have hq1:0<=(m:Int) / (n:Nat)/\(m:Int) / (n:Nat)<=9223372036854775807:=by
   rw[<-Int.natCast_ediv]
   generalize m / n=d at*
   omega
  have hr1:0<=(m:Int) % (n:Nat)/\(m:Int) % (n:Nat)<=9223372036854775807:=by
   rw[<-Int.natCast_emod]
   generalize m % n=d at*
   omega
  have eq1:((m:Int) / (n:Nat)).toNat=m / n:=by rw[<-Int.natCast_ediv];rfl
  have eq2:((m:Int) % (n:Nat)).toNat=m % n:=by rw[<-Int.natCast_emod];rfl
  refine Zc2 ?_
  refine ZY (S:=FlS (eI .i64) 1 (dI ((m:Int) / (n:Nat)).toNat)×FlS (eI .i64) 1 (dI ((m:Int) % (n:Nat)).toNat)) (fun _=>True) (fun q=>[(4,vF q.1),(5,vF q.2)]) (fun q=>mF 3 q.1++mF 3 q.2) ?_ (fun q _=>?_)
  ·(refine ZH (.v [0,1,2,4,5,6] (.e1 3 (.e1 7 (.e1 8 (.e1 9 (.fin)))))) ([]) (h:=?_);refine wkX ?_)
   repeat' (first|(with_reducible refine And.intro ?_ ?_)|(with_reducible exact True.intro)|(refine wkT ?_;intros)|(refine tC rfl rfl ?_ ?_;focus(first|exact hq1|exact hr1|exact trivial))|(refine uC rfl rfl ?_ ?_;focus(first|exact hq1|exact hr1|exact trivial))|(refine eN rfl rfl ?_ ?_;(focus(first|exact hq1|exact hr1|exact trivial));intro _;(try simp only[Wf,Wg,Wh]))|fail)
   all_goals exact Zbg ⟨_,_⟩ trivial sbB inferInstance
  obtain⟨q1,q2⟩:=q
  obtain⟨q1',f1,f2⟩:=q1.like (show dI (m / n)=dI ((m:Int) / (n:Nat)).toNat by rw[eq1])
  obtain⟨q2',f3,f4⟩:=q2.like (show dI (m % n)=dI ((m:Int) % (n:Nat)).toNat by rw[eq2])
  simp only[<-f1,<-f2,<-f3,<-f4]
  repeat(refine wkB ?_;intros)
  exact ZF rfl (Zy rfl) (Zy rfl) (fun w hw=>⟨⟨q1',some q2',fun h=>by cases h⟩,rfl,hw⟩)
 ·have hz':¬((dI m).length<=7/\(dI n).length<=7):=fun h0=>by rw[hz.2 h0] at h;cases h
  repeat(first|(refine wkB ?_;intros)|(refine wnM ?_ ?_;(focus(exact hs3));intros))
  refine Zk rfl (fun h=>?_) (fun h=>?_)
  ·have h3:=Wa h
   have hlt:m<n:=by
    unfold Lib.compareInt at h3
    split at h3
    ·omega
    ·split at h3 <;> omega
   repeat(refine wkB ?_;intros)
   have e0:m / n=0:=Nat.div_eq_of_lt hlt
   exact ZF rfl (Zy rfl) (Zy rfl) (fun w hw=>⟨⟨⟨none,fun _=>by rw[e0];rfl,fun t ht=>by cases ht⟩,none,fun _=>hlt⟩,rfl,hw⟩)
  ·have h3:=Wb h
   have hle:n<=m:=by
    unfold Lib.compareInt at h3
    split at h3
    ·simp at h3
    ·omega
   have hm0:dI m≠[]:=fun h0=>by
    have:=ZcT.1 h0
    omega
   have hla:0<(dI m).length:=List.length_pos_iff.2 hm0
   obtain⟨bw,ow,cw,hvw,hcw,hrow⟩:=h1.blk (k:=0) hm0 []
   injection hvw with x1 x2 x3
   subst x1 x3
   have hr1:∀L,RowC w L bw ow Int (eI .i64) (dI m):=fun L=>⟨fun w' hw'=>hrow.out w' (hw'.sub (Wk _))⟩
   repeat(refine wkB ?_;intros)
   refine sM rfl rfl ⟨by omega,by omega⟩ (fun bq=>?_)
   repeat(refine wkB ?_;intros)
   refine Zq (S:=(i:Nat)×(Q:List Int)×(R:Nat)×FlS (eI .i64) 1 (dI R)) (fun s=>DvI (dI m) n s.1 s.2.1 s.2.2.1) (fun s=>[(0, .slice (some ⟨bw,ow,none⟩) (dI m).length cp),(1, .slice q (dI n).length cq'),(4, .slice (some ⟨bq,0,none⟩) (dI m).length (dI m).length),(5,vF s.2.2.2),(10, .int .i64 ((s.1:Int)-1))]) (fun s=>mF 3 s.2.2.2++[⟨bq,row (eI .i64) s.2.1 [],3⟩]) (fun s=>s.1) ⟨(dI m).length,List.replicate (dI m).length 0,0,⟨none,fun _=>rfl,fun t ht=>by cases ht⟩⟩ (DvI.start hn0) sbB slB (fun s hs=>?_)
   obtain⟨i,Q,R,f⟩:=s
   simp only at hs⊢
   have he:=hs.e
   have hQn:=hs.n
   have hRl:(dI R).length<=(dI n).length:=ZT.2 (Nat.lt_of_lt_of_le hs.lt (Nat.le_of_lt (ZT.1 (Wl _))))
   rcases i with _|j
   ·have hQ0:Q≠[]:=fun h0=>by rw[h0,Wx] at hQn;omega
    obtain⟨os,e1,e2⟩:∃os:SlS (eI .i64) 1 Q,vSl os= .slice (some ⟨bq,0,none⟩) (dI m).length (dI m).length/\∀T,mS T os=[⟨bq,row (eI .i64) Q [],T⟩]:=by
     rw[<-hQn]
     exact⟨SlS.at_ bq Q.length [] ⟨Wl _,by simp⟩ hQ0,rfl,fun _=>rfl⟩
    obtain⟨hq,hR⟩:=hs.fin av hn0
    have hl':Q.length<=1125899906842624:=by omega
    simp only[<-e1,<-e2]
    repeat(first|(refine wkB ?_;intros)|(refine wnM ?_ ?_;(focus(exact hl'));intros))
    obtain⟨fq,g1,g2⟩:∃fq:FlS (eI .i64) 1 (dI (m / n)),vF fq=tkV (tzN Q Q.length) (vSl os)/\∀T,mF T fq=mS T os:=by
     have:=os.trim hs.d
     rwa [hq] at this
    obtain⟨fr,g3,g4⟩:=f.like (show dI (m % n)=dI R by rw[hR])
    refine ZF rfl (Zy rfl) (Zy rfl) (fun w hw=>⟨⟨fq,some fr,fun h=>by cases h⟩, ?_, ?_⟩)
    ·show Ending.returned _=Ending.returned (.tuple #[vF fq,vF fr])
     rw[g1,g3]
    ·show Own _ (mF _ fq++mF _ fr) _
     rw[g2,g4]
     exact hw.perm List.perm_append_comm
   ·have e1:((j+1:Nat):Int)-1=(j:Int):=by omega
    obtain⟨hJ,hd⟩:=hs.next a8
    have hg:=a8.gi (i:=(j:Int))
    repeat(refine wkB ?_;intros)
    simp only[e1]
    repeat(refine wkB ?_;intros)
    rename_i bd
    refine sVF (k:=0) (enc:=eI .i64) (s:=FlS.one bd (gi (dI m) (j:Int))) (hx:=⟨rfl⟩) rfl rfl ?_ ?_ ?_
    ·rfl
    ·exact⟨by simp only[List.length_singleton];omega,by simp only[List.length_singleton];omega⟩
    intro s1
    have hl':([gi (dI m) (j:Int)]++dI R).length<=1125899906842624:=by rw[Wp,List.length_singleton];omega
    repeat(first|(refine wkB ?_;intros)|(refine wnM ?_ ?_;(focus(exact hl'));intros))
    obtain⟨f1,g1,g2⟩:∃f1:FlS (eI .i64) 1 (dI (gi (dI m) (j:Int)+256*R).toNat),vF f1=tkV (tzN ([gi (dI m) (j:Int)]++dI R) ([gi (dI m) (j:Int)]++dI R).length) (vF s1)/\∀T,mF T f1=mF T s1:=by
     have:=s1.trim (by simp) ((ZhH hg).append (Zbx R))
     have e:vgI ([gi (dI m) (j:Int)]++dI R)=gi (dI m) (j:Int)+256*R:=by
      show gi (dI m) (j:Int)+256*vgI (dI R)=_
      rw[ZaB]
     rwa [e] at this
    rw[<-g1,<-g2]
    generalize (gi (dI m) (j:Int)+256*R).toNat=R0 at*
    refine Zq (S:=(Q:List Int)×(R:Nat)×FlS (eI .i64) 1 (dI R)) (fun s=>DvJ (dI m) n j s.1 s.2.1) (fun s=>[(0, .slice (some ⟨bw,ow,none⟩) (dI m).length cp),(1, .slice q (dI n).length cq'),(4, .slice (some ⟨bq,0,none⟩) (dI m).length (dI m).length),(5,vF s.2.2),(10, .int .i64 (j:Nat))]) (fun s=>mF 3 s.2.2++[⟨bq,row (eI .i64) s.1 [],3⟩]) (fun s=>s.2.1) ⟨Q,R0,f1⟩ hJ sbB suB (fun s hs=>?_)
    obtain⟨Q,R,f⟩:=s
    simp only at hs⊢
    have hQn:=hs.n
    have he:=hs.e
    have hgQ:=hs.d.gi (i:=(j:Int))
    have hRl2:(dI R).length<=(dI n).length+1:=ZT.2 (by
     have h5:=hs.lt
     have h6:=Int.mul_nonneg hgQ.1 (show(0:Int)<=n by omega)
     have h7:n<256 ^ (dI n).length:=ZT.1 (Wl _)
     rw[Nat.pow_succ]
     omega)
    have hcm:(dI R).length<=1125899906842624/\(dI n).length<=1125899906842624:=⟨by omega,hs2⟩
    have hcmp:0<=Lib.compareInt (R:Int) n↔n<=R:=by
     unfold Lib.compareInt
     split
     ·constructor
      ·intro h0;simp at h0
      ·omega
     ·split
      ·constructor
       ·intro;omega
       ·intro;decide
      ·constructor
       ·intro;omega
       ·intro;decide
    repeat(first|(refine wkB ?_;intros)|(refine wnM ?_ ?_;(focus(exact hcm));intros))
    refine Zdz (S:={z:Bool // z=true↔(n<=R/\gi Q (j:Int)<255)}) (fun _=>True) (fun z=>[(0, .slice (some ⟨bw,ow,none⟩) (dI m).length cp),(1, .slice q (dI n).length cq'),(4, .slice (some ⟨bq,0,none⟩) (dI m).length (dI m).length),(5,vF f),(10, .int .i64 (j:Nat)),(72, .bool z.1)]) (fun _=>mF 3 f++[⟨bq,row (eI .i64) Q [],3⟩]) ?_ (fun z _=>?_)
    ·by_cases c1:n<=R
     ·simp only[Wc (hcmp.2 c1)]
      repeat(refine wkB ?_;intros)
      exact Zj ⟨decide (gi Q (j:Int)<255),by simp[c1]⟩ trivial sbB suB
     ·simp only[We (fun h0=>c1 (hcmp.1 h0))]
      repeat(refine wkB ?_;intros)
      exact Zj ⟨false,by simp[c1]⟩ trivial sbB suB
    obtain⟨z,hz⟩:=z
    simp only
    refine Zk rfl (fun h=>?_) (fun h=>?_)
    ·obtain⟨hnR,hq255⟩:=hz.1 h
     repeat(refine wkB ?_;intros)
     refine Zad (S:=(s:Nat)×(k:Nat)×PtS w k) (fun s=>1<=s.1/\s.1<=128/\s.2.1=s.1*n/\s.2.1<=R) (fun s=>[(0, .slice (some ⟨bw,ow,none⟩) (dI m).length cp),(1, .slice q (dI n).length cq'),(4, .slice (some ⟨bq,0,none⟩) (dI m).length (dI m).length),(5,vF f),(10, .int .i64 (j:Nat)),(11, .int .i64 (s.1:Nat)),(12,s.2.2.v)]) (fun s=>s.2.2.m++(mF 3 f++[⟨bq,row (eI .i64) Q [],3⟩])) ?_ (fun s hk=>?_)
     ·refine Zq (S:=(s:Nat)×(k:Nat)×PtS w k) (fun s=>1<=s.1/\s.1<=128/\s.2.1=s.1*n/\s.2.1<=R) (fun s=>[(0, .slice (some ⟨bw,ow,none⟩) (dI m).length cp),(1, .slice q (dI n).length cq'),(4, .slice (some ⟨bq,0,none⟩) (dI m).length (dI m).length),(5,vF f),(10, .int .i64 (j:Nat)),(11, .int .i64 (s.1:Nat)),(12,s.2.2.v)]) (fun s=>s.2.2.m++(mF 3 f++[⟨bq,row (eI .i64) Q [],3⟩])) (fun s=>256-s.1) ⟨1,n,PtS.arg h2⟩ ⟨Wl _,Nat.le_of_ble_eq_true rfl,(Nat.one_mul n).symm,hnR⟩ sbB suB (fun s hk=>?_)
      obtain⟨s,k,pt⟩:=s
      obtain⟨k1,k2,k3,k4⟩:=hk
      simp only at k1 k2 k3 k4⊢
      have hkl:(dI k).length<=(dI n).length+1:=Wi (ZT.2 (Nat.lt_of_le_of_lt k4 (ZT.1 (Wl _)))) hRl2
      have hkl2:(dI k).length<=1099511627776/\(dI k).length<=1099511627776:=⟨by omega,by omega⟩
      have hkkl:(dI (k+k)).length<=(dI n).length+2:=ZT.2 (by
       have:k<256 ^ ((dI n).length+1):=ZT.1 hkl
       rw[show(dI n).length+2=((dI n).length+1)+1 from rfl,Nat.pow_succ]
       omega)
      have hcm2:(dI (k+k)).length<=1125899906842624/\(dI R).length<=1125899906842624:=⟨by omega,by omega⟩
      have hcmp2:Lib.compareInt ((k+k:Nat):Int) R<=0↔k+k<=R:=by
       unfold Lib.compareInt
       split
       ·constructor
        ·intro;omega
        ·intro;decide
       ·split
        ·constructor
         ·intro h0;simp at h0
         ·omega
        ·constructor
         ·intro;omega
         ·intro;decide
      repeat(refine wkB ?_;intros)
      refine Zdz (S:={z:Bool // z=true↔(2*s<=128/\k+k<=R)}) (fun _=>True) (fun z=>[(0, .slice (some ⟨bw,ow,none⟩) (dI m).length cp),(1, .slice q (dI n).length cq'),(4, .slice (some ⟨bq,0,none⟩) (dI m).length (dI m).length),(5,vF f),(10, .int .i64 (j:Nat)),(11, .int .i64 (s:Nat)),(12,pt.v),(84, .bool z.1)]) (fun _=>pt.m++(mF 3 f++[⟨bq,row (eI .i64) Q [],3⟩])) ?_ (fun z _=>?_)
      ·by_cases c1:2*s<=128
       ·simp only[Wc (show 2*(s:Int)<=128 by omega)]
        repeat(first|(refine wkB ?_;intros)|(refine wnM ?_ ?_;(focus(first|exact hkl2|exact hcm2));intros))
        exact Zj ⟨decide (Lib.compareInt ((k+k:Nat):Int) R<=0),(decide_eq_true_iff.trans hcmp2).trans ⟨fun h0=>⟨c1,h0⟩,fun h0=>h0.2⟩⟩ trivial sbB suB
       ·simp only[We (show¬2*(s:Int)<=128 by omega)]
        repeat(refine wkB ?_;intros)
        exact Zj ⟨false,by simp[c1]⟩ trivial sbB suB
      obtain⟨z2,hz2⟩:=z
      simp only
      refine Zk rfl (fun h=>?_) (fun h=>?_)
      ·obtain⟨c1,c2⟩:=hz2.1 h
       have e2:(2:Int)*(s:Nat)=((2*s:Nat):Int):=by omega
       repeat(first|(refine wkB ?_;intros)|(refine wnM ?_ ?_;(focus(exact hkl2));intros))
       rename_i f2
       simp only[e2]
       have h4:1<=2*s/\2*s<=128/\k+k=2*s*n/\k+k<=R:=⟨by omega,c1,by rw[k3,Nat.mul_assoc,Nat.two_mul],c2⟩
       exact Zg ⟨2*s,k+k,PtS.fl w f2⟩ h4 sbB suB (by show 256-2*s<256-s;omega)
      ·repeat(refine wkB ?_;intros)
       exact Zj ⟨s,k,pt⟩ ⟨k1,k2,k3,k4⟩ sbB suB
     ·obtain⟨s,k,pt⟩:=s
      obtain⟨k1,k2,k3,k4⟩:=hk
      simp only at k1 k2 k3 k4⊢
      subst k3
      have hkl:(dI (s*n)).length<=(dI n).length+1:=Wi (ZT.2 (Nat.lt_of_le_of_lt k4 (ZT.1 (Wl _)))) hRl2
      have hmi:((dI R).length<=1099511627776/\(dI (s*n)).length<=1099511627776)/\s*n<=R:=⟨⟨by omega,by omega⟩,k4⟩
      have hpt:=hs.part k4 hn0
      have htk:=hs.take k4 hn0
      have hsn:1<=s*n:=Nat.mul_pos k1 hn0
      repeat(refine wkB ?_;intros)
      (refine ZH (.v [0,1,2,3,5,6,7,9] (.e2 4 (.e2 8 (.v [10] (.e1 11 (.v [12] (.e1 13 (.fin))))) 11 (.e1 8 (.v [10,12] (.e1 13 (.fin))))) 8 (.v [10] (.e1 4 (.e1 11 (.v [12] (.e1 13 (.fin)))))))) ([]) (h:=?_);refine wkX ?_)
      (repeat(refine wkH ?_))
      repeat' (first|(with_reducible refine And.intro ?_ ?_)|(with_reducible exact True.intro)|(refine wkT ?_;intros)|(refine tC rfl rfl ?_ ?_;focus(exact hmi))|(refine uC rfl rfl ?_ ?_;focus(exact hmi))|(refine eN rfl rfl ?_ ?_;(focus(exact hmi));intro _;(try simp only[Wf,Wg,Wh]))|fail)
      all_goals
       refine eR rfl ?_ ?_
       ·show((j:Nat):Int).toNat<Q.length
        omega
       repeat(refine wkT ?_;intros)
       simp only[Int.toNat_natCast]
       rename_i f3
       repeat(refine wkB ?_;intros)
       exact Zg ⟨_,_,f3⟩ htk sbB suB (by show R-s*n<R;omega)
    ·have hor:R<n\/255<=gi Q (j:Int):=by
      by_cases c1:R<n
      ·exact .inl c1
      ·refine .inr ?_
       by_cases c2:gi Q (j:Int)<255
       ·have:=hz.2 ⟨by omega,c2⟩
        rw[this] at h
        cases h
       ·omega
     have hfin:=hs.fin hor hn0
     repeat(first|(refine wkB ?_;intros)|(refine wnM ?_ ?_;(focus(exact⟨by omega,by omega⟩));intros))
     exact Zg ⟨j,Q,R,f⟩ hfin sbB suB (Nat.lt_succ_self _)
instance ZuO (w0:World)(L:List Blk)(v1 v2:Value)(m n:Nat)[h1:LstC w0 L v1 Int (eI .i64) (dI m)][h2:LstC w0 L v2 Int (eI .i64) (dI n)]:SpecR prog w0 L 168 [v1,v2] (DvR m n) (fun s=> .tuple #[vF s.q,s.rv v1]) (fun s=>mF 3 s.q++s.rm) (((dI m).length<=1073741824/\(dI n).length<=1073741824)/\0<n):=⟨fun hl w hw=>Zis v1 v2 m n w (h1.out w hw) (h2.out w hw) hl⟩
end
end Go.Vt
