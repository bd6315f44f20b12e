/- For any up to 12 units whose ends have up to 20 bytes, and for any decoded moving label (up to 8 stretches), Check returns OK or the first error. Conditions: none. (part 18 of 28.) Conditions: those that each statement names. -/
import Derived.Test.YtcgkgdgpdpihmaaGreatDoorProg
import Derived.Test.YtcgkgdgpdpihmaaGreatDoorKC10
import Derived.Test.YtcgkgdgpdpihmaaGreatDoorKC17
set_option linter.unusedSimpArgs false
set_option linter.unusedVariables false
set_option maxHeartbeats 2000000
set_option maxRecDepth 100000
namespace Go.Vt
open Go.RowKit Go.Proofs
open Go.Proofs.Tryz (prog)
section
theorem Zmr {s m e p:Nat}(hs:s<=m)(he:m<=e)(h:s=m\/m=e):rtI s m e p=p:=by
 unfold rtI
 split
 ·rfl
 ·split <;> omega
abbrev SmR (xs:List UL)(a e:Nat):Type:={ys:List UL // Sg xs ys a e/\OdU ys a e}
structure SmIn (xs:List UL)(n a m e:Nat):Prop where
 l:xs.length=n
 nb:n<=1048576
 am:a<m
 me:m<e
 en:e<=n
 ok:∀u∈xs,IvOk BQ u.In
 o1:OdU xs a m
 o2:OdU xs m e
set_option maxHeartbeats 16000000 in
theorem ZoP :∀(N:Nat)(w0 w:World)(L1:List Blk)(b c n:Nat)(xs:List UL)(sp:List Value)(T:TypeId)(A M B:Nat),B-A<=N->SmIn xs n A M B->Own w0 (⟨b,row rU xs sp,T⟩::L1) w->
  Calls prog 221 [.slice (some ⟨b,0,none⟩) n c, .int .i64 (A:Nat), .int .i64 (M:Nat), .int .i64 (B:Nat),vFn 162].toArray w (RetX w0 (SmR xs A B) (fun _=> .tuple #[]) (fun ys=>⟨b,row rU ys.1 sp,T⟩::L1)):=by
 intro N
 induction N with
 |zero=>intro w0 w L1 b c n xs sp T A M B h1 h2;have:=h2.am;have:=h2.me;omega
 |succ N ih=>
 intro w0 w L1 b c n xs sp T A M B hN hI hw
 have hsy:∀(w0:World)(L L1:List Blk)(b c n:Nat)(xs:List UL)(sp:List Value)(T:TypeId)(i j k:Int) [h:DelC b L (row rU xs sp) T L1],SpecX prog w0 L 221 [.slice (some ⟨b,0,none⟩) n c, .int .i64 i, .int .i64 j, .int .i64 k,vFn 162] (SmR xs i.toNat k.toNat) (fun _=> .tuple #[]) (fun ys=>⟨b,row rU ys.1 sp,T⟩::L1) (k.toNat-i.toNat<=N/\(0<=i/\0<=j/\0<=k)/\SmIn xs n i.toNat j.toNat k.toNat):=fun w0 L L1 b c n xs sp T i j k h=>⟨fun hp w hw=>by
  obtain⟨h1,h2,h3⟩:=hp
  have:=ih w0 w L1 b c n xs sp T i.toNat j.toNat k.toNat h1 h3 (hw.perm h.out)
  rwa [show((i.toNat:Nat):Int)=i by omega,show((j.toNat:Nat):Int)=j by omega,show((k.toNat:Nat):Int)=k by omega] at this⟩
 have hn:=hI.l
 have hl:=hI.nb
 have ham:=hI.am
 have hme:=hI.me
 have hen:=hI.en
 have hok:=hI.ok
 have ho1:=hI.o1
 have ho2:=hI.o2
 refine Zaj Tryz.func221 rfl Tryz.ntmps221 rfl hw ?_
 repeat(refine wkB ?_;intros)
 by_cases c1:M=A+1
 ·simp only[Wc (show(M:Int)-(A:Int)=1 by omega)]
  repeat(refine wkB ?_;intros)
  refine Zad (S:={i:Nat // BsS (fun q=>leS (gi xs (q:Int)) (gi xs (A:Int))) (fun q=>leS (gi xs (A:Int)) (gi xs (q:Int))) M B i i}) (fun _=>True) (fun i=>[(0, .slice (some ⟨b,0,none⟩) n c),(1, .int .i64 (A:Nat)),(10, .int .i64 (i.1:Nat))]) (fun _=>⟨b,row rU xs sp,T⟩::L1) ?_ (fun i _=>?_)
  ·refine Zq (S:=Nat×Nat) (fun s=>BsS (fun q=>leS (gi xs (q:Int)) (gi xs (A:Int))) (fun q=>leS (gi xs (A:Int)) (gi xs (q:Int))) M B s.1 s.2) (fun s=>[(0, .slice (some ⟨b,0,none⟩) n c),(1, .int .i64 (A:Nat)),(4,vFn 162),(10, .int .i64 (s.1:Nat)),(11, .int .i64 (s.2:Nat))]) (fun _=>⟨b,row rU xs sp,T⟩::L1) (fun s=>s.2-s.1) (M,B) ⟨Wl _,Nat.le_of_lt hme,Wl _, .inl rfl, .inl rfl⟩ sbB slB (fun s hs=>?_)
   obtain⟨i,j⟩:=s
   dsimp only at hs⊢
   have g1:=hs.a
   have g2:=hs.b
   have g3:=hs.c
   repeat(refine wkB ?_;intros)
   refine Zk rfl (fun h=>?_) (fun h=>?_)
   ·have hlt:i<j:=by have:=Wa h;omega
    repeat(refine wkB ?_;intros)
    refine jq (ZaI rfl rfl (by decide)) rfl rfl ?_
    have hup:=hs.up hlt
    have hdn:=hs.dn hlt
    obtain⟨m,hm⟩:∃m,m=(i+j) / 2:=⟨_,rfl⟩
    have em:((i:Int)+(j:Int)) / 2 ^ (1:Int).toNat=(m:Int):=by
     rw[show(2:Int) ^ (1:Int).toNat=2 from rfl]
     omega
    rw[<-hm] at hup hdn
    simp only[em]
    have hml:i<=m/\m<j:=by omega
    have q1:IvOk BQ (gi xs (m:Int)).In/\IvOk BQ (gi xs (A:Int)).In:=⟨Zcp hok (by omega),Zcp hok (by omega)⟩
    repeat(refine wkB ?_;intros)
    (refine jD 11 11 (h:=?_);(repeat(first|refine wkH ?_|(refine tC rfl rfl ?_ ?_;focus(exact q1))));refine Zo ?_;(repeat(refine Z0 ?_;intro _));refine Zs ?_)
    repeat(refine wkB ?_;intros)
    by_cases hc:cmpU (gi xs (m:Int)) (gi xs (A:Int))<0
    ·simp only[Wc hc]
     repeat(first|(refine wkB ?_;intros)|(refine wnM ?_ ?_;(focus(exact⟨by omega,by omega⟩));intros))
     exact Zg (m+1,j) (hup (Zeh hc)) sbB slB (by show j-(m+1)<j-i;omega)
    ·simp only[We hc]
     repeat(refine wkB ?_;intros)
     exact Zg (i,m) (hdn (Zeq hc)) sbB slB (by show m-i<j-i;omega)
   ·have hge:i=j:=by have:=Wb h;omega
    subst hge
    repeat(refine wkB ?_;intros)
    exact Zj ⟨i,hs⟩ trivial sbB slB
  obtain⟨i,hi⟩:=i
  dsimp only
  have g1:=hi.a
  have g3:=hi.c
  repeat(refine wkB ?_;intros)
  refine Zad (S:=Unit) (fun _=>True) (fun _=>[]) (fun _=>⟨b,row rU (shU xs A (i-1-A)) sp,T⟩::L1) ?_ (fun _ _=>?_)
  ·refine Zq (S:=Nat) (fun t=>A+t<=i-1) (fun t=>[(0, .slice (some ⟨b,0,none⟩) n c),(10, .int .i64 (i:Nat)),(13, .int .i64 ((A+t:Nat):Int))]) (fun t=>⟨b,row rU (shU xs A t) sp,T⟩::L1) (fun t=>i-(A+t)) 0 (by omega) sbB slB (fun t ht=>?_)
   have hsl:=Zex xs A t
   have e1:((A+t:Nat):Int)+1=((A+t+1:Nat):Int):=by omega
   repeat(refine wkB ?_;intros)
   refine Zk rfl (fun h=>?_) (fun h=>?_)
   ·have hlt:A+t<i-1:=by have:=Wa h;omega
    have hnx:(((shU xs A t).set (A+t) (gi (shU xs A t) ((A+t+1:Nat):Int))).set (A+t+1) (gi (shU xs A t) ((A+t:Nat):Int)))=shU xs A (t+1):=rfl
    generalize shU xs A t=ys at*
    repeat(refine wkB ?_;intros)
    (refine Zfh [(true,[0,1,2,3,4,5,6,7,8]),(false,[9]),(true,[10,11,12]),(false,[13]),(true,[14])] [15,16,17] (h:=?_);refine wkS ?_)
    (repeat(refine wkH ?_))
    simp only[e1]
    refine Zo ?_
    refine eR rfl ?_ ?_
    ·omega
    refine uS rfl rfl ?_ ?_
    ·omega
    refine eR rfl ?_ ?_
    ·rw[List.length_set];omega
    refine Za0 ?_
    simp only[Int.toNat_natCast]
    rw[hnx]
    repeat(first|(refine wkB ?_;intros)|(refine wnM ?_ ?_;(focus(exact⟨by omega,by omega⟩));intros))
    simp only[e1]
    exact Zg (t+1) (by omega) sbB slB (by omega)
   ·have hge:t=i-1-A:=by have:=Wb h;omega
    subst hge
    repeat(refine wkB ?_;intros)
    exact Zj () trivial sbB slB
  ·repeat(refine wkB ?_;intros)
   refine Zki rfl (fun w hw=>⟨⟨shU xs A (i-1-A),Zlw _ (Wl _) (by omega) (by omega), ?_⟩,rfl,hw⟩)
   exact Zsj Zfz (by omega) (by rw[<-c1];exact ho2) ⟨by omega,by omega⟩ (by rw[<-c1];exact hi.d) hi.e
 simp only[We (show¬(M:Int)-(A:Int)=1 by omega)]
 repeat(refine wkB ?_;intros)
 by_cases c2:B=M+1
 ·simp only[Wc (show(B:Int)-(M:Int)=1 by omega)]
  repeat(refine wkB ?_;intros)
  refine Zad (S:={i:Nat // BsS (fun q=>leS (gi xs (q:Int)) (gi xs (M:Int))) (fun q=>leS (gi xs (M:Int)) (gi xs (q:Int))) A M i i}) (fun _=>True) (fun i=>[(0, .slice (some ⟨b,0,none⟩) n c),(2, .int .i64 (M:Nat)),(14, .int .i64 (i.1:Nat))]) (fun _=>⟨b,row rU xs sp,T⟩::L1) ?_ (fun i _=>?_)
  ·refine Zq (S:=Nat×Nat) (fun s=>BsS (fun q=>leS (gi xs (q:Int)) (gi xs (M:Int))) (fun q=>leS (gi xs (M:Int)) (gi xs (q:Int))) A M s.1 s.2) (fun s=>[(0, .slice (some ⟨b,0,none⟩) n c),(2, .int .i64 (M:Nat)),(4,vFn 162),(14, .int .i64 (s.1:Nat)),(15, .int .i64 (s.2:Nat))]) (fun _=>⟨b,row rU xs sp,T⟩::L1) (fun s=>s.2-s.1) (A,M) ⟨Wl _,Nat.le_of_lt ham,Wl _, .inl rfl, .inl rfl⟩ sbB slB (fun s hs=>?_)
   obtain⟨i,j⟩:=s
   dsimp only at hs⊢
   have g1:=hs.a
   have g2:=hs.b
   have g3:=hs.c
   repeat(refine wkB ?_;intros)
   refine Zk rfl (fun h=>?_) (fun h=>?_)
   ·have hlt:i<j:=by have:=Wa h;omega
    repeat(refine wkB ?_;intros)
    refine jq (ZaI rfl rfl (by decide)) rfl rfl ?_
    have hup:=hs.up hlt
    have hdn:=hs.dn hlt
    obtain⟨m,hm⟩:∃m,m=(i+j) / 2:=⟨_,rfl⟩
    have em:((i:Int)+(j:Int)) / 2 ^ (1:Int).toNat=(m:Int):=by
     rw[show(2:Int) ^ (1:Int).toNat=2 from rfl]
     omega
    rw[<-hm] at hup hdn
    simp only[em]
    have hml:i<=m/\m<j:=by omega
    have q1:IvOk BQ (gi xs (M:Int)).In/\IvOk BQ (gi xs (m:Int)).In:=⟨Zcp hok (by omega),Zcp hok (by omega)⟩
    repeat(refine wkB ?_;intros)
    (refine jD 12 12 (h:=?_);(repeat(first|refine wkH ?_|(refine tC rfl rfl ?_ ?_;focus(exact q1))));refine Zo ?_;(repeat(refine Z0 ?_;intro _));refine Zs ?_)
    repeat(refine wkB ?_;intros)
    by_cases hc:cmpU (gi xs (M:Int)) (gi xs (m:Int))<0
    ·simp only[Wc hc,Bool.not_true]
     repeat(refine wkB ?_;intros)
     exact Zg (i,m) (hdn (Zeh hc)) sbB slB (by show m-i<j-i;omega)
    ·simp only[We hc,Bool.not_false]
     repeat(first|(refine wkB ?_;intros)|(refine wnM ?_ ?_;(focus(exact⟨by omega,by omega⟩));intros))
     exact Zg (m+1,j) (hup (Zeq hc)) sbB slB (by show j-(m+1)<j-i;omega)
   ·have hge:i=j:=by have:=Wb h;omega
    subst hge
    repeat(refine wkB ?_;intros)
    exact Zj ⟨i,hs⟩ trivial sbB slB
  obtain⟨i,hi⟩:=i
  dsimp only
  have g1:=hi.a
  have g3:=hi.c
  repeat(refine wkB ?_;intros)
  refine Zad (S:=Unit) (fun _=>True) (fun _=>[]) (fun _=>⟨b,row rU (shD xs M (M-i)) sp,T⟩::L1) ?_ (fun _ _=>?_)
  ·refine Zq (S:=Nat) (fun t=>t<=M-i) (fun t=>[(0, .slice (some ⟨b,0,none⟩) n c),(14, .int .i64 (i:Nat)),(17, .int .i64 ((M-t:Nat):Int))]) (fun t=>⟨b,row rU (shD xs M t) sp,T⟩::L1) (fun t=>M-t) 0 (by omega) sbB slB (fun t ht=>?_)
   have hsl:=ZeG xs M t
   repeat(refine wkB ?_;intros)
   refine Zk rfl (fun h=>?_) (fun h=>?_)
   ·have hlt:i<M-t:=by have:=Wa h;omega
    have e1:((M-t:Nat):Int)-1=((M-t-1:Nat):Int):=by omega
    have hnx:(((shD xs M t).set (M-t) (gi (shD xs M t) ((M-t-1:Nat):Int))).set (M-t-1) (gi (shD xs M t) ((M-t:Nat):Int)))=shD xs M (t+1):=rfl
    generalize shD xs M t=ys at*
    repeat(refine wkB ?_;intros)
    (refine Zfh [(true,[0,1,2,3,4,5,6,7,8]),(false,[9]),(true,[10,11,12]),(false,[13]),(true,[14])] [15,16,17] (h:=?_);refine wkS ?_)
    (repeat(refine wkH ?_))
    simp only[e1]
    refine Zo ?_
    refine eR rfl ?_ ?_
    ·omega
    refine uS rfl rfl ?_ ?_
    ·omega
    refine eR rfl ?_ ?_
    ·rw[List.length_set];omega
    refine Za0 ?_
    simp only[Int.toNat_natCast]
    rw[hnx]
    repeat(first|(refine wkB ?_;intros)|(refine wnM ?_ ?_;(focus(exact⟨by omega,by omega⟩));intros))
    simp only[e1]
    exact Zg (t+1) (by omega) sbB slB (by omega)
   ·have hge:t=M-i:=by have:=Wb h;omega
    subst hge
    repeat(refine wkB ?_;intros)
    exact Zj () trivial sbB slB
  ·repeat(refine wkB ?_;intros)
   subst c2
   refine Zki rfl (fun w hw=>⟨⟨shD xs M (M-i),ZmH _ (by omega) (by omega) (by omega), ?_⟩,rfl,hw⟩)
   exact Zsh Zfz (by omega) ho1 ⟨by omega,by omega⟩ hi.d hi.e
 simp only[We (show¬(B:Int)-(M:Int)=1 by omega)]
 repeat(refine wkB ?_;intros)
 refine jq (ZaI rfl rfl (by decide)) rfl rfl ?_
 obtain⟨mid,hmid⟩:∃m,m=(A+B) / 2:=⟨_,rfl⟩
 have em:((A:Int)+(B:Int)) / 2 ^ (1:Int).toNat=(mid:Int):=by
  rw[show(2:Int) ^ (1:Int).toNat=2 from rfl]
  omega
 simp only[em]
 have hmd:2*mid<=A+B/\A+B<=2*mid+1:=by omega
 clear em hmid
 repeat(refine wkB ?_;intros)
 refine ZY (S:={q:Nat×Nat // (M<=mid->q=(A,M))/\(mid<M->q=(mid+M-B,mid))}) (fun _=>True) (fun q=>[(0, .slice (some ⟨b,0,none⟩) n c),(1, .int .i64 (A:Nat)),(2, .int .i64 (M:Nat)),(3, .int .i64 (B:Nat)),(4,vFn 162),(18, .int .i64 (mid:Nat)),(19, .int .i64 ((mid+M:Nat):Int)),(20, .int .i64 (q.1.1:Nat)),(21, .int .i64 (q.1.2:Nat))]) (fun _=>⟨b,row rU xs sp,T⟩::L1) ?_ (fun q _=>?_)
 ·refine Zk rfl (fun h=>?_) (fun h=>?_)
  ·have hgt:mid<M:=by have:=Wa h;omega
   repeat(refine wkB ?_;intros)
   exact Zj ⟨(mid+M-B,mid),fun h=>by omega,fun _=>rfl⟩ trivial (by dsimp only;exact sbB) slB
  ·have hgt:M<=mid:=by have:=Wb h;omega
   repeat(refine wkB ?_;intros)
   exact Zj ⟨(A,M),fun _=>rfl,fun h=>by omega⟩ trivial (by dsimp only;exact sbB) slB
 obtain⟨⟨s0,r0⟩,hq⟩:=q
 dsimp only at hq⊢
 have hb:A<=s0/\s0<=r0/\r0<=M/\r0<=mid/\mid+M<=B+s0:=by
  rcases Nat.lt_or_ge mid M with h|h
  ·have:=hq.2 h;injection this;omega
  ·have:=hq.1 h;injection this;omega
 have hs0:s0=A\/mid+M-s0=B:=by
  rcases Nat.lt_or_ge mid M with h|h
  ·have:=hq.2 h;injection this;omega
  ·have:=hq.1 h;injection this;omega
 have hr0:r0=M\/mid+M-r0=M:=by
  rcases Nat.lt_or_ge mid M with h|h
  ·have:=hq.2 h;injection this;omega
  ·have:=hq.1 h;injection this;omega
 have hpr:1<=mid:=by omega
 clear hq
 repeat(refine wkB ?_;intros)
 refine Zad (S:={s:Nat // SmS leS xs (mid+M) s0 r0 s s}) (fun _=>True) (fun s=>[(0, .slice (some ⟨b,0,none⟩) n c),(1, .int .i64 (A:Nat)),(2, .int .i64 (M:Nat)),(3, .int .i64 (B:Nat)),(4,vFn 162),(18, .int .i64 (mid:Nat)),(19, .int .i64 ((mid+M:Nat):Int)),(20, .int .i64 (s.1:Nat))]) (fun _=>⟨b,row rU xs sp,T⟩::L1) ?_ (fun s _=>?_)
 ·refine Zq (S:=Nat×Nat) (fun s=>SmS leS xs (mid+M) s0 r0 s.1 s.2) (fun s=>[(0, .slice (some ⟨b,0,none⟩) n c),(1, .int .i64 (A:Nat)),(2, .int .i64 (M:Nat)),(3, .int .i64 (B:Nat)),(4,vFn 162),(18, .int .i64 (mid:Nat)),(19, .int .i64 ((mid+M:Nat):Int)),(22, .int .i64 ((mid+M-1:Nat):Int)),(20, .int .i64 (s.1:Nat)),(21, .int .i64 (s.2:Nat))]) (fun _=>⟨b,row rU xs sp,T⟩::L1) (fun s=>s.2-s.1) (s0,r0) ⟨Wl _,hb.2.1,Wl _, .inl rfl, .inl rfl⟩ sbB slB (fun s hs=>?_)
  obtain⟨s,r⟩:=s
  dsimp only at hs⊢
  have g1:=hs.a
  have g2:=hs.b
  have g3:=hs.c
  repeat(refine wkB ?_;intros)
  refine Zk rfl (fun h=>?_) (fun h=>?_)
  ·have hlt:s<r:=by have:=Wa h;omega
   repeat(refine wkB ?_;intros)
   refine jq (ZaI rfl rfl (by decide)) rfl rfl ?_
   have hup:=hs.up hlt (by omega)
   have hdn:=hs.dn hlt
   obtain⟨m,hm⟩:∃m,m=(s+r) / 2:=⟨_,rfl⟩
   have em:((s:Int)+(r:Int)) / 2 ^ (1:Int).toNat=(m:Int):=by
    rw[show(2:Int) ^ (1:Int).toNat=2 from rfl]
    omega
   rw[<-hm] at hup hdn
   simp only[em]
   have hml:s<=m/\m<r:=by omega
   have e1:((mid+M-1:Nat):Int)-(m:Int)=((mid+M-1-m:Nat):Int):=by omega
   have q1:IvOk BQ (gi xs ((mid+M-1-m:Nat):Int)).In/\IvOk BQ (gi xs (m:Int)).In:=⟨Zcp hok (by omega),Zcp hok (by omega)⟩
   repeat(refine wkB ?_;intros)
   refine jD 14 14 (h:=?_)
   (repeat(refine wkH ?_))
   simp only[e1]
   (repeat(first|refine wkH ?_|(refine tC rfl rfl ?_ ?_;focus(exact q1))))
   refine Zo ?_
   refine Zs ?_
   repeat(refine wkB ?_;intros)
   by_cases hc:cmpU (gi xs ((mid+M-1-m:Nat):Int)) (gi xs (m:Int))<0
   ·simp only[Wc hc,Bool.not_true]
    repeat(refine wkB ?_;intros)
    exact Zg (s,m) (hdn (Zeh hc)) sbB slB (by show m-s<r-s;omega)
   ·simp only[We hc,Bool.not_false]
    repeat(first|(refine wkB ?_;intros)|(refine wnM ?_ ?_;(focus(exact⟨by omega,by omega⟩));intros))
    exact Zg (m+1,r) (hup (Zeq hc)) sbB slB (by show r-(m+1)<r-s;omega)
  ·have hge:s=r:=by have:=Wb h;omega
   subst hge
   repeat(refine wkB ?_;intros)
   exact Zj ⟨s,hs⟩ trivial sbB slB
 obtain⟨s,hs⟩:=s
 dsimp only
 have g1:=hs.a
 have g3:=hs.c
 obtain⟨e,he⟩:∃e,e=mid+M-s:=⟨_,rfl⟩
 have he1:((mid+M:Nat):Int)-(s:Int)=(e:Int):=by omega
 have hsm:s<=M/\s<=mid:=by omega
 have hem:M<=e/\mid<=e/\e<=B:=by omega
 have hse:s+e=mid+M:=by omega
 have hc1:s=A\/e=B\/leS (gi xs ((s-1:Nat):Int)) (gi xs (e:Int)):=by
  rcases hs.d with h|h
  ·rcases hs0 with h2|h2
   ·exact .inl (by omega)
   ·exact .inr (.inl (by omega))
  ·rw[he];exact .inr (.inr h)
 have hc2:s=M\/e=M\/leS (gi xs ((e-1:Nat):Int)) (gi xs (s:Int)):=by
  rcases hs.e with h|h
  ·rcases hr0 with h2|h2
   ·exact .inl (by omega)
   ·exact .inr (.inl (by omega))
  ·rw[show e-1=mid+M-1-s by omega];exact .inr (.inr h)
 repeat(refine wkB ?_;intros)
 simp only[he1]
 refine Zho (S:={zs:List UL // Sg xs zs A B/\∀p:Nat,gi zs (p:Int)=gi xs ((rtI s M e p:Nat):Int)}) (fun _=>True) (fun _=>[(0, .slice (some ⟨b,0,none⟩) n c),(1, .int .i64 (A:Nat)),(2, .int .i64 (M:Nat)),(3, .int .i64 (B:Nat)),(4,vFn 162),(18, .int .i64 (mid:Nat)),(20, .int .i64 (s:Nat)),(24, .int .i64 (e:Nat))]) (fun zs=>⟨b,row rU zs.1 sp,T⟩::L1) ?_ (fun zs _=>?_)
 ·by_cases d1:s<M
  ·simp only[Wc (show(s:Int)<(M:Int) by omega)]
   repeat(refine wkB ?_;intros)
   by_cases d2:M<e
   ·simp only[Wc (show(M:Int)<(e:Int) by omega)]
    repeat(refine wkB ?_;intros)
    refine sZ rfl rfl ?_ ?_
    ·exact⟨⟨hn,hl⟩,by omega,by omega,by omega,by omega⟩
    intro zs
    obtain⟨zs,hz⟩:=zs
    simp only[Int.toNat_natCast] at hz
    repeat(refine wkB ?_;intros)
    exact Zj ⟨zs,hz.sg.wid (by omega) (by omega),hz.eq⟩ trivial sbB slB
   ·simp only[We (show¬(M:Int)<(e:Int) by omega)]
    repeat(refine wkB ?_;intros)
    exact Zj ⟨xs,Sg.refl _ _ _,fun p=>by rw[Zmr (by omega) (by omega) (by omega)]⟩ trivial sbB slB
  ·simp only[We (show¬(s:Int)<(M:Int) by omega)]
   repeat(refine wkB ?_;intros)
   exact Zj ⟨xs,Sg.refl _ _ _,fun p=>by rw[Zmr (by omega) (by omega) (by omega)]⟩ trivial sbB slB
 obtain⟨zs,hz1,hz2⟩:=zs
 dsimp only
 have hP:=Zoi Zfz ho1 ho2 ⟨by omega,hsm.1⟩ ⟨hem.1,hem.2.2⟩ hse hc1 hc2 hz2
 have hzl:=hz1.len
 have hzo:=hz1.ok hok
 repeat(refine wkB ?_;intros)
 refine Zho (S:={ys:List UL // Sg zs ys A mid/\OdU ys A mid}) (fun _=>True) (fun _=>[(0, .slice (some ⟨b,0,none⟩) n c),(3, .int .i64 (B:Nat)),(4,vFn 162),(18, .int .i64 (mid:Nat)),(24, .int .i64 (e:Nat))]) (fun ys=>⟨b,row rU ys.1 sp,T⟩::L1) ?_ (fun ys _=>?_)
 ·by_cases d1:A<s
  ·simp only[Wc (show(A:Int)<(s:Int) by omega)]
   repeat(refine wkB ?_;intros)
   by_cases d2:s<mid
   ·simp only[Wc (show(s:Int)<(mid:Int) by omega)]
    repeat(refine wkB ?_;intros)
    refine sZ rfl rfl ?_ ?_
    ·simp only[Int.toNat_natCast]
     exact⟨by omega,⟨by omega,by omega,by omega⟩,⟨by omega,hl,d1,d2,by omega,hzo,hP.o1,hP.o2⟩⟩
    intro ys
    simp only[Int.toNat_natCast] at ys
    obtain⟨ys,hy⟩:=ys
    repeat(refine wkB ?_;intros)
    exact Zj ⟨ys,hy⟩ trivial sbB slB
   ·simp only[We (show¬(s:Int)<(mid:Int) by omega)]
    repeat(refine wkB ?_;intros)
    exact Zj ⟨zs,Sg.refl _ _ _,hP.o1.sub (Wl _) (by omega)⟩ trivial sbB slB
  ·simp only[We (show¬(A:Int)<(s:Int) by omega)]
   repeat(refine wkB ?_;intros)
   exact Zj ⟨zs,Sg.refl _ _ _,hP.o2.sub (by omega) (Wl _)⟩ trivial sbB slB
 obtain⟨ys,hy1,hy2⟩:=ys
 dsimp only
 have hyl:=hy1.len
 have hyo:=hy1.ok hzo
 have o3:OdU ys mid e:=hP.o3.out hy1 (.inr (Wl _))
 have o4:OdU ys e B:=hP.o4.out hy1 (.inr (by omega))
 have hmb:A<=mid/\mid<=B:=⟨by omega,by omega⟩
 repeat(refine wkB ?_;intros)
 by_cases d1:mid<e
 ·simp only[Wc (show(mid:Int)<(e:Int) by omega)]
  repeat(refine wkB ?_;intros)
  by_cases d2:e<B
  ·simp only[Wc (show(e:Int)<(B:Int) by omega)]
   repeat(refine wkB ?_;intros)
   refine sZ rfl rfl ?_ ?_
   ·simp only[Int.toNat_natCast]
    exact⟨by omega,⟨by omega,by omega,by omega⟩,⟨by omega,hl,d1,d2,hen,hyo,o3,o4⟩⟩
   intro us
   simp only[Int.toNat_natCast] at us
   obtain⟨us,hu1,hu2⟩:=us
   repeat(refine wkB ?_;intros)
   have hfin:=Zgb hP hmb hy1 hy2 hu1 hu2
   exact Zay rfl (fun w hw=>⟨⟨us,hz1.trans hfin.1 (Wl _) (Wl _),hfin.2⟩,rfl,hw⟩)
  ·simp only[We (show¬(e:Int)<(B:Int) by omega)]
   repeat(refine wkB ?_;intros)
   have hfin:=Zgb hP hmb hy1 hy2 (Sg.refl ys _ _) (o3.sub (Wl _) (by omega))
   exact Zay rfl (fun w hw=>⟨⟨ys,hz1.trans hfin.1 (Wl _) (Wl _),hfin.2⟩,rfl,hw⟩)
 ·simp only[We (show¬(mid:Int)<(e:Int) by omega)]
  repeat(refine wkB ?_;intros)
  have hfin:=Zgb hP hmb hy1 hy2 (Sg.refl ys _ _) (o4.sub (by omega) (Wl _))
  exact Zay rfl (fun w hw=>⟨⟨ys,hz1.trans hfin.1 (Wl _) (Wl _),hfin.2⟩,rfl,hw⟩)
instance ZAU (w0:World)(L L1:List Blk)(b c n:Nat)(xs:List UL)(sp:List Value)(T:TypeId)(i j k:Int)[h:DelC b L (row rU xs sp) T L1]:SpecX prog w0 L 221 [.slice (some ⟨b,0,none⟩) n c, .int .i64 i, .int .i64 j, .int .i64 k,vFn 162] (SmR xs i.toNat k.toNat) (fun _=> .tuple #[]) (fun ys=>⟨b,row rU ys.1 sp,T⟩::L1) ((0<=i/\0<=j/\0<=k)/\SmIn xs n i.toNat j.toNat k.toNat):=⟨fun hp w hw=>by
 obtain⟨h2,h3⟩:=hp
 have:=ZoP (k.toNat-i.toNat) w0 w L1 b c n xs sp T i.toNat j.toNat k.toNat (Wl _) h3 (hw.perm h.out)
 rwa [show((i.toNat:Nat):Int)=i by omega,show((j.toNat:Nat):Int)=j by omega,show((k.toNat:Nat):Int)=k by omega] at this⟩
end
section
theorem Zm7 (w0 w:World)(L1:List Blk)(b c n:Nat)(xs:List UL)(sp:List Value)(T:TypeId)(A B:Nat)(hn:xs.length=n)(hl:n<=1048576)(hA:A<=n)(hB:B<=n)(hok:∀u∈xs,IvOk BQ u.In)(hw:Own w0 (⟨b,row rU xs sp,T⟩::L1) w):
  Calls prog 220 [.slice (some ⟨b,0,none⟩) n c, .int .i64 (A:Nat), .int .i64 (B:Nat),vFn 162].toArray w (RetX w0 Unit (fun _=> .tuple #[]) (fun _=>⟨b,row rU (srA cmpU A xs (B-A-1)) sp,T⟩::L1)):=by
 refine Zaj Tryz.func220 rfl Tryz.ntmps220 rfl hw ?_
 repeat(refine wkB ?_;intros)
 refine Zq (S:=Nat) (fun m=>m<=B-A-1) (fun m=>[(0, .slice (some ⟨b,0,none⟩) n c),(1, .int .i64 (A:Nat)),(2, .int .i64 (B:Nat)),(3,vFn 162),(8, .int .i64 ((A+m+1:Nat):Int))]) (fun m=>⟨b,row rU (srA cmpU A xs m) sp,T⟩::L1) (fun m=>B-A-1-m) 0 (Wm _) (by(try dsimp only);exact sbB) slB (fun m hm=>?_)
 repeat(refine wkB ?_;intros)
 refine Zk rfl (fun h=>?_) (fun h=>?_)
 ·have hlt:A+m+1<B:=by have:=Wa h;omega
  have hsg:=Zfc cmpU (a:=A) (hi:=B) xs (by omega) m (by omega)
  have hsl:=hsg.len
  have hso:=hsg.ok hok
  have hnx:dwA cmpU A (srA cmpU A xs m) (m+1)=srA cmpU A xs (m+1):=rfl
  generalize srA cmpU A xs m=zs at*
  repeat(refine wkB ?_;intros)
  refine Zq (S:=Nat×List UL) (fun s=>dwA cmpU A s.2 s.1=srA cmpU A xs (m+1)/\s.2.length=n/\s.1<=m+1/\∀u∈s.2,IvOk BQ u.In) (fun s=>[(0, .slice (some ⟨b,0,none⟩) n c),(1, .int .i64 (A:Nat)),(2, .int .i64 (B:Nat)),(3,vFn 162),(8, .int .i64 ((A+m+1:Nat):Int)),(9, .int .i64 ((A+s.1:Nat):Int))]) (fun s=>⟨b,row rU s.2 sp,T⟩::L1) (fun s=>s.1) (m+1,zs)
   ⟨hnx,by show zs.length=n;omega,Wl _,hso⟩ (by(try dsimp only);exact sbB) slB (fun s hs=>?_)
  obtain⟨j,ys⟩:=s
  obtain⟨g1,g2,g3,g4⟩:=hs
  simp only at g1 g2 g3 g4⊢
  repeat(refine wkB ?_;intros)
  rcases j with _|j
  ·refine jD 17 17 (h:=?_)
   (repeat(refine wkH ?_))
   simp only[We (show¬(A:Int)<((A+0:Nat):Int) by omega)]
   (repeat(refine wkH ?_))
   refine Zo ?_
   refine Zs ?_
   repeat(first|(refine wkB ?_;intros)|(refine wnM ?_ ?_;(focus(exact⟨by omega,by omega⟩));intros))
   exact Zg (m+1) (by omega) (by(try dsimp only);exact sbB) (by rw[<-g1];exact Wj _) (by omega)
  ·have e1:((A+j+1:Nat):Int)-1=((A+j:Nat):Int):=by omega
   have e2:A+(j+1)=A+j+1:=rfl
   have o1:IvOk BQ (gi ys ((A+j:Nat):Int)).In:=Zcp g4 (by omega)
   have o2:IvOk BQ (gi ys ((A+j+1:Nat):Int)).In:=Zcp g4 (by omega)
   rw[dwA] at g1
   simp only[e2]
   refine jD 17 17 (h:=?_)
   (repeat(refine wkH ?_))
   simp only[Wc (show(A:Int)<((A+j+1:Nat):Int) by omega),e1]
   (repeat(refine wkH ?_))
   try simp only[e1]
   (repeat(first|refine wkH ?_|(refine tC rfl rfl ?_ ?_;focus(exact⟨o2,o1⟩))))
   refine Zo ?_
   refine Zs ?_
   repeat(refine wkB ?_;intros)
   by_cases hc:cmpU (gi ys ((A+j+1:Nat):Int)) (gi ys ((A+j:Nat):Int))<0
   ·rw[if_pos hc] at g1
    simp only[Wc hc]
    have hnx2:((ys.set (A+j+1) (gi ys ((A+j:Nat):Int))).set (A+j) (gi ys ((A+j+1:Nat):Int)))=swx ys (A+j+1) (A+j):=rfl
    repeat(refine wkB ?_;intros)
    (refine Zfh [(true,[0,1,2,3,4,5,6,7,8]),(false,[9]),(true,[10,11,12]),(false,[13]),(true,[14])] [15,16,17] (h:=?_);refine wkS ?_)
    (repeat(refine wkH ?_))
    simp only[e1]
    refine Zo ?_
    refine eR rfl ?_ ?_
    ·omega
    refine uS rfl rfl ?_ ?_
    ·omega
    refine eR rfl ?_ ?_
    ·rw[List.length_set];omega
    refine Za0 ?_
    simp only[Int.toNat_natCast]
    rw[hnx2]
    repeat(first|(refine wkB ?_;intros)|(refine wnM ?_ ?_;(focus(exact⟨by omega,by omega⟩));intros))
    simp only[e1]
    exact Zg (j,swx ys (A+j+1) (A+j)) ⟨g1,by rw[ZbM];exact g2,by omega,fun u hu=>g4 u ((Zhv (by omega) (by omega)).mem_iff.1 hu)⟩ sbB slB (by show j<j+1;omega)
   ·rw[if_neg hc] at g1
    simp only[We hc]
    repeat(first|(refine wkB ?_;intros)|(refine wnM ?_ ?_;(focus(exact⟨by omega,by omega⟩));intros))
    exact Zg (m+1) (by omega) (by(try dsimp only);exact sbB) (by rw[<-g1];exact Wj _) (by omega)
 ·have hge:m=B-A-1:=by have:=Wb h;omega
  subst hge
  repeat(refine wkB ?_;intros)
  exact Zay rfl (fun w hw=>⟨(),rfl,hw⟩)
instance ZAO (w0:World)(L L1:List Blk)(b c n:Nat)(xs:List UL)(sp:List Value)(T:TypeId)(i j:Int)[h:DelC b L (row rU xs sp) T L1]:SpecX prog w0 L 220 [.slice (some ⟨b,0,none⟩) n c, .int .i64 i, .int .i64 j,vFn 162] Unit (fun _=> .tuple #[]) (fun _=>⟨b,row rU (srA cmpU i.toNat xs (j.toNat-i.toNat-1)) sp,T⟩::L1) (((xs.length=n/\n<=1048576)/\(0<=i/\i<=n)/\0<=j/\j<=n)/\∀u∈xs,IvOk BQ u.In):=⟨fun hp w hw=>by
 obtain⟨⟨h1,h2,h3⟩,h4⟩:=hp
 have:=Zm7 w0 w L1 b c n xs sp T i.toNat j.toNat h1.1 h1.2 (by omega) (by omega) h4 (hw.perm h.out)
 rwa [show((i.toNat:Nat):Int)=i by omega,show((j.toNat:Nat):Int)=j by omega] at this⟩
theorem ZfQ {xs:List UL}{a e:Nat}(he:e<=xs.length)(ha:a<=e):Sg xs (srA cmpU a xs (e-a-1)) a e/\OdU (srA cmpU a xs (e-a-1)) a e:=by
 refine⟨?_,Zr6 Zfz (fun _ _=>Zeh) (fun _ _=>Zeq) xs he⟩
 rcases Nat.lt_or_ge a e with h|h
 ·exact Zfc cmpU xs he _ (by omega)
 ·rw[show e-a-1=0 by omega];exact Sg.refl _ _ _
set_option maxHeartbeats 8000000 in
theorem ZmY (w0 w:World)(L1:List Blk)(b c n:Nat)(xs:List UL)(sp:List Value)(T:TypeId)(hn:xs.length=n)(hl:n<=65536)(hok:∀u∈xs,IvOk BQ u.In)(hw:Own w0 (⟨b,row rU xs sp,T⟩::L1) w):
  Calls prog 198 [.slice (some ⟨b,0,none⟩) n c, .int .i64 (n:Nat),vFn 162].toArray w (RetX w0 (SmR xs 0 n) (fun _=> .tuple #[]) (fun ys=>⟨b,row rU ys.1 sp,T⟩::L1)):=by
 refine Zaj Tryz.func198 rfl Tryz.ntmps198 rfl hw ?_
 repeat(refine wkB ?_;intros)
 refine Zad (S:={q:Nat×List UL // (Sg xs q.2 0 n/\Bp leS q.2 20 n q.1)/\20*q.1<=n/\n<20*q.1+20}) (fun _=>True) (fun q=>[(0, .slice (some ⟨b,0,none⟩) n c),(1, .int .i64 (n:Nat)),(2,vFn 162),(6, .int .i64 20),(7, .int .i64 ((20*q.1.1:Nat):Int))]) (fun q=>⟨b,row rU q.1.2 sp,T⟩::L1) ?_ (fun q _=>?_)
 ·refine Zq (S:=Nat×List UL) (fun q=>(Sg xs q.2 0 n/\Bp leS q.2 20 n q.1)/\20*q.1<=n) (fun q=>[(0, .slice (some ⟨b,0,none⟩) n c),(1, .int .i64 (n:Nat)),(2,vFn 162),(6, .int .i64 20),(7, .int .i64 ((20*q.1:Nat):Int)),(8, .int .i64 ((20*q.1+20:Nat):Int))]) (fun q=>⟨b,row rU q.2 sp,T⟩::L1) (fun q=>n-20*q.1) (0,xs) ⟨⟨Sg.refl _ _ _,fun u hu=>by omega⟩,Wm _⟩ (by(try dsimp only);exact sbB) slB (fun q hq=>?_)
  obtain⟨t,ys⟩:=q
  obtain⟨⟨hs,hB⟩,ht⟩:=hq
  dsimp only at hs hB ht⊢
  have hyl:=hs.len
  have hyo:=hs.ok hok
  repeat(refine wkB ?_;intros)
  refine Zk rfl (fun h=>?_) (fun h=>?_)
  ·have hle:20*t+20<=n:=by have:=Wa h;omega
   have hA:=ZfQ (xs:=ys) (a:=20*t) (e:=20*t+20) (by omega) (by omega)
   have hB2:=hB.nextI hA.1 (hA.2.sub (Wl _) (Nat.min_le_left _ _))
   have hS2:=hs.trans hA.1 (Wm _) hle
   repeat(refine wkB ?_;intros)
   refine sZ rfl rfl ?_ ?_
   ·exact⟨⟨⟨by omega,by omega⟩,⟨by omega,by omega⟩,by omega,by omega⟩,hyo⟩
   intro _
   simp only[Int.toNat_natCast]
   generalize srA cmpU (20*t) ys (20*t+20-20*t-1)=zs at*
   repeat(first|(refine wkB ?_;intros)|(refine wnM ?_ ?_;(focus(exact⟨by omega,by omega⟩));intros))
   exact Zg (t+1,zs) ⟨⟨hS2,hB2⟩,by show 20*(t+1)<=n;omega⟩ (by(try dsimp only);exact sbB) slB (by show n-20*(t+1)<n-20*t;omega)
  ·have hgt:n<20*t+20:=by have:=Wb h;omega
   repeat(refine wkB ?_;intros)
   exact Zj ⟨(t,ys),⟨hs,hB⟩,ht,hgt⟩ trivial sbB slB
 obtain⟨⟨t,ys⟩,⟨hs,hB⟩,ht,hgt⟩:=q
 dsimp only at hs hB ht hgt⊢
 have hyl:=hs.len
 have hyo:=hs.ok hok
 have hA:=ZfQ (xs:=ys) (a:=20*t) (e:=n) (by omega) (by omega)
 have hB2:=(hB.nextI (hA.1.wid (Wl _) (by omega)) (hA.2.sub (Wl _) (Nat.min_le_right _ _))).all (by omega)
 have hS2:=hs.trans hA.1 (Wm _) (Wl _)
 repeat(refine wkB ?_;intros)
 refine sZ rfl rfl ?_ ?_
 ·exact⟨⟨⟨by omega,by omega⟩,⟨by omega,by omega⟩,by omega,by omega⟩,hyo⟩
 intro _
 simp only[Int.toNat_natCast]
 generalize srA cmpU (20*t) ys (n-20*t-1)=zs at*
 clear hA hB hs hyo hyl
 repeat(refine wkB ?_;intros)
 refine Zq (S:=Nat×List UL) (fun q=>(Sg xs q.2 0 n/\Bk leS q.2 q.1 n 0)/\20<=q.1) (fun q=>[(0, .slice (some ⟨b,0,none⟩) n c),(1, .int .i64 (n:Nat)),(2,vFn 162),(6, .int .i64 (q.1:Nat))]) (fun q=>⟨b,row rU q.2 sp,T⟩::L1) (fun q=>n-q.1) (20,zs) ⟨⟨hS2,hB2⟩,Wl _⟩ (by(try dsimp only);exact sbB) slB (fun q hq=>?_)
 obtain⟨s,us⟩:=q
 obtain⟨⟨hs,hB⟩,h20⟩:=hq
 dsimp only at hs hB h20⊢
 repeat(refine wkB ?_;intros)
 refine Zk rfl (fun h=>?_) (fun h=>?_)
 ·have hsn:s<n:=by have:=Wa h;omega
  have e2:2*(s:Int)=((2*s:Nat):Int):=by omega
  repeat(refine wkB ?_;intros)
  refine Zad (S:={q:Nat×List UL // (Sg us q.2 0 n/\Bp leS q.2 (2*s) n q.1/\Bk leS q.2 s n (2*q.1))/\2*s*q.1<=n/\n<2*s*q.1+2*s}) (fun _=>True) (fun q=>[(0, .slice (some ⟨b,0,none⟩) n c),(1, .int .i64 (n:Nat)),(2,vFn 162),(6, .int .i64 (s:Nat)),(7, .int .i64 ((2*s*q.1.1:Nat):Int))]) (fun q=>⟨b,row rU q.1.2 sp,T⟩::L1) ?_ (fun q _=>?_)
  ·refine Zq (S:=Nat×List UL) (fun q=>(Sg us q.2 0 n/\Bp leS q.2 (2*s) n q.1/\Bk leS q.2 s n (2*q.1))/\2*s*q.1<=n) (fun q=>[(0, .slice (some ⟨b,0,none⟩) n c),(1, .int .i64 (n:Nat)),(2,vFn 162),(6, .int .i64 (s:Nat)),(7, .int .i64 ((2*s*q.1:Nat):Int)),(8, .int .i64 ((2*s*q.1+2*s:Nat):Int))]) (fun q=>⟨b,row rU q.2 sp,T⟩::L1) (fun q=>n-2*s*q.1) (0,us) ⟨⟨Sg.refl _ _ _,fun u hu=>by omega,hB⟩,by simp⟩ (by simp only[Nat.mul_zero,Nat.zero_add,e2];exact sbB) slB (fun q hq=>?_)
   obtain⟨t,ys⟩:=q
   obtain⟨⟨hs1,hp1,hk1⟩,ht⟩:=hq
   dsimp only at hs1 hp1 hk1 ht⊢
   have hyl:=(hs.trans hs1 (Wm _) (Wl _)).len
   have hyo:=(hs.trans hs1 (Wm _) (Wl _)).ok hok
   have htw:=hk1.two
   have hnt:2*s*(t+1)=2*s*t+2*s:=by rw[Nat.mul_add,Nat.mul_one]
   have hpn:=fun(zs:List UL)=>hp1.next (ys:=zs) (by omega)
   have hkn:=fun(zs:List UL)=>hk1.next (ys:=zs) (by omega)
   obtain⟨a,ha⟩:∃a,a=2*s*t:=⟨_,rfl⟩
   simp only[<-ha] at ht htw hpn hkn hnt⊢
   repeat(refine wkB ?_;intros)
   refine Zk rfl (fun h=>?_) (fun h=>?_)
   ·have hle:a+2*s<=n:=by have:=Wa h;omega
    have q1:SmIn ys n a (a+s) (a+2*s):=⟨by omega,by omega,by omega,by omega,hle,hyo,htw.1.sub (Wl _) (by omega),htw.2.sub (Wl _) (by omega)⟩
    have e3:((a:Int)+(s:Int)).toNat=a+s:=by omega
    repeat(refine wkB ?_;intros)
    refine sZ rfl rfl ?_ ?_
    ·simp only[Int.toNat_natCast,e3]
     exact⟨⟨by omega,by omega,by omega⟩,q1⟩
    intro zs
    simp only[Int.toNat_natCast] at zs
    obtain⟨zs,hz1,hz2⟩:=zs
    have em:min (a+2*s) n=a+2*s:=by omega
    rw[em] at hpn hkn
    have hP2:=hpn zs hz1 hz2
    have hK2:=hkn zs hz1
    have hS2:=hs1.trans hz1 (Wm _) hle
    repeat(first|(refine wkB ?_;intros)|(refine wnM ?_ ?_;(focus(exact⟨by omega,by omega⟩));intros))
    exact Zg (t+1,zs) ⟨⟨hS2,hP2,hK2⟩,by show 2*s*(t+1)<=n;omega⟩ (by simp only[hnt];exact sbB) slB (by show n-2*s*(t+1)<n-2*s*t;omega)
   ·have hgt:n<a+2*s:=by have:=Wb h;omega
    repeat(refine wkB ?_;intros)
    exact Zj ⟨(t,ys),⟨hs1,hp1,hk1⟩,by show 2*s*t<=n;omega,by show n<2*s*t+2*s;omega⟩ trivial (by dsimp only;rw[<-ha];exact sbB) slB
  obtain⟨⟨t,ys⟩,⟨hs1,hp1,hk1⟩,ht,hgt⟩:=q
  dsimp only at hs1 hp1 hk1 ht hgt⊢
  have hyl:=(hs.trans hs1 (Wm _) (Wl _)).len
  have hyo:=(hs.trans hs1 (Wm _) (Wl _)).ok hok
  have htw:=hk1.two
  have hnt:2*s*(t+1)=2*s*t+2*s:=by rw[Nat.mul_add,Nat.mul_one]
  have hpn:=fun(zs:List UL)=>hp1.next (ys:=zs) (by omega)
  obtain⟨a,ha⟩:∃a,a=2*s*t:=⟨_,rfl⟩
  simp only[<-ha] at ht hgt htw hpn hnt⊢
  have em:min (a+2*s) n=n:=by omega
  rw[em] at hpn htw
  repeat(first|(refine wkB ?_;intros)|(refine wnM ?_ ?_;(focus(exact⟨by omega,by omega⟩));intros))
  by_cases c1:a+s<n
  ·have q1:SmIn ys n a (a+s) n:=⟨by omega,by omega,by omega,c1,Wl _,hyo,htw.1.sub (Wl _) (by omega),htw.2⟩
   have e3:((a:Int)+(s:Int)).toNat=a+s:=by omega
   simp only[Wc (show(a:Int)+(s:Int)<(n:Int) by omega)]
   repeat(refine wkB ?_;intros)
   refine sZ rfl rfl ?_ ?_
   ·simp only[Int.toNat_natCast,e3]
    exact⟨⟨by omega,by omega,by omega⟩,q1⟩
   intro zs
   simp only[Int.toNat_natCast] at zs
   obtain⟨zs,hz1,hz2⟩:=zs
   have hP2:=(hpn zs hz1 hz2).all (by omega)
   have hS2:=hs.trans (hs1.trans hz1 (Wm _) (Wl _)) (Wm _) (Wl _)
   repeat(first|(refine wkB ?_;intros)|(refine wnM ?_ ?_;(focus(exact⟨by omega,by omega⟩));intros))
   exact Zg (2*s,zs) ⟨⟨hS2,hP2⟩,by show 20<=2*s;omega⟩ (by(try dsimp only);exact sbB) slB (by show n-2*s<n-s;omega)
  ·simp only[We (show¬(a:Int)+(s:Int)<(n:Int) by omega)]
   have hP2:=(hpn ys (Sg.refl _ _ _) (htw.1.sub (Wl _) (by omega))).all (by omega)
   have hS2:=hs.trans hs1 (Wm _) (Wl _)
   repeat(first|(refine wkB ?_;intros)|(refine wnM ?_ ?_;(focus(exact⟨by omega,by omega⟩));intros))
   exact Zg (2*s,ys) ⟨⟨hS2,hP2⟩,by show 20<=2*s;omega⟩ (by(try dsimp only);exact sbB) slB (by show n-2*s<n-s;omega)
 ·have hge:n<=s:=by have:=Wb h;omega
  repeat(refine wkB ?_;intros)
  exact Zay rfl (fun w hw=>⟨⟨us,hs,hB.all hge⟩,rfl,hw⟩)
end
section
theorem ZdY {α:Type}{le:α->α->Prop}:∀{l l':List α},(∀x∈l,∀y∈l,le x y->le y x->x=y)->l.Perm l'->l.Pairwise le->l'.Pairwise le->l=l'
 |[],l',_,hp,_,_=>(List.nil_perm.1 hp).symm
 |a::l,[],_,hp,_,_=>absurd (List.perm_nil.1 hp) (by simp)
 |a::l,b::l',anti,hp,h,h'=>by
  have e:a=b:=by
   have ha:a∈b::l':=hp.subset (.head _)
   have hb:b∈a::l:=hp.symm.subset (.head _)
   rcases List.mem_cons.1 ha with h1|h1
   ·exact h1
   ·rcases List.mem_cons.1 hb with h2|h2
    ·exact h2.symm
    ·exact anti _ (.head _) _ hb ((List.pairwise_cons.1 h).1 _ h2) ((List.pairwise_cons.1 h').1 _ h1)
  subst e
  rw[ZdY (fun x hx y hy=>anti x (.tail _ hx) y (.tail _ hy)) (List.Perm.cons_inv hp) (List.pairwise_cons.1 h).2 (List.pairwise_cons.1 h').2]
theorem Zpi :∀(j:Nat)(xs:List UL),dwn xs j=dwA cmpU 0 xs j
 |0,_=>rfl
 |j+1,xs=>by
  rw[dwn,dwA,Nat.zero_add,Zpi j]
  rfl
theorem Zpx (xs:List UL):∀i,srt xs i=srA cmpU 0 xs i
 |0=>rfl
 |i+1=>by rw[srt,srA,Zpi,Zpx xs i]
theorem OdU.pw {xs:List UL}{n:Nat}(h:OdU xs 0 n)(hn:xs.length=n):xs.Pairwise leS:=List.pairwise_iff_getElem.2 fun i j hi hj hij=>by
 have:=h i j (Wm _) hij (by omega)
 rwa [Zw hi,Zw hj] at this
def NoTie (xs:List UL):Prop:=∀x∈xs,∀y∈xs,leS x y->leS y x->x=y
theorem Zri {xs ys:List UL}{n:Nat}(hn:xs.length=n)(hT:NoTie xs)(h:Sg xs ys 0 n/\OdU ys 0 n):ys=srt xs (xs.length-1):=by
 have h1:=ZfQ (xs:=xs) (a:=0) (e:=n) (by omega) (Wm _)
 rw[show n-0-1=xs.length-1 by omega,<-Zpx] at h1
 refine ZdY (fun x hx y hy=>hT x (h.1.perm.mem_iff.1 hx) y (h.1.perm.mem_iff.1 hy)) (h.1.perm.trans h1.1.perm.symm) (h.2.pw (by rw[h.1.len,hn])) (h1.2.pw (by rw[h1.1.len,hn]))
instance ZAR (w0:World)(L L1:List Blk)(b c n:Nat)(xs:List UL)(sp:List Value)(T:TypeId)[h:DelC b L (row rU xs sp) T L1]:SpecX prog w0 L 198 [.slice (some ⟨b,0,none⟩) n c, .int .i64 (n:Nat),vFn 162] (SmR xs 0 n) (fun _=> .tuple #[]) (fun ys=>⟨b,row rU ys.1 sp,T⟩::L1) (xs.length=n/\n<=65536/\∀u∈xs,IvOk BQ u.In):=⟨fun hp w hw=>ZmY w0 w L1 b c n xs sp T hp.1 hp.2.1 hp.2.2 (hw.perm h.out)⟩
theorem ZkH (w0 w:World)(L1:List Blk)(b c n:Nat)(xs:List UL)(sp:List Value)(T:TypeId)(hn:xs.length=n)(hl:n<=65536)(hok:∀u∈xs,IvOk BQ u.In)(hw:Own w0 (⟨b,row rU xs sp,T⟩::L1) w):
  Calls prog 161 [.slice (some ⟨b,0,none⟩) n c,vFn 162].toArray w (RetX w0 (SmR xs 0 n) (fun _=> .tuple #[]) (fun ys=>⟨b,row rU ys.1 sp,T⟩::L1)):=by
 refine Zaj Tryz.func161 rfl Tryz.ntmps161 rfl hw ?_
 repeat(refine wkB ?_;intros)
 refine sZ rfl rfl ?_ ?_
 ·exact⟨hn,hl,hok⟩
 intro s'
 repeat(refine wkB ?_;intros)
 exact Zay rfl (fun w hw=>⟨s',rfl,hw⟩)
abbrev NrP (xs:List UL):Prop:=xs.length<=19\/(xs.length<=65536/\NoTie xs)
theorem NrP.n {xs:List UL}(h:NrP xs):xs.length<=65536:=h.elim (fun h=>by omega) (·.1)
structure StP (xs:List UL):Prop where
 l:NrP xs
 o:∀u∈xs,IvOk BQ u.In
theorem Zk6 (w0 w:World)(L L1:List Blk)(xs:List UL)(s:SlS rU 21 xs)(T:TypeId)[hd:OwnS T s L L1](hp:StP xs)(hw:Own w0 L w):
  Calls prog 161 [vSl s,vFn 162].toArray w (RetX w0 (SrtS xs s) (fun _=> .tuple #[]) (fun s'=>mS T s'.1++L1)):=by
 by_cases h19:xs.length<=19
 ·exact Zff w0 w L L1 xs s T h19 hp.o hw
 ·obtain⟨hl,hT⟩:=hp.l.resolve_left h19
  have hw1:=hw.perm hd.out
  rcases s.cases T with⟨h0, -, -⟩|⟨b,c,sp,h1,hv,hm,hne⟩
  ·rw[h0] at h19;simp at h19
  ·suffices h:Calls prog 161 [.slice (some ⟨b,0,none⟩) xs.length c,vFn 162].toArray w (RetX w0 (SrtS xs s) (fun _=> .tuple #[]) (fun s'=>mS T s'.1++L1)) by
    rw[<-hv] at h
    exact h
   rw[hm] at hw1
   have hsl:=ZcA xs (xs.length-1)
   refine(ZkH w0 w L1 b c xs.length xs sp T rfl hl hp.o hw1).mono fun e w' ⟨ys,he,hw'⟩=>?_
   obtain⟨ys,hy⟩:=ys
   have e:=Zri rfl hT hy
   subst e
   exact⟨⟨SlS.at_ b c sp (by rw[hsl];exact h1) (fun h0=>hne (List.length_eq_zero_iff.1 (by rw[h0,Wx] at hsl;exact hsl.symm))),by rw[hv];show Value.slice _ (srt xs (xs.length-1)).length c=_;rw[hsl]⟩,he,hw'⟩
instance ZyY (w0:World)(L L1:List Blk)(xs:List UL)(s:SlS rU 21 xs)(T:TypeId)[hd:OwnS T s L L1]:SpecX prog w0 L 161 [vSl s,vFn 162] (SrtS xs s) (fun _=> .tuple #[]) (fun s'=>mS T s'.1++L1) (StP xs):=⟨fun hp w hw=>Zk6 w0 w L L1 xs s T hp hw⟩
end
section
class LstN (w0:World)(L:List Blk)(v:Value)(α:outParam Type)(enc:outParam (α->Array Value))(xs:outParam (List α)):Prop where
 out:∀w,Own w0 L w->ArgS w v enc xs
 nil:xs=[]->v= .slice none 0 0
instance lstNOwn {α:Type}{enc:α->Array Value}{k:Nat}{xs:List α}[he:EncC enc k](w0:World)(L L1:List Blk)(T:TypeId)(s:SlS enc k xs)[h:OwnS T s L L1]:LstN w0 L (vSl s) α enc xs:=⟨(lstOwn w0 L L1 T s).out,fun h0=>by
 rcases s.cases T with⟨-,hv, -⟩|⟨b,c,sp,h1,hv,hm,hne⟩
 ·exact hv
 ·exact absurd h0 hne⟩
instance ZyE :BsC prog 110 0 [] (row rU [] []) 145:=⟨fun w=>by kernel_rfl⟩
theorem Zkv (v:Value)(us:List UL)(w:World)(hv:ArgS w v rU us)(hn:us=[]->v= .slice none 0 0)(hl:us.length<=1048576):
  Calls prog 160 [v].toArray w (RetM (SlS rU 21 us) (fun s=>vSl s) (fun s=>mS 145 s) w):=by
 by_cases h0:us=[]
 ·obtain rfl:=hn h0
  subst h0
  refine Zb Tryz.func160 rfl Tryz.ntmps160 rfl ?_
  repeat(refine wkB ?_;intros)
  exact ZB rfl rfl (fun w hw=>⟨SlS.no,rfl,hw⟩)
 ·obtain⟨bw,ow,cw,rfl,hcw,hrow⟩:=hv.blk (k:=20) h0 []
  have hrow':∀L,RowC w L bw ow UL rU us:=fun L=>⟨fun w' hw'=>hrow.out w' (hw'.sub (Wk _))⟩
  refine Zb Tryz.func160 rfl Tryz.ntmps160 rfl ?_
  repeat(refine wkB ?_;intros)
  refine sG rfl rfl ?_ h0 ?_ ?_ ?_ ?_ ?_
  ·rfl
  ·rfl
  ·rfl
  ·decide
  ·exact⟨by omega,by omega⟩
  intro s'
  repeat(refine wkB ?_;intros)
  exact ZB rfl rfl (fun w hw=>⟨s',rfl,hw.sub suB⟩)
instance Zyj (w0:World)(L:List Blk)(v:Value)(us:List UL)[h:LstN w0 L v UL rU us]:SpecR prog w0 L 160 [v] (SlS rU 21 us) (fun s=>vSl s) (fun s=>mS 145 s) (us.length<=1048576):=⟨fun hl w hw=>Zkv v us w (h.out w hw) h.nil hl⟩
instance Zpw :CallC prog 161:=⟨by kernel_rfl⟩
noncomputable def sor (us:List UL):List UL:=srt us (us.length-1)
theorem Zi2 (v:Value)(us:List UL)(w:World)(hv:ArgS w v rU us)(hn:us=[]->v= .slice none 0 0)(hl:NrP us)(hok:∀u∈us,IvOk BQ u.In):
  Calls prog 114 [v].toArray w (RetM (SlS rU 21 (sor us)) (fun s=>vSl s) (fun s=>mS 145 s) w):=by
 have:∀L,LstN w L v UL rU us:=fun L=>⟨fun w' hw'=>hv.to hw'.ext,hn⟩
 have hl6:=hl.n
 refine Zb Tryz.func114 rfl Tryz.ntmps114 rfl ?_
 repeat(first|(refine wkB ?_;intros)|(refine wnM ?_ ?_;(focus(omega));intros))
 rename_i s
 refine sZ rfl rfl ?_ ?_
 ·exact⟨hl,hok⟩
 intro s'
 repeat(refine wkB ?_;intros)
 exact ZB rfl rfl (fun w hw=>⟨s'.1,by show Ending.returned (vSl s)=Ending.returned (vSl s'.1);rw[s'.2],hw.sub suB⟩)
instance Zvs (w0:World)(L:List Blk)(v:Value)(us:List UL)[h:LstN w0 L v UL rU us]:SpecR prog w0 L 114 [v] (SlS rU 21 (sor us)) (fun s=>vSl s) (fun s=>mS 145 s) (NrP us/\∀u∈us,IvOk BQ u.In):=⟨fun hp w hw=>Zi2 v us w (h.out w hw) h.nil hp.1 hp.2⟩
end
section
section
variable {P : Program} {α : Type} {enc : α -> Array Value} {k : Nat} {xs ys : List α}
instance ldVS {T e:TypeId}{s:SlS enc k xs}[h:UndC P T (.slice e)]:LdC P T #[vSl s] 0 (vSl s):=⟨ZD (by simp[oneB,h.out]) rfl⟩
theorem Zc7 (s:SlS enc k xs):(vSl s).cells=#[vSl s]:=by
 rcases s.cases 0 with⟨-,hv, -⟩|⟨b,c,sp, -,hv, -, -⟩ <;> rw[hv] <;> rfl
theorem ZpP (s:SlS enc k xs):(vSl s).oneCell'=true:=by
 rcases s.cases 0 with⟨-,hv, -⟩|⟨b,c,sp, -,hv, -, -⟩ <;> rw[hv] <;> rfl
instance stVS {T:TypeId}{v:Value}{s:SlS enc k xs}[h:SizeC P T 1]:StC P T #[v] 0 (vSl s) #[vSl s]:=⟨by rw[Zc7];exact h.out,by rw[Zc7];rfl,by rw[Zc7];simp[ZpP],by rw[Zc7];rfl⟩
end
theorem Zkl {P:Program}{w0:World}{n:Nat}{c:Code}{Q:Exit->Act->World->Prop}{E:Env}{L:List Blk}(L':List Blk)(p:L.Perm L')(h:J P w0 n c Q E L'):J P w0 n c Q E L:=⟨fun a w ha hw=>h.out a w ha (hw.perm p)⟩
def at1 (t:Zi)(f:Int):UL:=⟨⟨t,t,false,false⟩,f⟩
theorem ZkT (w0 w:World)(L2:List Blk)(b:Nat)(xs:List UL)(s:SlS rU 21 xs)(t:Zi)(f:Int)(hl:xs.length<=1048576)(hw:Own w0 (mS 145 s++⟨b,#[vSl s],110⟩::L2) w):
  Calls prog 166 [vR t, .int .i64 f, .pointer (some ⟨b,0,none⟩)].toArray w (RetX w0 (SlS rU 21 (xs++[at1 t f])) (fun _=> .tuple #[]) (fun s'=>mS 145 s'++⟨b,#[vSl s'],110⟩::L2)):=by
 refine Zaj Tryz.func166 rfl Tryz.ntmps166 rfl hw ?_
 repeat(refine wkB ?_;intros)
 refine sU rfl rfl ?_ ?_ ?_ ?_
 ·rfl
 ·rfl
 ·exact⟨by decide,by omega,by omega⟩
 intro s'
 repeat(refine wkB ?_;intros)
 exact Zay rfl (fun w hw=>⟨s',rfl,hw.sub suB⟩)
instance ZyO (w0:World)(L L1 L2:List Blk)(b:Nat){xs:List UL}(s:SlS rU 21 xs)(t:Zi)(f:Int)[h1:DelC b L #[vSl s] 110 L1][h2:OwnS 145 s L1 L2]:SpecX prog w0 L 166 [vR t, .int .i64 f, .pointer (some ⟨b,0,none⟩)] (SlS rU 21 (xs++[at1 t f])) (fun _=> .tuple #[]) (fun s'=>mS 145 s'++⟨b,#[vSl s'],110⟩::L2) (xs.length<=1048576):=⟨fun hl w hw=>
 ZkT w0 w L2 b xs s t f hl (hw.perm ((h1.out.trans (h2.out.cons _)).trans List.perm_middle.symm))⟩
def inn1 (u:UL):UL:=⟨⟨u.In.From,u.In.To,true,true⟩,u.F⟩
def atU (u:UL):List UL:=(if u.In.OpenFrom=true then [] else [at1 u.In.From u.F])++(if u.In.From=u.In.To then [] else inn1 u::if u.In.OpenTo=true then [] else [at1 u.In.To u.F])
def atm (us:List UL):Nat->List UL
 |0=>[]
 |m+1=>atm us m++atU (gi us (m:Int))
theorem ZqJ (u:UL):(atU u).length<=3:=by
 unfold atU
 split <;> split <;> (try split) <;> simp
theorem Zep (us:List UL):∀m,(atm us m).length<=3*m
 |0=>Wl _
 |m+1=>by
  have:=Zep us m
  have:=ZqJ (gi us (m:Int))
  rw[atm,Wp]
  omega
theorem ZkO (v:Value)(us:List UL)(w:World)(hv:ArgS w v rU us)(hl:us.length<=65536):
  Calls prog 115 [v].toArray w (RetM (SlS rU 21 (atm us us.length)) (fun s=>vSl s) (fun s=>mS 145 s) w):=by
 refine Zb Tryz.func115 rfl Tryz.ntmps115 rfl ?_
 obtain⟨p,cp,rfl⟩:=hv.form
 repeat(refine wkB ?_;intros)
 rename_i b3
 refine Zq (S:=(xs:List UL)×Nat×SlS rU 21 xs) (fun s=>s.2.1<=us.length/\s.1=atm us s.2.1) (fun s=>[(3, .pointer (some ⟨b3,0,none⟩)),(4, .func (.func 166) #[] [.pointer (some ⟨b3,0,none⟩)].toArray),(8, .slice p us.length cp),(9, .int .i64 us.length),(10, .int .i64 (s.2.1:Nat))]) (fun s=>mS 145 s.2.2++[⟨b3,#[vSl s.2.2],110⟩]) (fun s=>us.length-s.2.1) ⟨[],0,SlS.no⟩
  ⟨Wm _,rfl⟩ sbB slB (fun s hs=>?_)
 obtain⟨xs,m,s⟩:=s
 obtain⟨hm,hxs⟩:=hs
 simp only at hm hxs⊢
 repeat(refine wkB ?_;intros)
 refine Zk rfl (fun h=>?_) (fun h=>?_)
 ·have hlt:m<us.length:=by have:=Wa h;omega
  have hne:us≠[]:=fun h0=>by rw[h0] at hlt;simp at hlt
  obtain⟨bw,ow,cw,hvw,hcw,hrow⟩:=hv.blk (k:=20) hne []
  injection hvw with e1 e2 e3
  subst e1
  subst e3
  have hrow':∀L,RowC w L bw ow UL rU us:=fun L=>⟨fun w' hw'=>hrow.out w' (hw'.sub (Wk _))⟩
  have hxl:=Zep us m
  rw[<-hxs] at hxl
  obtain⟨u,hu⟩:∃u,u=gi us (m:Int):=⟨_,rfl⟩
  have hnx:atm us (m+1)=xs++atU u:=by rw[atm,hxs,hu]
  repeat(refine wkB ?_;intros)
  simp only[<-hu]
  rename_i b6
  refine Zkl (mS 145 s++[⟨b3,#[vSl s],110⟩,⟨b6,rU u,145⟩]) (by
   have h1:=(List.perm_append_singleton (⟨b6,rU u,145⟩:Blk) (mS 145 s++[⟨b3,#[vSl s],110⟩])).symm
   rw[List.append_assoc] at h1
   exact h1) ?_
  refine ZY (S:=(ys:List UL)×SlS rU 21 ys) (fun s'=>s'.1=xs++(if u.In.OpenFrom=true then [] else [at1 u.In.From u.F])) (fun s'=>[(6, .pointer (some ⟨b6,0,none⟩)),(3, .pointer (some ⟨b3,0,none⟩)),(4, .func (.func 166) #[] [.pointer (some ⟨b3,0,none⟩)].toArray),(8, .slice (some ⟨bw,ow,none⟩) us.length cp),(9, .int .i64 us.length),(10, .int .i64 (m:Nat))])
   (fun s'=>mS 145 s'.2++[⟨b3,#[vSl s'.2],110⟩,⟨b6,rU u,145⟩]) ?_ (fun s' hs'=>?_)
  ·rcases ho:u.In.OpenFrom with _|_
   ·repeat(refine wkB ?_;intros)
    refine sY rfl rfl ?_ ?_
    ·omega
    intro s'
    repeat(refine wkB ?_;intros)
    exact Zj ⟨_,s'⟩ rfl sbB suB
   ·repeat(refine wkB ?_;intros)
    exact Zj ⟨_,s⟩ (by rw[if_pos rfl,Wh]) sbB suB
  obtain⟨ys,s'⟩:=s'
  simp only at hs'⊢
  have hyl:ys.length<=3*m+1:=by rw[hs',Wp];split <;> simp <;> omega
  repeat(refine wkB ?_;intros)
  by_cases hi:u.In.From=u.In.To
  ·simp only[Wc hi]
   repeat(first|(refine wkB ?_;intros)|(refine wnM ?_ ?_;(focus(exact⟨by omega,by omega⟩));intros))
   exact Zg ⟨ys,m+1,s'⟩ ⟨hlt,by rw[hnx,atU,if_pos hi,Wh];exact hs'⟩ sbB suB (by show us.length-(m+1)<us.length-m;omega)
  ·simp only[We hi]
   repeat(refine wkB ?_;intros)
   refine sU rfl rfl ?_ ?_ ?_ ?_
   ·rfl
   ·rfl
   ·exact⟨by decide,by omega,by omega⟩
   intro s2
   repeat(refine wkB ?_;intros)
   rcases hc:u.In.OpenTo with _|_
   ·have e3:ys++[inn1 u]++[at1 u.In.To u.F]=atm us (m+1):=by
     rw[hnx,hs']
     unfold atU
     rw[if_neg hi,hc]
     simp
    repeat(refine wkB ?_;intros)
    refine sY rfl rfl ?_ ?_
    ·simp only[Wp,List.length_singleton];omega
    intro s3
    repeat(first|(refine wkB ?_;intros)|(refine wnM ?_ ?_;(focus(exact⟨by omega,by omega⟩));intros))
    exact Zg ⟨_,m+1,s3⟩ ⟨hlt,e3⟩ sbB suB (by show us.length-(m+1)<us.length-m;omega)
   ·have e3:ys++[inn1 u]=atm us (m+1):=by
     rw[hnx,hs']
     unfold atU
     rw[if_neg hi,hc]
     simp
    repeat(first|(refine wkB ?_;intros)|(refine wnM ?_ ?_;(focus(exact⟨by omega,by omega⟩));intros))
    exact Zg ⟨_,m+1,s2⟩ ⟨hlt,e3⟩ sbB suB (by show us.length-(m+1)<us.length-m;omega)
 ·have hge:m=us.length:=by have:=Wb h;omega
  subst hge
  subst hxs
  repeat(refine wkB ?_;intros)
  exact ZB rfl rfl (fun w hw=>⟨s,rfl,hw.sub suB⟩)
instance ZyW (w0:World)(L:List Blk)(v:Value)(us:List UL)[h:LstC w0 L v UL rU us]:SpecR prog w0 L 115 [v] (SlS rU 21 (atm us us.length)) (fun s=>vSl s) (fun s=>mS 145 s) (us.length<=65536):=⟨fun hl w hw=>ZkO v us w (h.out w hw) hl⟩
end
section
abbrev lstU (xs:List UL):UL:=gi xs ((xs.length:Int)-1)
def hld (xs:List UL)(t:Zi):Bool:=decide (0<xs.length)&&(decide ((lstU xs).In.To=t)&& !(lstU xs).In.OpenTo)
theorem Zl5 (v:Value)(xs:List UL)(t:Zi)(w:World)(hv:ArgS w v rU xs)(hl:xs.length<=1048576):
  Calls prog 117 [v,vR t].toArray w (Ret (.bool (hld xs t)) w):=by
 refine Zb Tryz.func117 rfl Tryz.ntmps117 rfl ?_
 obtain⟨p,cp,rfl⟩:=hv.form
 repeat(refine wkB ?_;intros)
 by_cases h0:0<xs.length
 ·have hne:xs≠[]:=fun h=>by rw[h] at h0;simp at h0
  obtain⟨bw,ow,cw,hvw,hcw,hrow⟩:=hv.blk (k:=20) hne []
  injection hvw with e1 e2 e3
  subst e1
  subst e3
  have hrow':∀L,RowC w L bw ow UL rU xs:=fun L=>⟨fun w' hw'=>hrow.out w' (hw'.sub (Wk _))⟩
  (refine Zaq [0,1,2,3,4,5,6,7,8,9,10,11,12,13,14,15,16,17,18,19,20,21,22] [23] (_) (h:=?_);refine wkI ?_)
  (repeat(refine wkH ?_))
  simp only[Wc (show(0:Int)<(xs.length:Int) by omega)]
  (repeat(refine wkH ?_))
  rcases h1:decide ((lstU xs).In.To=t) with _|_
  ·repeat(refine wkT ?_;intros)
   repeat(refine wkB ?_;intros)
   unfold hld
   rw[h1,Wc h0]
   exact rtT rfl rfl
  ·repeat(refine wkT ?_;intros)
   repeat(refine wkB ?_;intros)
   unfold hld
   rw[h1,Wc h0]
   exact rtT rfl rfl
 ·(refine Zaq [0,1,2,3,4,5,6,7,8,9,10,11,12,13,14,15,16,17,18,19,20,21,22] [23] (_) (h:=?_);refine wkI ?_)
  (repeat(refine wkH ?_))
  simp only[We (show¬(0:Int)<(xs.length:Int) by omega)]
  (repeat(refine wkH ?_))
  repeat(refine wkT ?_;intros)
  repeat(refine wkB ?_;intros)
  unfold hld
  rw[We h0]
  exact rtT rfl rfl
instance ZAN (w0:World)(L:List Blk)(v:Value)(xs:List UL)(t:Zi)[h:LstC w0 L v UL rU xs]:SpecM prog w0 L 117 [v,vR t] (.bool (hld xs t)) (xs.length<=1048576):=⟨fun hl w hw=>Zl5 v xs t w (h.out w hw) hl⟩
abbrev vLabels :Value:= .iface 109 (.agg #[])
instance Zwi :MethC prog 109 (.agg #[]) "Same" 301 (.agg #[]):=⟨fun w=>by kernel_rfl⟩
instance ZtW :MethC prog 109 (.agg #[]) "Equal" 299 (.agg #[]):=⟨fun w=>by kernel_rfl⟩
instance Zs3 :MethC prog 109 (.agg #[]) "Reduce" 300 (.agg #[]):=⟨fun w=>by kernel_rfl⟩
instance ZyA :NahC prog 109 (.agg #[]) "Same" :=⟨fun w=>by kernel_rfl⟩
instance ZvM :NahC prog 109 (.agg #[]) "Equal" :=⟨fun w=>by kernel_rfl⟩
instance ZwD :NifC prog 109:=⟨fun v w=>by kernel_rfl⟩
instance ZxC :PtrC prog 155:=⟨by kernel_rfl⟩
instance ZvV (z:Array Value)(f g:Int):SpecC prog 299 [.agg z, .int .i64 f, .int .i64 g] (.bool (decide (f=g))) True:=⟨fun _ w=>by
 refine Zb Tryz.func299 rfl Tryz.ntmps299 rfl ?_
 repeat(refine wkB ?_;intros)
 exact rtT rfl rfl⟩
instance ZxB (z:Array Value)(f g:Int)(t:Rl):SpecC prog 301 [.agg z, .int .i64 f, .int .i64 g,vR t] (.bool (decide (f=g))) True:=⟨fun _ w=>by
 refine Zb Tryz.func301 rfl Tryz.ntmps301 rfl ?_
 repeat(refine wkB ?_;intros)
 exact rtT rfl rfl⟩
instance ZtN (z:Array Value)(f:Int)(t:Rl):SpecC prog 300 [.agg z, .int .i64 f,vR t] (.int .i64 f) True:=⟨fun _ w=>by
 refine Zb Tryz.func300 rfl Tryz.ntmps300 rfl ?_
 repeat(refine wkB ?_;intros)
 exact rtT rfl rfl⟩
end
end Go.Vt
