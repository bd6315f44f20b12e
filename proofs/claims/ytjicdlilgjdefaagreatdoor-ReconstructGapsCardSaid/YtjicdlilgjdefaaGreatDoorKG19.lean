/- that the gaps between reports are those of the chain (part 19 of 32.) Conditions: those that each statement names. -/
import Derived.Test.YtjicdlilgjdefaaGreatDoorKG1
import Derived.Test.YtjicdlilgjdefaaGreatDoorKG10
import Derived.Test.YtjicdlilgjdefaaGreatDoorKG12
import Derived.Test.YtjicdlilgjdefaaGreatDoorKG16
set_option linter.unusedSimpArgs false
set_option linter.unusedVariables false
set_option maxHeartbeats 2000000
set_option maxRecDepth 100000
set_option linter.unusedSectionVars false
namespace Go.Vt
open Go.RowKit Go.Proofs
open Go.Proofs.Tryz (prog)
instance ZHm (x:Int):SpecC prog 209 [.int .i64 x] (.bool false) True:=⟨fun _ w=>by
 refine Zg Tryz.func209 rfl Tryz.ntmps209 rfl ?_
 repeat(refine wkM ?_;intros)
 simp only[Wc (show x=x from rfl),Bool.not_true]
 repeat(refine wkM ?_;intros)
 exact rtT rfl rfl⟩
instance ZII (x:Int):SpecC prog 263 [.int .i64 x] (.bool false) True:=⟨fun _ w=>by
 refine Zg Tryz.func263 rfl Tryz.ntmps263 rfl ?_
 repeat(refine wkM ?_;intros)
 simp only[Wc (show x=x from rfl),Bool.not_true]
 repeat(refine wkM ?_;intros)
 exact rtT rfl rfl⟩
instance ZFu (x y:Int):SpecC prog 262 [.int .i64 x, .int .i64 y] (.bool (decide (x<y))) True:=⟨fun _ w=>by
 refine Zg Tryz.func262 rfl Tryz.ntmps262 rfl ?_
 repeat(first|(refine wkM ?_;intros)|(refine wnM ?_ ?_;(focus(exact trivial));intros))
 exact rtT rfl rfl⟩
instance ZB6 :CallC prog 262:=⟨by kernel_rfl⟩
instance ZBC :CallC prog 263:=⟨by kernel_rfl⟩
def cmpI (a b:Int):Int:=a-b
def leI (a b:Int):Prop:=a<=b
def sortI (xs:List Int):List Int:=srtG cmpI xs (xs.length-1)
theorem ZcZ (xs:List Int):(sortI xs).Perm xs:=by
 unfold sortI
 rcases Nat.eq_zero_or_pos xs.length with h|h
 ·rw[List.length_eq_zero_iff.1 h]
  exact .refl _
 ·exact Zbw _ _ _ (by omega)
theorem Zej (xs:List Int):(sortI xs).length=xs.length:=(ZcZ xs).length_eq
theorem Zer (xs:List Int):(sortI xs).Pairwise leI:=by
 refine List.pairwise_iff_getElem.2 fun p q hp hq hpq=>?_
 have hl:=Zej xs
 rw[<-Zj hp,<-Zj hq]
 unfold sortI
 exact ZcE (c:=cmpI) (le:=leI) (fun a b h=>by unfold leI cmpI at*;omega) (fun a b h=>by unfold leI cmpI at*;omega) (fun _ _ _ h k=>Int.le_trans h k) xs (xs.length-1) (by omega) p q hpq (by omega)
theorem Zjj {xs ys:List Int}(h:xs.Perm ys):sortI xs=sortI ys:=
 Zdn (fun _ _ h k=>Int.le_antisymm h k) ((ZcZ xs).trans (h.trans (ZcZ ys).symm)) (Zer xs) (Zer ys)
theorem ZqH (xs:List Int)(j:Nat):(swpG xs j).length=xs.length:=Zde xs j
theorem ZoV (xs:List Int)(i:Nat)(h:i<xs.length):(srtG cmpI xs i).length=xs.length:=(Zbw cmpI xs i h).length_eq
set_option maxHeartbeats 4000000 in
theorem Zqr (w0 w:World)(L1:List Blk)(b c n:Nat)(xs:List Int)(sp:List Value)(T:TypeId)(hn:xs.length=n)(h0:0<n)(hl:n<=1048576)(hw:Own w0 (⟨b,row (eI .i64) xs sp,T⟩::L1) w):
  Calls prog 355 [.slice (some ⟨b,0,none⟩) n c, .int .i64 0, .int .i64 n].toArray w (RetX w0 Unit (fun _=> .tuple #[]) (fun _=>⟨b,row (eI .i64) (sortI xs) sp,T⟩::L1)):=by
 have hso:sortI xs=srtG cmpI xs (n-1):=by rw[sortI,hn]
 rw[hso]
 refine ZY Tryz.func355 rfl Tryz.ntmps355 rfl hw ?_
 repeat(refine wkM ?_;intros)
 refine Zm (S:=Nat) (fun m=>m<=n-1) (fun m=>[(0, .slice (some ⟨b,0,none⟩) n c),(1, .int .i64 0),(2, .int .i64 n),(6, .int .i64 ((m+1:Nat)))]) (fun m=>⟨b,row (eI .i64) (srtG cmpI xs m) sp,T⟩::L1) (fun m=>n-1-m) 0 (Wm _) sbB slB (fun m hm=>?_)
 have hsl:=ZoV xs m (by omega)
 repeat(refine wkM ?_;intros)
 refine Zl rfl (fun h=>?_) (fun h=>?_)
 ·have hlt:m+1<n:=by have:=Wa h;omega
  repeat(refine wkM ?_;intros)
  refine Zm (S:=Nat×List Int) (fun s=>dwnG cmpI s.2 s.1=srtG cmpI xs (m+1)/\s.2.length=n/\s.1<=m+1) (fun s=>[(0, .slice (some ⟨b,0,none⟩) n c),(1, .int .i64 0),(2, .int .i64 n),(6, .int .i64 ((m+1:Nat))),(7, .int .i64 ((s.1:Nat)))]) (fun s=>⟨b,row (eI .i64) s.2 sp,T⟩::L1) (fun s=>s.1) (m+1,srtG cmpI xs m)
   ⟨rfl,by show(srtG cmpI xs m).length=n;omega,Wl _⟩ sbB slB (fun s hs=>?_)
  obtain⟨j,ys⟩:=s
  obtain⟨g1,g2,g3⟩:=hs
  simp only at g1 g2 g3⊢
  repeat(refine wkM ?_;intros)
  rcases j with _|j
  ·(refine jD 15 15 (h:=?_);(repeat(refine wkH ?_));refine Zn ?_;(repeat(refine Z4 ?_;intro _));refine Zr ?_)
   repeat(refine wkM ?_;intros)
   exact Zh (m+1) (by omega) sbB (by rw[<-g1];exact Wj _) (by omega)
  ·have hj1:((j:Int)).toNat<ys.length:=by omega
   have hj2:(((j+1:Nat):Int)).toNat<ys.length:=by omega
   have e1:((j+1:Nat):Int)-1=(j:Int):=by omega
   rw[dwnG] at g1
   refine jD 15 15 (h:=?_)
   (repeat(refine wkH ?_))
   simp only[Wc (show(0:Int)<((j+1:Nat):Int) by omega),e1]
   (repeat(refine wkH ?_))
   simp only[e1]
   (repeat(first|refine wkH ?_|(refine tC rfl rfl ?_ ?_;focus(exact trivial))))
   refine Zn ?_
   refine Zr ?_
   repeat(refine wkM ?_;intros)
   by_cases hc:gi ys ((j+1:Nat):Int)<gi ys (j:Int)
   ·rw[if_pos (by unfold cmpI;omega)] at g1
    simp only[Wc hc]
    repeat(refine wkM ?_;intros)
    (refine Zfc [(true,[0,1,2,3,4,5,6,7,8]),(false,[9]),(true,[10,11,12]),(false,[13]),(true,[14])] [15,16,17] (h:=?_);refine wkS ?_)
    (repeat(refine wkH ?_))
    simp only[e1]
    refine Zn ?_
    refine eR rfl ?_ ?_
    ·omega
    refine uS rfl rfl ?_ ?_
    ·omega
    refine eR rfl ?_ ?_
    ·rw[List.length_set];omega
    refine Zba ?_
    simp only[Int.toNat_natCast]
    repeat(refine wkO ?_;intros)
    simp only[e1]
    exact Zh (j,swpG ys j) ⟨g1,by rw[ZqH];exact g2,by omega⟩ sbB slB (by show j<j+1;omega)
   ·rw[if_neg (by unfold cmpI;omega)] at g1
    simp only[We hc]
    repeat(refine wkO ?_;intros)
    exact Zh (m+1) (by omega) sbB (by rw[<-g1];exact Wj _) (by omega)
 ·have hge:m=n-1:=by have:=Wb h;omega
  subst hge
  repeat(refine wkM ?_;intros)
  exact Zaj rfl (fun w hw=>⟨(),rfl,hw⟩)
abbrev SrtSI (xs:List Int)(s:SlS (eI .i64) 1 xs):Type:={s':SlS (eI .i64) 1 (sortI xs) // vSl s'=vSl s}
theorem Zoz (w0 w:World)(L L1:List Blk)(xs:List Int)(s:SlS (eI .i64) 1 xs)(T:TypeId)[hd:OwnS T s L L1](hl:xs.length<=12)(hw:Own w0 L w):
  Calls prog 355 [vSl s, .int .i64 0, .int .i64 xs.length].toArray w (RetX w0 (SrtSI xs s) (fun _=> .tuple #[]) (fun s'=>mS T s'.1++L1)):=by
 have hw1:=hw.perm hd.out
 rcases s.cases T with⟨rfl,hv,hm⟩|⟨b,c,sp,h1,hv,hm,hne⟩
 ·suffices h:Calls prog 355 [.slice none 0 0, .int .i64 0, .int .i64 (([]:List Int).length:Nat)].toArray w (RetX w0 (SrtSI [] s) (fun _=> .tuple #[]) (fun s'=>mS T s'.1++L1)) by
   rw[<-hv] at h
   exact h
  refine ZY Tryz.func355 rfl Tryz.ntmps355 rfl hw1 ?_
  repeat(refine wkM ?_;intros)
  refine Zm (S:=Unit) (fun _=>True) (fun _=>[(2, .int .i64 (([]:List Int).length:Nat)),(6, .int .i64 1)]) (fun _=>mS T s++L1) (fun _=>0) () trivial sbB slB (fun _ _=>?_)
  repeat(refine wkM ?_;intros)
  simp only[We (show¬(1:Int)<((([]:List Int).length:Nat):Int) by simp)]
  repeat(refine wkM ?_;intros)
  exact Zaj rfl (fun w hw=>⟨⟨s,rfl⟩,rfl,hw⟩)
 ·suffices h:Calls prog 355 [.slice (some ⟨b,0,none⟩) xs.length c, .int .i64 0, .int .i64 xs.length].toArray w (RetX w0 (SrtSI xs s) (fun _=> .tuple #[]) (fun s'=>mS T s'.1++L1)) by
   rw[<-hv] at h
   exact h
  rw[hm] at hw1
  have hsl:=Zej xs
  have hpos:0<xs.length:=List.length_pos_iff.2 hne
  refine(Zqr w0 w L1 b c xs.length xs sp T rfl hpos (by omega) hw1).mono fun e w' ⟨_,he,hw'⟩=>?_
  exact⟨⟨SlS.at_ b c sp (by rw[hsl];exact h1) (fun h0=>hne (List.length_eq_zero_iff.1 (by rw[h0,Wx] at hsl;exact hsl.symm))),by rw[hv];show Value.slice _ (sortI xs).length c=_;rw[hsl]⟩,he,hw'⟩
instance ZHE (w0:World)(L L1:List Blk)(xs:List Int)(s:SlS (eI .i64) 1 xs)(T:TypeId)[hd:OwnS T s L L1]:SpecX prog w0 L 355 [vSl s, .int .i64 0, .int .i64 xs.length] (SrtSI xs s) (fun _=> .tuple #[]) (fun s'=>mS T s'.1++L1) (xs.length<=12):=⟨fun hp w hw=>Zoz w0 w L L1 xs s T hp hw⟩
theorem Zqd (w0 w:World)(L L1:List Blk)(xs:List Int)(s:SlS (eI .i64) 1 xs)(T:TypeId)(z:Int)[hd:OwnS T s L L1](hl:xs.length<=12)(hw:Own w0 L w):
  Calls prog 334 [vSl s, .int .i64 0, .int .i64 xs.length, .int .i64 z].toArray w (RetX w0 (SrtSI xs s) (fun _=> .tuple #[]) (fun s'=>mS T s'.1++L1)):=by
 refine ZY Tryz.func334 rfl Tryz.ntmps334 rfl hw ?_
 repeat(refine wkM ?_;intros)
 refine Zm (S:=Unit) (fun _=>True) (fun _=>[(0,vSl s),(1, .int .i64 0),(2, .int .i64 xs.length)]) (fun _=>L) (fun _=>0) () trivial sbB slB (fun _ _=>?_)
 repeat(refine wkM ?_;intros)
 simp only[Wc (show(xs.length:Int)-0<=12 by omega)]
 repeat(refine wkM ?_;intros)
 refine sZ rfl rfl hl ?_
 intro s'
 repeat(refine wkM ?_;intros)
 exact ZcG rfl (fun w hw=>⟨s',rfl,hw⟩)
instance ZIG (w0:World)(L L1:List Blk)(xs:List Int)(s:SlS (eI .i64) 1 xs)(T:TypeId)(z:Int)[hd:OwnS T s L L1]:SpecX prog w0 L 334 [vSl s, .int .i64 0, .int .i64 xs.length, .int .i64 z] (SrtSI xs s) (fun _=> .tuple #[]) (fun s'=>mS T s'.1++L1) (xs.length<=12):=⟨fun hp w hw=>Zqd w0 w L L1 xs s T z hp hw⟩
theorem ZnG (w0 w:World)(L L1:List Blk)(xs:List Int)(s:SlS (eI .i64) 1 xs)(T:TypeId)[hd:OwnS T s L L1](hl:xs.length<=12)(hw:Own w0 L w):
  Calls prog 306 [vSl s].toArray w (RetX w0 (SrtSI xs s) (fun _=> .tuple #[]) (fun s'=>mS T s'.1++L1)):=by
 refine ZY Tryz.func306 rfl Tryz.ntmps306 rfl hw ?_
 have hr:((xs.length:Nat):Int)<=18446744073709551615:=by omega
 repeat(first|(refine wkM ?_;intros)|(refine wnM ?_ ?_;(focus(first|exact hr|exact⟨by omega,by omega⟩));intros))
 refine sZ rfl rfl hl ?_
 intro s'
 repeat(refine wkM ?_;intros)
 exact Zaj rfl (fun w hw=>⟨s',rfl,hw⟩)
instance ZDu (w0:World)(L L1:List Blk)(xs:List Int)(s:SlS (eI .i64) 1 xs)(T:TypeId)[hd:OwnS T s L L1]:SpecX prog w0 L 306 [vSl s] (SrtSI xs s) (fun _=> .tuple #[]) (fun s'=>mS T s'.1++L1) (xs.length<=12):=⟨fun hp w hw=>ZnG w0 w L L1 xs s T hp hw⟩
structure CutI (xs:List Int)(t:Int)(k:Nat):Prop where
 le:k<=xs.length
 lo:∀j:Nat,j<k->gi xs (j:Int)<t
 hi:∀j:Nat,k<=j->j<xs.length->t<=gi xs (j:Int)
theorem Zh0 {t:Int}:∀{xs:List Int},xs.Pairwise leI->∃k,CutI xs t k
 |[],_=>⟨0,Wl _,fun j h=>absurd h (Nat.not_lt_zero _),fun j _ h=>absurd h (Nat.not_lt_zero _)⟩
 |x::xs,h=>by
  obtain⟨h1,h2⟩:=List.pairwise_cons.1 h
  by_cases hx:x<t
  ·obtain⟨k,k1,k2,k3⟩:=Zh0 (t:=t) h2
   refine⟨k+1,by simpa using k1,fun j hj=>?_,fun j hj hl=>?_⟩
   ·rcases j with _|j
    ·exact hx
    ·have:=k2 j (by omega)
     rw[Zj (by simp;omega)]
     rw[Zj (by omega)] at this
     simpa using this
   ·rcases j with _|j
    ·omega
    ·have:=k3 j (by omega) (by simpa using hl)
     rw[Zj hl]
     rw[Zj (by simpa using hl)] at this
     simpa using this
  ·refine⟨0,Wm _,fun j h=>absurd h (Nat.not_lt_zero _),fun j _ hl=>?_⟩
   rw[Zj hl]
   rcases j with _|j
   ·show t<=x
    omega
   ·have h3:x<=xs[j]'(by simpa using hl):=h1 _ (List.getElem_mem _)
    show t<=xs[j]'(by simpa using hl)
    omega
theorem Zri {xs:List Int}{t:Int}{k:Nat}(h:CutI xs t k)(hs:xs.Pairwise leI):(k<xs.length/\gi xs (k:Int)=t)↔t∈xs:=by
 constructor
 ·rintro⟨h1,h2⟩
  rw[<-h2]
  exact ZI (by omega)
 ·intro hm
  obtain⟨j,hj,rfl⟩:=List.getElem_of_mem hm
  have hjk:k<=j:=by
   rcases Nat.lt_or_ge j k with h1|h1
   ·have:=h.lo j h1
    rw[Zj hj] at this
    omega
   ·exact h1
  have hk:k<xs.length:=by omega
  refine⟨hk, ?_⟩
  have h1:=h.hi k (Wl _) hk
  rw[Zj hk] at h1⊢
  rcases Nat.lt_or_ge k j with h2|h2
  ·have:=List.pairwise_iff_getElem.1 hs k j hk hj h2
   unfold leI at this
   omega
  ·have:k=j:=by omega
   subst this
   rfl
set_option maxHeartbeats 4000000 in
theorem Zrh (v:Value)(xs:List Int)(t:Int)(k:Nat)(hk:CutI xs t k)(hs:xs.Pairwise leI)(w:World)(hv:ArgS w v (eI .i64) xs)(hl:xs.length<=1048576):
  Calls prog 212 [v, .int .i64 t].toArray w (Ret (.tuple #[.int .i64 (k:Nat), .bool (decide (t∈xs))]) w):=by
 rw[show decide (t∈xs)=decide (k<xs.length/\gi xs (k:Int)=t) from decide_eq_decide.2 (Zri hk hs).symm]
 refine Zg Tryz.func212 rfl Tryz.ntmps212 rfl ?_
 obtain⟨p,cp,rfl⟩:=hv.form
 repeat(refine wkM ?_;intros)
 refine Zm (S:=Nat×Nat) (fun s=>s.1<=k/\k<=s.2/\s.2<=xs.length) (fun s=>[(0, .slice p xs.length cp),(1, .int .i64 t),(6, .int .i64 xs.length),(7, .int .i64 (s.1:Nat)),(8, .int .i64 (s.2:Nat))]) (fun _=>[]) (fun s=>s.2-s.1) (0,xs.length)
  ⟨Wm _,hk.le,Wl _⟩ sbB slB (fun s hs=>?_)
 obtain⟨lo,hi⟩:=s
 obtain⟨h1,h2,h3⟩:=hs
 simp only at h1 h2 h3⊢
 repeat(refine wkM ?_;intros)
 refine Zl rfl (fun h=>?_) (fun h=>?_)
 ·have hlt:lo<hi:=by have:=Wa h;omega
  have hne:xs≠[]:=fun h0=>by rw[h0] at h3;simp at h3;omega
  obtain⟨bw,ow,cw,hvw,hcw,hrow⟩:=hv.blk (k:=0) hne []
  injection hvw with e1 e2 e3
  subst e1
  subst e3
  have hrow':∀L,RowC w L bw ow Int (eI .i64) xs:=fun L=>⟨fun w' hw'=>hrow.out w' (hw'.sub (Wk _))⟩
  repeat(refine wkM ?_;intros)
  refine jq (Zcu rfl rfl (by decide)) rfl rfl ?_
  obtain⟨m,hm⟩:∃m,m=(lo+hi) / 2:=⟨_,rfl⟩
  have em:((lo:Int)+(hi:Int)) / 2 ^ (1:Int).toNat=(m:Int):=by
   rw[show(2:Int) ^ (1:Int).toNat=2 from rfl]
   omega
  simp only[em]
  have hml:lo<=m/\m<hi:=by omega
  repeat(first|(refine wkM ?_;intros)|(refine wnM ?_ ?_;(focus(exact trivial));intros))
  by_cases hc:gi xs (m:Int)<t
  ·simp only[Wc hc]
   have hmk:m<k:=by
    rcases Nat.lt_or_ge m k with h1|h1
    ·exact h1
    ·have:=hk.hi m h1 (by omega)
     omega
   repeat(refine wkO ?_;intros)
   exact Zh (m+1,hi) ⟨hmk,h2,h3⟩ sbB slB (by show hi-(m+1)<hi-lo;omega)
  ·simp only[We hc]
   have hmk:k<=m:=by
    rcases Nat.lt_or_ge m k with h1|h1
    ·exact absurd (hk.lo m h1) hc
    ·exact h1
   repeat(refine wkM ?_;intros)
   exact Zh (lo,m) ⟨h1,hmk,by show m<=xs.length;omega⟩ sbB slB (by show m-lo<hi-lo;omega)
 ·have hge:lo=k/\hi=k:=by have:=Wb h;omega
  obtain⟨rfl,rfl⟩:=hge
  repeat(refine wkM ?_;intros)
  by_cases hlt:hi<xs.length
  ·have hne:xs≠[]:=fun h0=>by rw[h0] at hlt;simp at hlt
   obtain⟨bw,ow,cw,hvw,hcw,hrow⟩:=hv.blk (k:=0) hne []
   injection hvw with e1 e2 e3
   subst e1
   subst e3
   have hrow':∀L,RowC w L bw ow Int (eI .i64) xs:=fun L=>⟨fun w' hw'=>hrow.out w' (hw'.sub (Wk _))⟩
   simp only[Wc (show(hi:Int)<(xs.length:Int) by omega)]
   repeat(refine wkM ?_;intros)
   by_cases he:gi xs (hi:Int)=t
   ·rw[Wc (show hi<xs.length/\gi xs (hi:Int)=t from⟨hlt,he⟩)]
    simp only[Wc he]
    repeat(refine wkM ?_;intros)
    exact ZA rfl (Zk rfl) (Zk rfl) (fun w hw=>ZZ hw)
   ·rw[We (show¬(hi<xs.length/\gi xs (hi:Int)=t) from fun h=>he h.2)]
    simp only[We he]
    repeat(first|(refine wkM ?_;intros)|(refine wnM ?_ ?_;(focus(exact trivial));intros))
    exact ZA rfl (Zk rfl) (Zk rfl) (fun w hw=>ZZ hw)
  ·rw[We (show¬(hi<xs.length/\gi xs (hi:Int)=t) from fun h=>hlt h.1)]
   try simp only[We (show¬(hi:Int)<(xs.length:Int) by omega)]
   repeat(refine wkM ?_;intros)
   exact ZA rfl (Zk rfl) (Zk rfl) (fun w hw=>ZZ hw)
end Go.Vt
namespace Go.Vt
open Go.RowKit
open Go.ChangeMaps (setBlock)
section
variable {κ α : Type} [DecidableEq κ]
def slotL (ev:α->Value)(l:List (κ×α))(x:κ):Nat:=match fnd ev l x 0 with
 |none=>l.length
 |some q=>q.1
def entM (l:List (κ×α))(x:κ)(z:α):List (κ×α):=match mget l x with
 |none=>l++[(x,z)]
 |some _=>l
variable {P : Program} {ek : κ -> Value} {ev : α -> Value} {K T V : TypeId} {w : World} {b : Nat} {l : List (κ × α)}
theorem ZgA (l:List (κ×α))(p:κ×α):(entL ek ev 0 l).toArray.push {key:=ek p.1,val:=ev p.2,born:=l.length}=(entL ek ev 0 (l++[p])).toArray:=by
 rw[Zfv,Nat.zero_add]
 simp
theorem Zq7 (hT:P.underlying T=some (.map K V))[hk:KeyC P K ek]{z0:α}(hz:∀w,(zeroValue V).run P w= .ok (ev z0) w)(hb:w.heap[b]? =some (mapO ek ev l))(x:κ):
  (Instr.mapEntry T (.map (some b)) (ek x)).run P w= .ok (.tuple #[ev ((mget l x).getD z0), .int .i64 (slotL ev l x:Nat)]) (setBlock w b (mapO ek ev (entM l x z0))):=by
 have hg:(getObj b).run P w= .ok (.map (entL ek ev 0 l).toArray l.length) w:=by simp[getObj,Sem.run,hb,mapO]
 have hs:∀o,(setObj b o).run P w= .ok () (setBlock w b o):=fun o=>by simp[setObj,Sem.run,hb,setBlock,mapO]
 unfold Instr.mapEntry
 simp only[Sem.run_bind,run_underlying hT,Result.andThen,hg,hk.chk,hk.find]
 unfold slotL entM
 cases hf:fnd ev l x 0 with
 |none=>
  obtain⟨h1,h2⟩:=ZdX hf
  simp only[h1,hz,Sem.run_bind,Result.andThen,hs,Option.getD_none,Sem.run_pure]
  rw[show(entL ek ev 0 l).toArray.push {key:=ek x,val:=ev z0,born:=l.length}=(entL ek ev 0 (l++[(x,z0)])).toArray from ZgA l (x,z0)]
  simp[mapO,goInt]
 |some q=>
  obtain⟨j,u⟩:=q
  obtain⟨k,hk',h1,h2,h3,h4,h5⟩:=ZdU hf
  have hj:j=k:=by omega
  subst hj
  have hkey:(((entL ek ev 0 l).toArray[j]?).map (·.key)).getD (ek x)=ek x:=by
   rw[List.getElem?_toArray,ZaZ l 0 j hk']
   simp[h2]
  have hst:(Instr.keyThatStays (ek x) (ek x)).run P w= .ok (ek x) w:=by
   unfold Instr.keyThatStays
   rw[if_pos (hk.same x)]
   rfl
  have hmod:(entL ek ev 0 l).toArray.modify j (fun e=>{e with key:=ek x})=(entL ek ev 0 l).toArray:=by
   apply Array.ext_getElem?
   intro i
   rw[Array.getElem?_modify]
   by_cases hij:j=i
   ·subst hij
    rw[List.getElem?_toArray,ZaZ l 0 j hk']
    simp[h2]
   ·simp[hij]
  simp only[Sem.run_bind,hkey,hst,Result.andThen,hs,hmod,h3,h4,Option.getD_some,Sem.run_pure,goInt]
  rw[List.getElem?_toArray,ZaZ l 0 j hk']
  simp[mapO]
theorem ZkV (l:List (κ×α)){j:Nat}(hj:j<l.length):(entL ek ev 0 l).toArray.findIdx? (fun e=>((e.born:Nat):Int)==((j:Nat):Int))=some j:=by
 rw[List.findIdx?_toArray,List.findIdx?_eq_some_iff_getElem]
 have hg:∀i (h:i<l.length),(entL ek ev 0 l)[i]'(by rw[Zbp];exact h)={key:=ek l[i].1,val:=ev l[i].2,born:=i}:=fun i h=>by
  have:=ZaZ (ek:=ek) (ev:=ev) l 0 i h
  rw[List.getElem?_eq_getElem (by rw[Zbp];exact h),Nat.zero_add] at this
  exact Option.some.inj this
 refine⟨by rw[Zbp];exact hj,by rw[hg j hj];simp,fun i hi=>?_⟩
 rw[hg i (by omega)]
 simp
 omega
theorem modL (l:List (κ×α)){j:Nat}(hj:j<l.length)(v:α):(entL ek ev 0 l).toArray.modify j (fun e=>{e with val:=ev v})=(entL ek ev 0 (l.set j (l[j].1,v))).toArray:=by
 apply Array.ext_getElem?
 intro i
 rw[Array.getElem?_modify,List.getElem?_toArray,List.getElem?_toArray]
 rcases Nat.lt_or_ge i l.length with hi|hi
 ·rw[ZaZ l 0 i hi,ZaZ (l.set j (l[j].1,v)) 0 i (by simpa using hi)]
  by_cases hij:j=i
  ·subst hij
   simp
  ·simp[hij,List.getElem_set_ne hij]
 ·rw[List.getElem?_eq_none (by rw[Zbp];exact hi),List.getElem?_eq_none (by rw[Zbp,List.length_set];exact hi)]
  simp
theorem ZtP {x:κ}{z0:α}(hb:w.heap[b]? =some (mapO ek ev (entM l x z0)))(v:α):(Instr.entryStore T (.map (some b)) (.int .i64 (slotL ev l x:Nat)) (ev v)).run P w= .ok () (setBlock w b (mapO ek ev (mput l x v))):=by
 have key:slotL ev l x<(entM l x z0).length/\∀h:slotL ev l x<(entM l x z0).length,(entM l x z0).set (slotL ev l x) ((entM l x z0)[slotL ev l x].1,v)=mput l x v:=by
  unfold slotL entM
  cases hf:fnd ev l x 0 with
  |none=>
   obtain⟨h1,h2⟩:=ZdX hf
   simp only[h1,h2 v]
   refine⟨by simp,fun h=>?_⟩
   rw[List.set_append_right _ _ (Wl _)]
   simp
  |some q=>
   obtain⟨j,u⟩:=q
   obtain⟨k,hk',h1,h2,h3,h4,h5⟩:=ZdU hf
   have hj:j=k:=by omega
   subst hj
   simp only[h3,h5 v]
   exact⟨hk',fun h=>by rw[h2]⟩
 obtain⟨k1,k2⟩:=key
 have hg:(getObj b).run P w= .ok (.map (entL ek ev 0 (entM l x z0)).toArray (entM l x z0).length) w:=by simp[getObj,Sem.run,hb,mapO]
 have hs:∀o,(setObj b o).run P w= .ok () (setBlock w b o):=fun o=>by simp[setObj,Sem.run,hb,setBlock,mapO]
 have ha:(asInt (.int .i64 (slotL ev l x:Nat))).run P w= .ok ((slotL ev l x:Nat):Int) w:=rfl
 unfold Instr.entryStore
 simp only[Sem.run_bind,Result.andThen,hg,ha,ZkV _ k1,hs,modL _ k1,k2 k1]
 simp only[mapO]
 rw[<-k2 k1,List.length_set]
end
section
variable {P : Program} {w0 : World} {n : Nat} {ops : Array Oper} {L L' : List Blk} {E : Env}
variable {Q : Exit -> Act -> World -> Prop} {rest : List Oper}
variable {ty : TypeId} {pos : String} {aft : Array Edge} {gd : Option (Nat × Bool)} {t : Tmp}
variable {x y k : Operand} {T T0 K V : TypeId} {b : Nat}
variable {κ α : Type} [DecidableEq κ] {ek : κ -> Value} {ev : α -> Value} {l : List (κ × α)}
variable {Kk : Env -> List Blk -> Prop} {Lw : List Blk} {kv yv : Value} {k0 : κ} {v0 z0 : α}
theorem sMi [hx:IsC (evl E x) (.map (some b))][hk:IsC (evl E k) kv][hy:IsC (evl E y) yv][hm:MemO b L (mapO ek ev l) T0][hT:UndC P T (.map K V)][hK:KeyC P K ek][hkv:KeyV ek kv k0][hyv:KeyV ev yv v0][hu:UpdO b (mapO ek ev (mput l k0 v0)) L (mapO ek ev l) T0 L'](hg:guardB ops E gd=some true)
  (h:JO P w0 n ops Q rest E L'):JO P w0 n ops Q (⟨none, .insert T x k y,ty,pos,aft,gd⟩::rest) E L:=
 Zcs (L':=Unit) (o:=⟨none, .insert T x k y,ty,pos,aft,gd⟩) hg rfl (fun _=>undef) (fun _=>L') (fun a w ha hw=>by
  have e1:=ha.ev (isE (h:=hx))
  have e2:=ha.ev (isE (h:=hk))
  have e3:=ha.ev (isE (h:=hy))
  have hb:=(hw.mem _ hm.out).2
  refine⟨(),_, .inr ⟨?_,rfl⟩,hw.turnO hu.out (Zb0 hb (mapO ek ev (mput l k0 v0)))⟩
  simp only[execOp,e1,e2,e3,hkv.out,hyv.out,Sem.run_bind,Zg5 hT.out hb,Result.andThen,Sem.run_pure]) (fun _=>h)
theorem eMu [hx:IsC (evl E x) (.map (some b))][hk:IsC (evl E k) kv][hy:IsC (evl E y) yv][hm:MemO b L (mapO ek ev l) T0][hT:UndC P T (.map K V)][hK:KeyC P K ek][hkv:KeyV ek kv k0][hyv:KeyV ev yv v0][hu:UpdO b (mapO ek ev (mput l k0 v0)) L (mapO ek ev l) T0 L'][hw':SblC Lw L'](hg:guardB ops E gd=some true)
  (h:JE P w0 n ops Lw Kk rest E L'):JE P w0 n ops Lw Kk (⟨none, .mapUpdate T x k y,ty,pos,aft,gd⟩::rest) E L:=
 Zcw (S:=Unit) (o:=⟨none, .mapUpdate T x k y,ty,pos,aft,gd⟩) hg rfl (fun _=>undef) (fun _=>L') (fun a w ha hw=>by
  have e1:=ha.ev (isE (h:=hx))
  have e2:=ha.ev (isE (h:=hk))
  have e3:=ha.ev (isE (h:=hy))
  have hb:=(hw.mem _ hm.out).2
  refine⟨(),_, .inr ⟨?_,rfl⟩,hw.turnO hu.out (Zb0 hb (mapO ek ev (mput l k0 v0)))⟩
  simp only[execOp,e1,e2,e3,hkv.out,hyv.out,Sem.run_bind,Zg5 hT.out hb,Result.andThen,Sem.run_pure]) (fun _=>Zaq hw'.out) (fun _=>h)
theorem eMe [hx:IsC (evl E x) (.map (some b))][hk:IsC (evl E k) kv][hm:MemO b L (mapO ek ev l) T0][hT:UndC P T (.map K V)][hK:KeyC P K ek][hkv:KeyV ek kv k0][hz:ZeV P V ev z0][hu:UpdO b (mapO ek ev (entM l k0 z0)) L (mapO ek ev l) T0 L'][hw':SblC Lw L'](hg:guardB ops E gd=some true)(hd:Nat.blt t n=true)
  (h:JE P w0 n ops Lw Kk rest ((t, .tuple #[ev ((mget l k0).getD z0), .int .i64 (slotL ev l k0:Nat)])::E) L'):JE P w0 n ops Lw Kk (⟨some t, .mapEntry T x k,ty,pos,aft,gd⟩::rest) E L:=
 Zcw (S:=Unit) (o:=⟨some t, .mapEntry T x k,ty,pos,aft,gd⟩) hg hd (fun _=> .tuple #[ev ((mget l k0).getD z0), .int .i64 (slotL ev l k0:Nat)]) (fun _=>L') (fun a w ha hw=>by
  have e1:=ha.ev (isE (h:=hx))
  have e2:=ha.ev (isE (h:=hk))
  have hb:=(hw.mem _ hm.out).2
  refine⟨(),_, .inl ?_,hw.turnO hu.out (Zb0 hb (mapO ek ev (entM l k0 z0)))⟩
  simp only[execOp,e1,e2,hkv.out,Sem.run_bind,Zq7 hT.out hz.out hb,Result.andThen,Sem.run_pure]) (fun _=>Zaq hw'.out) (fun _=>h)
theorem eEs [hx:IsC (evl E x) (.map (some b))][hs:IsC (evl E k) (.int .i64 (slotL ev l k0:Nat))][hy:IsC (evl E y) yv][hm:MemO b L (mapO ek ev (entM l k0 z0)) T0][hyv:KeyV ev yv v0][hu:UpdO b (mapO ek ev (mput l k0 v0)) L (mapO ek ev (entM l k0 z0)) T0 L'][hw':SblC Lw L'](hg:guardB ops E gd=some true)
  (h:JE P w0 n ops Lw Kk rest E L'):JE P w0 n ops Lw Kk (⟨none, .entryStore T x k y,ty,pos,aft,gd⟩::rest) E L:=
 Zcw (S:=Unit) (o:=⟨none, .entryStore T x k y,ty,pos,aft,gd⟩) hg rfl (fun _=>undef) (fun _=>L') (fun a w ha hw=>by
  have e1:=ha.ev (isE (h:=hx))
  have e2:=ha.ev (isE (h:=hs))
  have e3:=ha.ev (isE (h:=hy))
  have hb:=(hw.mem _ hm.out).2
  refine⟨(),_, .inr ⟨?_,rfl⟩,hw.turnO hu.out (Zb0 hb (mapO ek ev (mput l k0 v0)))⟩
  simp only[execOp,e1,e2,e3,hyv.out,Sem.run_bind,ZtP hb,Result.andThen,Sem.run_pure]) (fun _=>Zaq hw'.out) (fun _=>h)
end
end Go.Vt
namespace Go.Vt
structure Ed where
 u:Int
 v:Int
 w:Int
 i:Nat
deriving DecidableEq
abbrev Sm :=Int->Option Int
def upd {α:Type}(s:Int->α)(x:Int)(a:α):Int->α:=fun y=>if y=x then a else s y
theorem ZaK {α:Type}(s:Int->α)(x:Int)(a:α):upd s x a x=a:=if_pos rfl
theorem ZaJ {α:Type}{s:Int->α}{x y:Int}{a:α}(h:y≠x):upd s x a y=s y:=if_neg h
def hit (s:Sm)(e:Ed):Option Int:=match s e.u with
 |none=>none
 |some a=>match s e.v with
  |none=>some (a+e.w)
  |some b=>if a+e.w<b then some (a+e.w) else none
inductive Rch (E:List Ed)(S:Int->Prop):Int->Int->Prop
 |src {t:Int}:S t->Rch E S t 0
 |stp {e:Ed} {a:Int}:Rch E S e.u a->e∈E->Rch E S e.v (a+e.w)
def Dst (E:List Ed)(S:Int->Prop)(v m:Int):Prop:=Rch E S v m/\∀b,Rch E S v b->m<=b
theorem Dst.uniq {E:List Ed}{S:Int->Prop}{v m n:Int}(h:Dst E S v m)(k:Dst E S v n):m=n:=by
 have h1:=h.2 n k.1
 have h2:=k.2 m h.1
 omega
theorem Zv5 {P:Int->Prop}{L:Int}(h:∃b,P b)(hL:∀b,P b->L<=b):∃m,P m/\∀b,P b->m<=b:=by
 have key:∀n:Nat,∀b,P b->b<=L+n->∃m,P m/\∀b,P b->m<=b:=by
  intro n
  induction n with
  |zero=>
   intro b hb h1
   refine⟨b,hb,fun c hc=>?_⟩
   have:=hL c hc
   have h2:b<=L:=by simpa using h1
   omega
  |succ n ih=>
   intro b hb h1
   rcases Classical.em (∃c,P c/\c<b) with⟨c,c1,c2⟩|h2
   ·exact ih c c1 (by omega)
   ·refine⟨b,hb,fun c hc=>?_⟩
    rcases Int.lt_or_le c b with h3|h3
    ·exact(h2 ⟨c,hc,h3⟩).elim
    ·exact h3
 obtain⟨b,hb⟩:=h
 exact key (b-L).toNat b hb (by have:=hL b hb;omega)
def PotE (E:List Ed)(p:Int->Int):Prop:=∀e∈E,p e.v<=p e.u+e.w
theorem Znr {E:List Ed}{S:Int->Prop}{p:Int->Int}(hp:PotE E p){L:Int}(hL:∀t,S t->p t<=L){v b:Int}(h:Rch E S v b):p v-L<=b:=by
 induction h with
 |src h=>have:=hL _ h;omega
 |stp h1 h2 ih=>have:=hp _ h2;omega
theorem Zwo {E:List Ed}{S:Int->Prop}{p:Int->Int}(hp:PotE E p){L:Int}(hL:∀t,S t->p t<=L){v b:Int}(h:Rch E S v b):∃m,Dst E S v m:=
 Zv5 ⟨b,h⟩ fun _ hc=>Znr hp hL hc
structure Sr where
 s:Sm
 by':Int->Option Ed
 t:Int->Nat
 n:Nat
def Sr.use (q:Sr)(e:Ed):Sr:=match hit q.s e with
 |none=>q
 |some a=>⟨upd q.s e.v (some a),upd q.by' e.v (some e),upd q.t e.v (q.n+1),q.n+1⟩
def Sr.round (q:Sr)(l:List Ed):Sr:=l.foldl Sr.use q
theorem Zkr (q:Sr)(e:Ed){v b:Int}(h:q.s v=some b):∃c,(q.use e).s v=some c/\c<=b:=by
 unfold Sr.use
 cases hh:hit q.s e with
 |none=>exact⟨b,h,by omega⟩
 |some a=>
  simp only
  by_cases hv:v=e.v
  ·subst hv
   refine⟨a,ZaK _ _ _, ?_⟩
   unfold hit at hh
   cases h1:q.s e.u with
   |none=>simp[h1] at hh
   |some c=>
    simp only[h1,h] at hh
    split at hh
    ·simp at hh;omega
    ·simp at hh
  ·exact⟨b,by rw[ZaJ hv];exact h,by omega⟩
theorem Zhk :∀(l:List Ed)(q:Sr) {v b:Int},q.s v=some b->∃c,(q.round l).s v=some c/\c<=b
 |[],_,_,b,h=>⟨b,h,by omega⟩
 |e::l,q,v,b,h=>by
  obtain⟨c,h1,h2⟩:=Zkr q e h
  obtain⟨d,h3,h4⟩:=Zhk l (q.use e) h1
  exact⟨d,h3,by omega⟩
theorem ZuU {E:List Ed}{S:Int->Prop}{s:Sm}(hI:∀v b,s v=some b->Rch E S v b){e:Ed}(he:e∈E){a:Int}(h:hit s e=some a):Rch E S e.v a:=by
 unfold hit at h
 cases h1:s e.u with
 |none=>simp[h1] at h
 |some c=>
  have h2:=Rch.stp (hI _ _ h1) he
  simp only[h1] at h
  cases h3:s e.v with
  |none=>
   simp only[h3] at h
   injection h with h
   rw[<-h];exact h2
  |some d=>
   simp only[h3] at h
   split at h
   ·injection h with h
    rw[<-h];exact h2
   ·cases h
structure SrOk (E:List Ed)(S:Int->Prop)(q:Sr):Prop where
 r:∀v b,q.s v=some b->Rch E S v b
 src:∀t,S t->∃c,q.s t=some c
 le:∀v,q.t v<=q.n
 by1:∀v e,q.by' v=some e->e∈E/\e.v=v/\∃a b,q.s e.u=some a/\q.s v=some b/\(a+e.w<b\/(a+e.w=b/\q.t e.u<q.t v))
 by0:∀v b,q.by' v=none->q.s v=some b->S v/\b=0
theorem SrOk.use {E:List Ed}{S:Int->Prop}{q:Sr}(h:SrOk E S q){e:Ed}(he:e∈E):SrOk E S (q.use e):=by
 unfold Sr.use
 cases hh:hit q.s e with
 |none=>exact h
 |some a=>
  simp only
  have hr:=ZuU h.r he hh
  obtain⟨c,hc,hca⟩:∃c,q.s e.u=some c/\a=c+e.w:=by
   unfold hit at hh
   cases h1:q.s e.u with
   |none=>simp[h1] at hh
   |some c=>
    simp only[h1] at hh
    refine⟨c,rfl, ?_⟩
    cases h3:q.s e.v with
    |none=>simp only[h3] at hh;injection hh with hh;exact hh.symm
    |some d=>
     simp only[h3] at hh
     split at hh
     ·injection hh with hh;exact hh.symm
     ·cases hh
  have hlt:∀b,q.s e.v=some b->a<b:=fun b hb=>by
   unfold hit at hh
   simp only[hc,hb] at hh
   split at hh
   ·injection hh with hh;omega
   ·cases hh
  refine⟨fun v b hv=>?_,fun t ht=>?_,fun v=>?_,fun v f hf=>?_,fun v b hb hv=>?_⟩
  ·dsimp only at hv
   by_cases h1:v=e.v
   ·subst h1
    rw[ZaK] at hv
    injection hv with hv
    rw[<-hv];exact hr
   ·rw[ZaJ h1] at hv
    exact h.r v b hv
  ·dsimp only
   by_cases h1:t=e.v
   ·subst h1;exact⟨a,ZaK _ _ _⟩
   ·rw[ZaJ h1];exact h.src t ht
  ·dsimp only
   by_cases h1:v=e.v
   ·subst h1;rw[ZaK];omega
   ·rw[ZaJ h1];have:=h.le v;omega
  ·dsimp only at hf⊢
   by_cases h1:v=e.v
   ·subst h1
    rw[ZaK] at hf
    injection hf with hf
    subst hf
    refine⟨he,rfl, ?_⟩
    by_cases h2:e.u=e.v
    ·refine⟨a,a,by rw[h2];exact ZaK _ _ _,ZaK _ _ _, ?_⟩
     have h3:=hlt c (by rw[<-h2];exact hc)
     exact .inl (by omega)
    ·refine⟨c,a,by rw[ZaJ h2];exact hc,ZaK _ _ _, .inr ⟨hca.symm, ?_⟩⟩
     rw[ZaJ h2,ZaK]
     have:=h.le e.u
     omega
   ·rw[ZaJ h1] at hf
    obtain⟨f1,f2,a',b',f3,f4,f5⟩:=h.by1 v f hf
    refine⟨f1,f2, ?_⟩
    by_cases h2:f.u=e.v
    ·refine⟨a,b',by rw[h2];exact ZaK _ _ _,by rw[ZaJ h1];exact f4, .inl ?_⟩
     have h3:=hlt a' (by rw[<-h2];exact f3)
     rcases f5 with f5|f5
     ·omega
     ·have:=f5.1;omega
    ·refine⟨a',b',by rw[ZaJ h2];exact f3,by rw[ZaJ h1];exact f4, ?_⟩
     rw[ZaJ h2,ZaJ h1]
     exact f5
  ·dsimp only at hb hv
   by_cases h1:v=e.v
   ·subst h1
    rw[ZaK] at hb
    cases hb
   ·rw[ZaJ h1] at hb hv
    exact h.by0 v b hb hv
theorem ZaT (q:Sr)(e:Ed)(l:List Ed):q.round (e::l)=(q.use e).round l:=rfl
theorem SrOk.round {E:List Ed}{S:Int->Prop}:∀{l:List Ed} {q:Sr},SrOk E S q->(∀e∈l,e∈E)->SrOk E S (q.round l)
 |[],_,h,_=>h
 |e::l,q,h,hl=>by
  rw[ZaT]
  exact SrOk.round (h.use (hl e (.head _))) fun f hf=>hl f (.tail _ hf)
theorem Zbo {q:Sr}{e:Ed}(h:hit q.s e=none):q.use e=q:=by
 unfold Sr.use
 rw[h]
theorem Zgn {q:Sr}{e:Ed}{a:Int}(h:hit q.s e=some a):(q.use e).n=q.n+1:=by
 unfold Sr.use
 rw[h]
theorem ZeS :∀(l:List Ed)(q:Sr),q.n<=(q.round l).n
 |[],_=>Wl _
 |e::l,q=>by
  rw[ZaT]
  have h1:=ZeS l (q.use e)
  cases h:hit q.s e with
  |none=>rw[Zbo h] at h1⊢;exact h1
  |some a=>have:=Zgn h;omega
theorem Zg9 :∀{l:List Ed} {q:Sr},(q.round l).n=q.n->q.round l=q/\∀e∈l,hit q.s e=none
 |[],_,_=>⟨rfl,fun _ h=>by cases h⟩
 |e::l,q,h=>by
  rw[ZaT] at h⊢
  cases hh:hit q.s e with
  |none=>
   rw[Zbo hh] at h⊢
   obtain⟨h1,h2⟩:=Zg9 h
   exact⟨h1,fun f hf=>by
    rcases List.mem_cons.1 hf with rfl|hf
    ·exact hh
    ·exact h2 f hf⟩
  |some a=>
   have h1:=ZeS l (q.use e)
   have h2:=Zgn hh
   omega
theorem Zfq :∀{l:List Ed} {q:Sr},(∀e∈l,hit q.s e=none)->q.round l=q
 |[],_,_=>rfl
 |e::l,q,h=>by
  rw[ZaT,Zbo (h e (.head _))]
  exact Zfq fun f hf=>h f (.tail _ hf)
def Fin' (E:List Ed)(S:Int->Prop)(s:Sm)(v:Int):Prop:=∃m,Dst E S v m/\s v=some m
theorem SrOk.fin_use {E:List Ed}{S:Int->Prop}{q:Sr}(h:SrOk E S q){e:Ed}(he:e∈E){v:Int}(hv:Fin' E S q.s v):Fin' E S (q.use e).s v:=by
 obtain⟨m,h1,h2⟩:=hv
 obtain⟨c,h3,h4⟩:=Zkr q e h2
 have h5:=h1.2 c ((h.use he).r v c h3)
 have:c=m:=by omega
 subst this
 exact⟨c,h1,h3⟩
theorem SrOk.fin_round {E:List Ed}{S:Int->Prop}:∀{l:List Ed} {q:Sr},SrOk E S q->(∀e∈l,e∈E)->∀{v:Int},Fin' E S q.s v->Fin' E S (q.round l).s v
 |[],_,_,_,_,hv=>hv
 |e::l,q,h,hl,v,hv=>by
  rw[ZaT]
  exact SrOk.fin_round (h.use (hl e (.head _))) (fun f hf=>hl f (.tail _ hf)) (h.fin_use (hl e (.head _)) hv)
theorem SrOk.edge {E:List Ed}{S:Int->Prop}{q:Sr}(h:SrOk E S q)(hS:∀t,S t->∃c,q.s t=some c/\c<=0){v b:Int}(hr:Rch E S v b)(hd:∀c,Rch E S v c->b<=c)(hn:¬Fin' E S q.s v):
  ∃e∈E,∃a,Dst E S e.u a/\Fin' E S q.s e.u/\¬Fin' E S q.s e.v/\Dst E S e.v (a+e.w):=by
 induction hr with
 | @src t ht=>
  obtain⟨c,h1,h2⟩:=hS t ht
  have h3:=hd c (h.r t c h1)
  have:c=0:=by omega
  subst this
  exact(hn ⟨0,⟨.src ht,hd⟩,h1⟩).elim
 | @stp e a h1 h2 ih=>
  have h3:∀c,Rch E S e.u c->a<=c:=fun c hc=>by
   have:=hd _ (.stp hc h2)
   omega
  rcases Classical.em (Fin' E S q.s e.u) with h4|h4
  ·exact⟨e,h2,a,⟨h1,h3⟩,h4,hn, .stp h1 h2,hd⟩
  ·exact ih h3 h4
theorem SrOk.reach {E:List Ed}{S:Int->Prop}:∀{l:List Ed} {q:Sr},SrOk E S q->(∀e∈l,e∈E)->∀{e:Ed},e∈l->∀{a:Int},Fin' E S q.s e.u->Dst E S e.u a->Dst E S e.v (a+e.w)->Fin' E S (q.round l).s e.v
 |f::l,q,h,hl,e,he,a,hf,hu,hv=>by
  have hfE:=hl f (.head _)
  rw[ZaT]
  rcases List.mem_cons.1 he with rfl|he
  ·refine SrOk.fin_round (h.use hfE) (fun g hg=>hl g (.tail _ hg)) ?_
   obtain⟨m,m1,m2⟩:=hf
   have hm:=m1.uniq hu
   subst hm
   refine⟨m+e.w,hv, ?_⟩
   unfold Sr.use
   cases hh:hit q.s e with
   |none=>
    simp only
    unfold hit at hh
    simp only[m2] at hh
    cases h3:q.s e.v with
    |none=>simp[h3] at hh
    |some b=>
     simp only[h3] at hh
     split at hh
     ·cases hh
     ·have h4:=hv.2 b (h.r _ _ h3)
      have:b=m+e.w:=by omega
      rw[this]
   |some b=>
    simp only
    rw[ZaK]
    unfold hit at hh
    simp only[m2] at hh
    cases h3:q.s e.v with
    |none=>simp only[h3] at hh;exact hh.symm
    |some c=>
     simp only[h3] at hh
     split at hh
     ·exact hh.symm
     ·cases hh
  ·exact SrOk.reach (h.use hfE) (fun g hg=>hl g (.tail _ hg)) he (h.fin_use hfE hf) hu hv
theorem ZkA {α:Type}{p r:α->Bool}:∀{V:List α},(∀x∈V,p x=true->r x=true)->(∃x∈V,p x=false/\r x=true)->V.countP p<V.countP r
 |[],_,⟨x,hx,_⟩=>by cases hx
 |y::V,h,⟨x,hx,h1,h2⟩=>by
  have hle:V.countP p<=V.countP r:=List.countP_mono_left fun z hz hp=>h z (.tail _ hz) hp
  rw[List.countP_cons,List.countP_cons]
  rcases List.mem_cons.1 hx with rfl|hx
  ·simp only[h1,h2]
   simp
   omega
  ·have:=ZkA (fun z hz=>h z (.tail _ hz)) ⟨x,hx,h1,h2⟩
   have h3:=h y (.head _)
   by_cases hp:p y=true
   ·simp only[hp,h3 hp];omega
   ·by_cases hr:r y=true
    ·simp only[hp,hr];simp;omega
    ·simp only[hp,hr];simpa using this
open Classical in
noncomputable def cntFin (E:List Ed)(S:Int->Prop)(V:List Int)(s:Sm):Nat:=V.countP fun v=>decide (Fin' E S s v)
def Sr.rounds (q:Sr)(l:List Ed):Nat->Sr
 |0=>q
 |k+1=>(q.rounds l k).round l
theorem SrOk.rounds {E:List Ed}{S:Int->Prop}{q:Sr}(h:SrOk E S q):∀k,SrOk E S (q.rounds E k)
 |0=>h
 |k+1=>(h.rounds k).round fun _ he=>he
theorem ZcQ {E:List Ed}{q:Sr}{t:Int}(h:∃c,q.s t=some c/\c<=0):∀k,∃c,(q.rounds E k).s t=some c/\c<=0
 |0=>h
 |k+1=>by
  obtain⟨c,h1,h2⟩:=ZcQ (E:=E) h k
  obtain⟨d,h3,h4⟩:=Zhk E _ h1
  exact⟨d,h3,by omega⟩
open Classical in
theorem SrOk.many {E:List Ed}{S:Int->Prop}{q:Sr}(h:SrOk E S q)(hS:∀t,S t->∃c,q.s t=some c/\c<=0){p:Int->Int}(hp:PotE E p){L:Int}(hL:∀t,S t->p t<=L){V:List Int}(hV:∀v b,Rch E S v b->v∈V):
  ∀k,(∀v b,Rch E S v b->Fin' E S (q.rounds E k).s v)\/k<=cntFin E S V (q.rounds E k).s
 |0=> .inr (Wm _)
 |k+1=>by
  rcases Classical.em (∀v b,Rch E S v b->Fin' E S (q.rounds E (k+1)).s v) with h0|h0
  ·exact .inl h0
  ·refine .inr ?_
   have hk:=h.rounds k
   have ih:k<=cntFin E S V (q.rounds E k).s:=by
    rcases h.many hS hp hL hV k with h1|h1
    ·exact(h0 fun v b hb=>hk.fin_round (fun _ he=>he) (h1 v b hb)).elim
    ·exact h1
   refine Nat.lt_of_le_of_lt ih (ZkA (fun v _ hv=>Wc (hk.fin_round (fun _ he=>he) (Wa hv))) ?_)
   have h1:∃v b,Rch E S v b/\¬Fin' E S (q.rounds E k).s v:=by
    rcases Classical.em (∃v b,Rch E S v b/\¬Fin' E S (q.rounds E k).s v) with h2|h2
    ·exact h2
    ·refine(h0 fun v b hb=>hk.fin_round (fun _ he=>he) ?_).elim
     rcases Classical.em (Fin' E S (q.rounds E k).s v) with h3|h3
     ·exact h3
     ·exact(h2 ⟨v,b,hb,h3⟩).elim
   obtain⟨v,b,hb,hn⟩:=h1
   obtain⟨m,m1,m2⟩:=Zwo hp hL hb
   obtain⟨e,e1,a,e2,e3,e4,e5⟩:=hk.edge (fun t ht=>ZcQ (hS t ht) k) m1 m2 hn
   refine⟨e.v,hV _ _ e5.1,We e4,Wc ?_⟩
   exact hk.reach (fun _ he=>he) e1 e3 e2 e5
open Classical in
theorem SrOk.all {E:List Ed}{S:Int->Prop}{q:Sr}(h:SrOk E S q)(hS:∀t,S t->∃c,q.s t=some c/\c<=0){p:Int->Int}(hp:PotE E p){L:Int}(hL:∀t,S t->p t<=L){V:List Int}(hV:∀v b,Rch E S v b->v∈V):
  ∀v b,Rch E S v b->Fin' E S (q.rounds E V.length).s v:=fun v b hb=>by
 rcases h.many hS hp hL hV V.length with h1|h1
 ·exact h1 v b hb
 ·have h2:cntFin E S V (q.rounds E V.length).s=V.length:=Nat.le_antisymm List.countP_le_length h1
  exact Wa (List.countP_eq_length.1 h2 v (hV v b hb))
theorem SrOk.noHit {E:List Ed}{S:Int->Prop}{q:Sr}(h:SrOk E S q)(hf:∀v b,Rch E S v b->Fin' E S q.s v):∀e∈E,hit q.s e=none:=fun e he=>by
 unfold hit
 cases h1:q.s e.u with
 |none=>rfl
 |some a=>
  have h2:=h.r _ _ h1
  obtain⟨m,m1,m2⟩:=hf _ _ (.stp h2 he)
  have h3:=m1.2 _ (.stp h2 he)
  simp only[m2]
  rw[if_neg (by omega)]
theorem SrOk.dst {E:List Ed}{S:Int->Prop}{q:Sr}(h:SrOk E S q)(hS:∀t,S t->∃c,q.s t=some c/\c<=0)(hn:∀e∈E,hit q.s e=none){v b:Int}(hb:Rch E S v b):∃m,q.s v=some m/\Dst E S v m:=by
 have key:∀{v b:Int},Rch E S v b->∃m,q.s v=some m/\m<=b:=fun hb=>by
  induction hb with
  |src ht=>exact hS _ ht
  | @stp e a h1 h2 ih=>
   obtain⟨m,m1,m2⟩:=ih
   have h3:=hn e h2
   unfold hit at h3
   simp only[m1] at h3
   cases h4:q.s e.v with
   |none=>simp[h4] at h3
   |some c=>
    simp only[h4] at h3
    split at h3
    ·cases h3
    ·exact⟨c,rfl,by omega⟩
 obtain⟨m,m1,m2⟩:=key hb
 exact⟨m,m1,h.r _ _ m1,fun c hc=>by
  obtain⟨n,n1,n2⟩:=key hc
  rw[m1] at n1
  injection n1 with n1
  omega⟩
inductive Bk (q:Sr)(t0:Int):Int->List Ed->Prop
 |nil:Bk q t0 t0 []
 |cons {v:Int} {e:Ed} {p:List Ed}:v≠t0->q.by' v=some e->e.v=v->Bk q t0 e.u p->Bk q t0 v (e::p)
def wSum :List Ed->Int
 |[]=>0
 |e::p=>wSum p+e.w
theorem SrOk.tight {E:List Ed}{t0:Int}{q:Sr}(h:SrOk E (· =t0) q)(hn:∀e∈E,hit q.s e=none){v b:Int}(hb:q.s v=some b)(hv:v≠t0):
  ∃e a,q.by' v=some e/\e∈E/\e.v=v/\q.s e.u=some a/\a+e.w=b/\q.t e.u<q.t v:=by
 cases h1:q.by' v with
 |none=>exact(hv (h.by0 v b h1 hb).1).elim
 |some e=>
  obtain⟨e1,e2,a,c,e3,e4,e5⟩:=h.by1 v e h1
  rw[hb] at e4
  injection e4 with e4
  subst e4
  have h2:=hn e e1
  unfold hit at h2
  rw[e2] at h2
  simp only[e3,hb] at h2
  split at h2
  ·cases h2
  ·rcases e5 with e5|e5
   ·omega
   ·exact⟨e,a,rfl,e1,e2,e3,e5.1,e5.2⟩
theorem SrOk.bk {E:List Ed}{t0:Int}{q:Sr}(h:SrOk E (· =t0) q)(hn:∀e∈E,hit q.s e=none){c:Int}(h0:q.s t0=some c):
  ∀(k:Nat)(v b:Int),q.t v<k->q.s v=some b->∃p,Bk q t0 v p/\p.length<=q.t v/\wSum p+c=b/\∀e∈p,e∈E
 |0,_,_,hk,_=>by omega
 |k+1,v,b,hk,hb=>by
  by_cases hv:v=t0
  ·subst hv
   rw[h0] at hb
   injection hb with hb
   exact⟨[], .nil,Wm _,by rw[wSum];omega,fun _ he=>by cases he⟩
  ·obtain⟨e,a,e1,e2,e3,e4,e5,e6⟩:=h.tight hn hb hv
   obtain⟨p,p1,p2,p3,p4⟩:=SrOk.bk h hn h0 k e.u a (by omega) e4
   refine⟨e::p, .cons hv e1 e3 p1,by rw[Wu];omega,by rw[wSum];omega,fun f hf=>?_⟩
   rcases List.mem_cons.1 hf with rfl|hf
   ·exact e2
   ·exact p4 f hf
def Agd (q:Sr)(m:Nat)(e:Ed):Prop:=hit q.s e=none\/m<q.t e.u
theorem Agd.use {q:Sr}{m:Nat}(hm:m<=q.n){f:Ed}(h:Agd q m f)(e:Ed):Agd (q.use e) m f:=by
 cases hh:hit q.s e with
 |none=>rw[Zbo hh];exact h
 |some a=>
  unfold Sr.use
  rw[hh]
  unfold Agd at*
  simp only
  by_cases h1:f.u=e.v
  ·rw[h1,ZaK]
   exact .inr (by omega)
  ·rw[ZaJ h1]
   rcases h with h|h
   ·refine .inl ?_
    unfold hit at*
    simp only[ZaJ h1]
    cases h2:q.s f.u with
    |none=>rfl
    |some c=>
     simp only[h2] at h⊢
     by_cases h3:f.v=e.v
     ·rw[h3,ZaK]
      rw[h3] at h
      cases h4:q.s e.v with
      |none=>simp[h4] at h
      |some d=>
       simp only[h4] at h hh
       split at h
       ·cases h
       ·simp only
        cases h5:q.s e.u with
        |none=>simp[h5] at hh
        |some g=>
         simp only[h5] at hh
         split at hh
         ·injection hh with hh
          rw[if_neg (by omega)]
         ·cases hh
     ·rw[ZaJ h3];exact h
   ·exact .inr h
theorem Zrz {q:Sr}{m:Nat}(hm:m<=q.n)(e:Ed):Agd (q.use e) m e:=by
 cases hh:hit q.s e with
 |none=>rw[Zbo hh];exact .inl hh
 |some a=>
  unfold Sr.use
  rw[hh]
  unfold Agd
  simp only
  by_cases h1:e.u=e.v
  ·rw[h1,ZaK]
   exact .inr (by omega)
  ·refine .inl ?_
   unfold hit at*
   simp only[ZaJ h1,ZaK]
   cases h2:q.s e.u with
   |none=>rfl
   |some c=>
    simp only[h2] at hh⊢
    cases h4:q.s e.v with
    |none=>
     simp only[h4] at hh
     injection hh with hh
     rw[if_neg (by omega)]
    |some d=>
     simp only[h4] at hh
     split at hh
     ·injection hh with hh
      rw[if_neg (by omega)]
     ·cases hh
theorem ZkB (q:Sr)(e:Ed):q.n<=(q.use e).n:=by
 cases hh:hit q.s e with
 |none=>rw[Zbo hh];exact Wl _
 |some a=>rw[Zgn hh];omega
theorem Agd.round {m:Nat}{f:Ed}:∀{l:List Ed} {q:Sr},m<=q.n->Agd q m f->Agd (q.round l) m f
 |[],_,_,h=>h
 |e::l,q,hm,h=>by
  rw[ZaT]
  have:=ZkB q e
  exact Agd.round (by omega) (h.use hm e)
theorem Zix {m:Nat}{f:Ed}:∀{l:List Ed} {q:Sr},m<=q.n->f∈l->Agd (q.round l) m f
 |e::l,q,hm,hf=>by
  rw[ZaT]
  have:=ZkB q e
  rcases List.mem_cons.1 hf with rfl|hf
  ·exact Agd.round (by omega) (Zrz hm f)
  ·exact Zix (by omega) hf
def Lat (q:Sr)(m k:Nat):Prop:=∀v,k<q.t v->∃e,q.by' v=some e/\m<q.t e.u
theorem Lat.use {q:Sr}{m k:Nat}(hm:m<=q.n)(h:Lat q m k){e:Ed}(he:Agd q m e):Lat (q.use e) m k:=by
 cases hh:hit q.s e with
 |none=>rw[Zbo hh];exact h
 |some a=>
  have ht:m<q.t e.u:=by
   rcases he with he|he
   ·rw[hh] at he;cases he
   ·exact he
  unfold Sr.use
  rw[hh]
  intro v hv
  simp only at hv⊢
  have key:∀x,m<q.t x->m<upd q.t e.v (q.n+1) x:=fun x hx=>by
   by_cases h1:x=e.v
   ·rw[h1,ZaK];omega
   ·rw[ZaJ h1];exact hx
  by_cases h1:v=e.v
  ·subst h1
   rw[ZaK]
   exact⟨e,rfl,key _ ht⟩
  ·rw[ZaJ h1] at hv⊢
   obtain⟨f,f1,f2⟩:=h v hv
   exact⟨f,f1,key _ f2⟩
theorem Lat.round {m k:Nat}:∀{l:List Ed} {q:Sr},m<=q.n->Lat q m k->(∀e∈l,Agd q m e)->Lat (q.round l) m k
 |[],_,_,h,_=>h
 |e::l,q,hm,h,hl=>by
  rw[ZaT]
  have:=ZkB q e
  exact Lat.round (by omega) (h.use hm (hl e (.head _))) fun f hf=>(hl f (.tail _ hf)).use hm e
def HasBy (E:List Ed)(q:Sr):Prop:=∀v,0<q.t v->∃e∈E,q.by' v=some e/\e.v=v
theorem HasBy.use {E:List Ed}{q:Sr}(h:HasBy E q){e:Ed}(he:e∈E):HasBy E (q.use e):=by
 cases hh:hit q.s e with
 |none=>rw[Zbo hh];exact h
 |some a=>
  unfold Sr.use
  rw[hh]
  intro v hv
  simp only at hv⊢
  by_cases h1:v=e.v
  ·subst h1
   exact⟨e,he,ZaK _ _ _,rfl⟩
  ·rw[ZaJ h1] at hv⊢
   exact h v hv
theorem HasBy.round {E:List Ed}:∀{l:List Ed} {q:Sr},HasBy E q->(∀e∈l,e∈E)->HasBy E (q.round l)
 |[],_,h,_=>h
 |e::l,q,h,hl=>by
  rw[ZaT]
  exact HasBy.round (h.use (hl e (.head _))) fun f hf=>hl f (.tail _ hf)
theorem HasBy.rounds {E:List Ed}{q:Sr}(h:HasBy E q):∀k,HasBy E (q.rounds E k)
 |0=>h
 |k+1=>(h.rounds k).round fun _ he=>he
theorem ZgI (q:Sr)(E:List Ed){i:Nat}:∀{j:Nat},i<=j->(q.rounds E i).n<=(q.rounds E j).n
 |0,h=>by
  have:i=0:=by omega
  subst this
  exact Wl _
 |j+1,h=>by
  rcases Nat.lt_or_ge i (j+1) with h1|h1
  ·exact Wi (ZgI q E (show i<=j by omega)) (ZeS _ _)
  ·have:i=j+1:=by omega
   subst this
   exact Wl _
theorem ZdE {E:List Ed}{q:Sr}{i:Nat}{e:Ed}(he:e∈E):∀{j:Nat},i<j->Agd (q.rounds E j) (q.rounds E i).n e
 |j+1,h=>by
  have hn:=ZgI q E (show i<=j by omega)
  rcases Nat.lt_or_ge i j with h1|h1
  ·exact Agd.round hn (ZdE he h1)
  ·have:i=j:=by omega
   subst this
   exact Zix (Wl _) he
theorem Zhj {E:List Ed}{S:Int->Prop}{q:Sr}(h:SrOk E S q){i:Nat}:∀{j:Nat},i<j->Lat (q.rounds E j) (q.rounds E i).n (q.rounds E (i+1)).n
 |j+1,hj=>by
  have hn:=ZgI q E (show i<=j by omega)
  rcases Nat.lt_or_ge i j with h1|h1
  ·exact Lat.round hn (Zhj h h1) fun e he=>ZdE he h1
  ·have:i=j:=by omega
   subst this
   intro v hv
   have:=(h.rounds (i+1)).le v
   omega
def back (by':Int->Option Ed)(v:Int):Int:=match by' v with
 |some e=>e.u
 |none=>v
def itr {α:Type}(f:α->α):Nat->α->α
 |0,x=>x
 |n+1,x=>itr f n (f x)
theorem ZiV {by':Int->Option Ed}{v:Int}{e:Ed}(h:by' v=some e):back by' v=e.u:=by
 unfold back
 rw[h]
theorem ZdH {α:Type}(f:α->α):∀(m n:Nat)(x:α),itr f (m+n) x=itr f n (itr f m x)
 |0,n,x=>by rw[Nat.zero_add];rfl
 |m+1,n,x=>by rw[Nat.succ_add];exact ZdH f m n (f x)
theorem ZgS {α:Type}(f:α->α)(n:Nat)(x:α):itr f (n+1) x=f (itr f n x):=ZdH f n 1 x
theorem pigeon :∀(V:List Int)(n:Nat)(f:Nat->Int),V.length<n->(∀i,i<n->f i∈V)->∃i j,i<j/\j<n/\f i=f j
 |[],n,f,h,hf=>by
  have:=hf 0 (by simp at h;omega)
  cases this
 |x::V,n,f,h,hf=>by
  rcases Classical.em (∃i j,i<j/\j<n/\f i=f j) with h0|h0
  ·exact h0
  ·exfalso
   have inj:∀i j,i<n->j<n->f i=f j->i=j:=fun i j hi hj e=>by
    rcases Nat.lt_trichotomy i j with h1|h1|h1
    ·exact(h0 ⟨i,j,h1,hj,e⟩).elim
    ·exact h1
    ·exact(h0 ⟨j,i,h1,hi,e.symm⟩).elim
   rw[Wu] at h
   rcases Classical.em (∃k,k<n/\f k=x) with⟨k,k1,k2⟩|h2
   ·obtain⟨i,j,h3,h4,h5⟩:=pigeon V (n-1) (fun i=>if i<k then f i else f (i+1)) (by omega) (fun i hi=>by
     have key:∀m,m<n->m≠k->f m∈V:=fun m hm hk=>by
      rcases List.mem_cons.1 (hf m hm) with h6|h6
      ·exact(hk (inj m k hm k1 (h6.trans k2.symm))).elim
      ·exact h6
     split
     ·exact key i (by omega) (by omega)
     ·exact key (i+1) (by omega) (by omega))
    split at h5 <;> split at h5
    ·have:=inj _ _ (by omega) (by omega) h5;omega
    ·have:=inj _ _ (by omega) (by omega) h5;omega
    ·have:=inj _ _ (by omega) (by omega) h5;omega
    ·have:=inj _ _ (by omega) (by omega) h5;omega
   ·obtain⟨i,j,h3,h4,h5⟩:=pigeon V n f (by omega) (fun i hi=>by
     rcases List.mem_cons.1 (hf i hi) with h6|h6
     ·exact(h2 ⟨i,hi,h6⟩).elim
     ·exact h6)
    exact h0 ⟨i,j,h3,h4,h5⟩
theorem ZnE {E:List Ed}{S:Int->Prop}{q:Sr}(h:SrOk E S q)(hH:HasBy E q){V:List Int}(hV:∀e∈E,e.u∈V){K:Nat}(hK:V.length<K){e0:Ed}(he:e0∈E){a:Int}(hh:hit (q.rounds E K).s e0=some a):
  ∃d,1<=d/\d<=K/\itr (back (upd (q.rounds E K).by' e0.v (some e0))) d (itr (back (upd (q.rounds E K).by' e0.v (some e0))) K e0.v)=itr (back (upd (q.rounds E K).by' e0.v (some e0))) K e0.v/\
   ∀m,∃e∈E,upd (q.rounds E K).by' e0.v (some e0) (itr (back (upd (q.rounds E K).by' e0.v (some e0))) m e0.v)=some e:=by
 have hHK:=hH.rounds K
 obtain⟨B,hB⟩:∃B,B=upd (q.rounds E K).by' e0.v (some e0):=⟨_,rfl⟩
 rw[<-hB]
 have b0:B e0.v=some e0:=by rw[hB];exact ZaK _ _ _
 have bn:∀v,v≠e0.v->B v=(q.rounds E K).by' v:=fun v hv=>by rw[hB];exact ZaJ hv
 -- late places
 have late:∀i,i<K->(q.rounds E (K-1-i)).n<(q.rounds E K).t (itr (back B) (i+1) e0.v):=by
  intro i
  induction i with
  |zero=>
   intro hi
   have h1:itr (back B) 1 e0.v=e0.u:=by
    show back B e0.v=_
    unfold back
    rw[b0]
   rw[h1,show K-1-0=K-1 by omega]
   rcases ZdE (q:=q) (i:=K-1) (j:=K) he (by omega) with h2|h2
   ·rw[hh] at h2;cases h2
   ·exact h2
  |succ i ih=>
   intro hi
   have ih:=ih (by omega)
   rw[ZgS]
   have hs:∀v,(q.rounds E (K-1-i)).n<(q.rounds E K).t v->(q.rounds E (K-1-(i+1))).n<(q.rounds E K).t (back B v):=fun v hv=>by
    by_cases h1:v=e0.v
    ·have h2:back B v=e0.u:=by unfold back;rw[h1,b0]
     rw[h2]
     rcases ZdE (q:=q) (i:=K-1-(i+1)) (j:=K) he (by omega) with h3|h3
     ·rw[hh] at h3;cases h3
     ·exact h3
    ·obtain⟨e,e1,e2⟩:=Zhj h (i:=K-1-(i+1)) (j:=K) (by omega) v (by rw[show K-1-(i+1)+1=K-1-i by omega];exact hv)
     have h2:back B v=e.u:=by unfold back;rw[bn v h1,e1]
     rw[h2]
     exact e2
   exact hs _ ih
 have some':∀i,i<=K->∃e∈E,B (itr (back B) i e0.v)=some e:=fun i hi=>by
  cases i with
  |zero=>exact⟨e0,he,b0⟩
  |succ i=>
   by_cases h1:itr (back B) (i+1) e0.v=e0.v
   ·rw[h1];exact⟨e0,he,b0⟩
   ·obtain⟨e,e1,e2, -⟩:=hHK (itr (back B) (i+1) e0.v) (Nat.lt_of_le_of_lt (Wm _) (late i (by omega)))
    exact⟨e,e1,by rw[bn _ h1];exact e2⟩
 have inV:∀i,i<K->itr (back B) (i+1) e0.v∈V:=fun i hi=>by
  obtain⟨e,e1,e2⟩:=some' i (by omega)
  rw[ZgS]
  rw[ZiV e2]
  exact hV e e1
 obtain⟨i,j,h1,h2,h3⟩:=pigeon V K (fun i=>itr (back B) (i+1) e0.v) hK inV
 have per:∀m,i+1<=m->itr (back B) (m+(j-i)) e0.v=itr (back B) m e0.v:=fun m hm=>by
  rw[show m+(j-i)=j+1+(m-(i+1)) by omega,ZdH,<-h3,<-ZdH,show i+1+(m-(i+1))=m by omega]
 refine⟨j-i,by omega,by omega, ?_, ?_⟩
 ·rw[<-ZdH]
  exact per K (by omega)
 ·intro m
  induction m using Nat.strongRecOn with
  |ind m ih=>
   rcases Nat.lt_or_ge K m with h4|h4
   ·have h5:=per (m-(j-i)) (by omega)
    rw[show m-(j-i)+(j-i)=m by omega] at h5
    rw[h5]
    exact ih _ (by omega)
   ·exact some' m h4
end Go.Vt
