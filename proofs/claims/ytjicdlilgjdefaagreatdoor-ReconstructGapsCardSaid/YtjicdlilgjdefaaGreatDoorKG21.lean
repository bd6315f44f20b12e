/- that the gaps between reports are those of the chain (part 21 of 32.) Conditions: those that each statement names. -/
import Derived.Test.YtjicdlilgjdefaaGreatDoorKG16
import Derived.Test.YtjicdlilgjdefaaGreatDoorKG17
import Derived.Test.YtjicdlilgjdefaaGreatDoorKG20
set_option linter.unusedSimpArgs false
set_option linter.unusedVariables false
set_option maxHeartbeats 2000000
set_option maxRecDepth 100000
namespace Go.Vt
open Go.RowKit Go.Proofs
open Go.Proofs.Tryz (prog)
section
def RevI (xs ys:List Int)(i:Nat):Prop:=ys.length=xs.length/\∀p:Nat,p<xs.length->gi ys (p:Int)=if p<i\/xs.length<=p+i then gi xs ((xs.length-1-p:Nat):Int) else gi xs (p:Int)
theorem RevI.end_ {xs ys:List Int}{i:Nat}(h:RevI xs ys i)(hi:xs.length<=2*i+1)(hi2:2*i<=xs.length):ys=xs.reverse:=by
 obtain⟨h1,h2⟩:=h
 apply List.ext_getElem
 ·rw[List.length_reverse,h1]
 ·intro p hp hq
  rw[h1] at hp
  have h3:=h2 p hp
  rw[Zj (by rw[h1];exact hp)] at h3
  rw[h3,List.getElem_reverse]
  split
  ·rw[Zj (by omega)]
  ·have:xs.length-1-p=p:=by omega
   rw[Zj hp]
   simp only[this]
theorem Zmv {ys:List Int}{j p:Nat}{v:Int}(hj:j<ys.length)(hp:p<ys.length):gi (ys.set j v) (p:Int)=if p=j then v else gi ys (p:Int):=by
 rw[Zj (by rw[List.length_set];exact hp),List.getElem_set]
 by_cases h:p=j
 ·rw[if_pos h.symm,if_pos h]
 ·rw[if_neg (fun h2=>h h2.symm),if_neg h,Zj hp]
theorem RevI.step {xs ys:List Int}{i j:Nat}(h:RevI xs ys i)(hj:j+i+1=xs.length)(hlt:i<j):RevI xs ((ys.set i (gi ys (j:Int))).set j (gi ys (i:Int))) (i+1):=by
 obtain⟨h1,h2⟩:=h
 refine⟨by rw[List.length_set,List.length_set,h1],fun p hp=>?_⟩
 rw[Zmv (by rw[List.length_set];omega) (by rw[List.length_set];omega),Zmv (by omega) (by omega)]
 have a1:=h2 i (by omega)
 have a2:=h2 j (by omega)
 rw[if_neg (by omega)] at a1 a2
 by_cases c1:p=j
 ·subst c1
  rw[if_pos rfl,if_pos (by omega),a1]
  congr 2
  omega
 ·rw[if_neg c1]
  by_cases c2:p=i
  ·subst c2
   rw[if_pos rfl,if_pos (by omega),a2]
   congr 2
   omega
  ·rw[if_neg c2,h2 p hp]
   by_cases c3:p<i\/xs.length<=p+i
   ·rw[if_pos c3,if_pos (by omega)]
   ·rw[if_neg c3,if_neg (by omega)]
instance ZGt :CallC prog 267:=⟨by kernel_rfl⟩
abbrev RvS (xs:List Int)(s:SlS (eI .i64) 1 xs):Type:={s':SlS (eI .i64) 1 xs.reverse // vSl s'=vSl s}
set_option maxHeartbeats 4000000 in
theorem Zro (w0 w:World)(L L1:List Blk)(xs:List Int)(s:SlS (eI .i64) 1 xs)(T:TypeId)[hd:OwnS T s L L1](hl:xs.length<=1048576)(hw:Own w0 L w):
  Calls prog 267 [vSl s].toArray w (RetX w0 (RvS xs s) (fun _=> .tuple #[]) (fun s'=>mS T s'.1++L1)):=by
 have hw1:=hw.perm hd.out
 rcases s.cases T with⟨rfl,hv,hm⟩|⟨b,c,sp,h1,hv,hm,hne⟩
 ·suffices h:Calls prog 267 [.slice none 0 0].toArray w (RetX w0 (RvS [] s) (fun _=> .tuple #[]) (fun s'=>mS T s'.1++L1)) by
   rw[<-hv] at h
   exact h
  refine ZY Tryz.func267 rfl Tryz.ntmps267 rfl hw1 ?_
  repeat(refine wkO ?_;intros)
  refine Zm (S:=Unit) (fun _=>True) (fun _=>[(2, .int .i64 0),(3, .int .i64 (-1))]) (fun _=>mS T s++L1) (fun _=>0) () trivial sbB slB (fun _ _=>?_)
  repeat(refine wkM ?_;intros)
  try simp only[We (show¬(0:Int)< -1 by decide)]
  repeat(refine wkM ?_;intros)
  exact Zaj rfl (fun w hw=>⟨⟨s,rfl⟩,rfl,hw⟩)
 ·suffices h:Calls prog 267 [.slice (some ⟨b,0,none⟩) xs.length c].toArray w (RetX w0 (RvS xs s) (fun _=> .tuple #[]) (fun s'=>mS T s'.1++L1)) by
   rw[<-hv] at h
   exact h
  rw[hm] at hw1
  have hpos:0<xs.length:=List.length_pos_iff.2 hne
  refine ZY Tryz.func267 rfl Tryz.ntmps267 rfl hw1 ?_
  repeat(refine wkO ?_;intros)
  refine Zm (S:=(i:Nat)×{ys:List Int // RevI xs ys i}) (fun q=>2*q.1<=xs.length) (fun q=>[(0, .slice (some ⟨b,0,none⟩) xs.length c),(2, .int .i64 (q.1:Nat)),(3, .int .i64 ((xs.length:Int)-1-q.1))]) (fun q=>⟨b,row (eI .i64) q.2.1 sp,T⟩::L1) (fun q=>xs.length-q.1) ⟨0,⟨xs,rfl,fun p hp=>by rw[if_neg (by omega)]⟩⟩ (by simp) (show Sub _ [(0, .slice (some ⟨b,0,none⟩) xs.length c),(2, .int .i64 ((0:Nat):Int)),(3, .int .i64 ((xs.length:Int)-1-((0:Nat):Int)))] from sbB) slB (fun q hq=>?_)
  obtain⟨i,⟨ys,hy⟩⟩:=q
  simp only at hq⊢
  have hyl:=hy.1
  repeat(refine wkM ?_;intros)
  refine Zl rfl (fun h=>?_) (fun h=>?_)
  ·have hlt:(i:Int)<(xs.length:Int)-1-i:=Wa h
   clear h
   obtain⟨j,hj⟩:∃j,j+i+1=xs.length:=⟨xs.length-1-i,by omega⟩
   have ej:(xs.length:Int)-1-(i:Int)=(j:Int):=by omega
   rw[ej]
   have hst:=hy.step hj (by omega)
   have hj1:((i:Int)).toNat<ys.length:=by omega
   have hj2:((j:Int)).toNat<ys.length:=by omega
   repeat(refine wkM ?_;intros)
   (refine Zfc [(true,[0,1,2,3,4,5,6]),(false,[7]),(true,[8,9,10]),(false,[11]),(true,[12])] [13,14,15] (h:=?_);refine wkS ?_)
   (repeat(refine wkH ?_))
   refine Zn ?_
   refine eR rfl ?_ ?_
   ·omega
   refine uS rfl rfl ?_ ?_
   ·omega
   refine eR rfl ?_ ?_
   ·rw[List.length_set];omega
   refine Zba ?_
   simp only[Int.toNat_natCast]
   repeat(refine wkO ?_;intros)
   exact Zh ⟨i+1,⟨_,hst⟩⟩ (by show 2*(i+1)<=xs.length;omega) (show Sub _ [(0, .slice (some ⟨b,0,none⟩) xs.length c),(2, .int .i64 ((i+1:Nat):Int)),(3, .int .i64 ((xs.length:Int)-1-((i+1:Nat):Int)))] from sbB) slB (by show xs.length-(i+1)<xs.length-i;omega)
  ·have hge:¬(i:Int)<(xs.length:Int)-1-i:=Wb h
   obtain rfl:=hy.end_ (by omega) hq
   have hsl:xs.reverse.length=xs.length:=List.length_reverse
   repeat(refine wkM ?_;intros)
   exact Zaj rfl (fun w hw=>⟨⟨SlS.at_ b c sp (by rw[hsl];exact h1) (fun h0=>hne (List.reverse_eq_nil_iff.1 h0)),by rw[hv];show Value.slice _ xs.reverse.length c=_;rw[hsl]⟩,rfl,hw⟩)
instance ZH9 (w0:World)(L L1:List Blk)(xs:List Int)(s:SlS (eI .i64) 1 xs)(T:TypeId)[hd:OwnS T s L L1]:SpecX prog w0 L 267 [vSl s] (RvS xs s) (fun _=> .tuple #[]) (fun s'=>mS T s'.1++L1) (xs.length<=1048576):=⟨fun hp w hw=>Zro w0 w L L1 xs s T hp hw⟩
inductive BkM (l:List Za)(b:List (Int×Int))(t0:Int):Int->List Int->Prop
 |nil:BkM l b t0 t0 []
 |cons {v k:Int} {r:List Int}:v≠t0->mget b v=some k->0<=k->k<l.length->(gi l k).To=v->BkM l b t0 (gi l k).From r->BkM l b t0 v (k::r)
theorem Zgt {l:List Za}{sm:List Int}(hr:∀k∈sm,0<=k/\k<l.length){e:Ed}(h:e∈edL l sm):0<=(e.i:Int)/\(e.i:Int)<l.length/\(gi l (e.i:Int)).From=e.u/\(gi l (e.i:Int)).To=e.v/\wgt (gi l (e.i:Int))=e.w:=by
 obtain⟨k,hk,rfl⟩:=List.mem_map.1 h
 have h1:=hr k hk
 have h2:(((edI l k).i:Nat):Int)=k:=by
  show((k.toNat:Nat):Int)=k
  omega
 rw[h2]
 exact⟨h1.1,h1.2,rfl,rfl,rfl⟩
theorem Zvs {l:List Za}{sm:List Int}(hr:∀k∈sm,0<=k/\k<l.length){q:Sr}{a b:List (Int×Int)}(hm:MatS q a b){t0 v:Int}{p:List Ed}(h:Bk q t0 v p)(he:∀e∈p,e∈edL l sm):BkM l b t0 v (p.map fun e=>(e.i:Int)):=by
 induction h with
 |nil=>exact .nil
 | @cons v e p h1 h2 h3 h4 ih=>
  obtain⟨a1,a2,a3,a4,a5⟩:=Zgt hr (he e (.head _))
  refine .cons h1 (by rw[hm.b,h2];rfl) a1 a2 (by rw[a4,h3]) ?_
  rw[a3]
  exact ih fun f hf=>he f (.tail _ hf)
theorem BkM.len0 {l:List Za}{b:List (Int×Int)}{t0 v:Int}{r:List Int}(h:BkM l b t0 v r):r=[]↔v=t0:=by
 cases h with
 |nil=>simp
 |cons h1=>simp[h1]
set_option maxHeartbeats 8000000 in
theorem ZsL (p:Option Addr)(n cp:Nat)(hs:Sl)(z:Int)(m1:Option Nat)(m2:Nat)(l:List Za)(b:List (Int×Int))(t0 v:Int)(r:List Int)(w:World)(hv:ArgS w (.slice p n cp) Zf l)(hl:l.length<=6)(hb:w.heap[m2]? =some (mII b))(hB:BkM l b t0 v r)(hrl:r.length<=4096):
  Calls prog 217 [.agg (ZP ⟨⟨p,n,cp⟩,hs,z⟩), .agg (vSr m1 (some m2)), .int .i64 t0, .int .i64 v].toArray w (RetM (SlS (eI .i64) 1 r.reverse) (fun s=>vSl s) (fun s=>mS 3 s) w):=by
 obtain⟨p',cp',hf1⟩:=hv.form
 injection hf1 with f1 f2 f3
 subst f1
 subst f2
 subst f3
 have fb:=FoO.mk hb
 refine Zg Tryz.func217 rfl Tryz.ntmps217 rfl ?_
 repeat(refine wkM ?_;intros)
 rename_i b4 b5
 refine Zm (S:=(dn:List Int)×Int×List Int×SlS (eI .i64) 1 dn) (fun q=>q.1++q.2.2.1=r/\BkM l b t0 q.2.1 q.2.2.1) (fun q=>[(2, .int .i64 t0),(3, .int .i64 q.2.1),(4, .pointer (some ⟨b4,0,none⟩)),(5, .pointer (some ⟨b5,0,none⟩)),(9,vSl q.2.2.2)]) (fun q=>mS 3 q.2.2.2++[⟨b5,vSr m1 (some m2),328⟩,⟨b4,ZP ⟨⟨p,l.length,cp⟩,hs,z⟩,324⟩]) (fun q=>q.2.2.1.length) ⟨[],v,r,SlS.no⟩ ⟨rfl,hB⟩ sbB suB (fun q hq=>?_)
 obtain⟨dn,x,rest,o⟩:=q
 obtain⟨hr,hx⟩:=hq
 simp only at hr hx o⊢
 have hlen:dn.length+rest.length<=4096:=by
  rw[<-hr,Wp] at hrl
  exact hrl
 repeat(refine wkM ?_;intros)
 cases hx with
 |nil=>
  simp only[Wc (show t0=t0 from rfl),Bool.not_true]
  rw[Wh] at hr
  subst hr
  repeat(refine wkM ?_;intros)
  refine sZ rfl rfl (show dn.length<=1048576 by omega) ?_
  intro o'
  repeat(refine wkM ?_;intros)
  refine Zy rfl rfl (fun w hw=>⟨o'.1, ?_,hw.sub suB⟩)
  show Ending.returned (vSl o)=Ending.returned (vSl o'.1)
  rw[o'.2]
 | @cons _ k rest' h1 h2 h3 h4 h5 h6=>
  simp only[We h1,Bool.not_false]
  rw[Wu] at hlen
  have hne:l≠[]:=fun h0=>by rw[h0] at h4;simp at h4;omega
  obtain⟨bw,ow,cw,hvw,hcw,hrow⟩:=hv.blk (k:=4) hne []
  injection hvw with e1 e2 e3
  subst e1
  subst e3
  have hrow':∀L,RowC w L bw ow Za Zf l:=fun L=>⟨fun w' hw'=>hrow.out w' (hw'.sub (Wk _))⟩
  repeat(refine wkM ?_;intros)
  simp only[h2,Option.getD_some]
  (refine ZX (.v [0,1,4,5,6,7,8,9] (.e1 2 (.e1 3 (.e1 10 (.e1 11 (.fin)))))) ([⟨b4,ZP ⟨⟨some ⟨bw,ow,none⟩,l.length,cp⟩,hs,z⟩,324⟩]) (h:=?_);refine wkX ?_)
  (repeat(refine wkH ?_))
  dsimp only
  (repeat(refine wkH ?_))
  repeat(refine wkT ?_;intros)
  refine eU rfl rfl ?_ ?_ ?_ ?_
  ·rfl
  ·rfl
  ·exact⟨by decide,by omega,by omega⟩
  intro o'
  repeat(refine wkT ?_;intros)
  repeat(refine wkM ?_;intros)
  exact Zh ⟨dn++[k],(gi l k).From,rest',o'⟩ ⟨by rw[List.append_assoc];exact hr,h6⟩ sbB suB (by show rest'.length<(k::rest').length;simp)
instance ZJy (w0:World)(L:List Blk)(p:Option Addr)(n cp:Nat)(hs:Sl)(z:Int)(m1:Option Nat)(m2:Nat)(l:List Za)(b:List (Int×Int))(t0 v:Int)[k1:LstC w0 L (.slice p n cp) Za Zf l][k2:AtO w0 L m2 (mII b)]:SpecR prog w0 L 217 [.agg (ZP ⟨⟨p,n,cp⟩,hs,z⟩), .agg (vSr m1 (some m2)), .int .i64 t0, .int .i64 v] ((r:{r:List Int // BkM l b t0 v r})×SlS (eI .i64) 1 r.1.reverse) (fun s=>vSl s.2) (fun s=>mS 3 s.2) (l.length<=6/\∃r,BkM l b t0 v r/\r.length<=4096):=⟨fun hp w hw=>by
 obtain⟨hl,r,hr,hrl⟩:=hp
 exact(ZsL p n cp hs z m1 m2 l b t0 v r w (k1.out w hw) hl (k2.out w hw) hr hrl).mono fun e w' ⟨s,he,ho⟩=>⟨⟨⟨r,hr⟩,s⟩,he,ho⟩⟩
def wS (l:List Za):List Int->Int
 |[]=>0
 |k::r=>wgt (gi l k)+wS l r
theorem Zgr (l:List Za)(k:Int):∀r:List Int,wS l (r++[k])=wS l r+wgt (gi l k)
 |[]=>by simp[wS]
 |j::r=>by
  rw[Wf,wS,Zgr l k r,wS]
  omega
def FwdM (l:List Za):Int->List Int->Int->Prop
 |a,[],c=>a=c
 |a,k::r,c=>(0<=k/\k<l.length)/\(gi l k).From=a/\FwdM l (gi l k).To r c
theorem FwdM.snoc {l:List Za}{k c:Int}(hk:0<=k/\k<l.length)(hc:(gi l k).To=c):∀{r:List Int} {a:Int},FwdM l a r (gi l k).From->FwdM l a (r++[k]) c
 |[],_,h=>⟨hk,(show _=(gi l k).From from h).symm,hc⟩
 |_::_,_,h=>⟨h.1,h.2.1,h.2.2.snoc hk hc⟩
theorem BkM.fwd {l:List Za}{b:List (Int×Int)}{t0 v:Int}{r:List Int}(h:BkM l b t0 v r):FwdM l t0 r.reverse v:=by
 induction h with
 |nil=>exact rfl
 |cons h1 h2 h3 h4 h5 h6 ih=>
  rw[List.reverse_cons]
  exact ih.snoc ⟨h3,h4⟩ h5
theorem Zte {x:Za}(h:ExB x): -2147483648<=wgt x/\wgt x<=2147483648:=by
 have h1:=h.s
 have h2:=h.r
 have h3:=h.l
 unfold wgt
 omega
set_option maxHeartbeats 8000000 in
theorem ZqW (v v2:Value)(l:List Za)(r:List Int)(a c:Int)(w:World)(hv:ArgS w v Zf l)(hv2:ArgS w v2 (eI .i64) r)(hl:l.length<=6)(hrl:r.length<=4096)(hex:∀x∈l,ExB x)(hF:FwdM l a r c):
  Calls prog 164 [v,v2, .int .i64 a, .int .i64 c].toArray w (Ret (.tuple #[.int .i64 (wS l r), .int .i64 0]) w):=by
 obtain⟨p,cp,rfl⟩:=hv.form
 obtain⟨p2,cp2,rfl⟩:=hv2.form
 refine Zg Tryz.func164 rfl Tryz.ntmps164 rfl ?_
 repeat(refine wkM ?_;intros)
 refine Zm (S:=List Int×Int×List Int) (fun q=>q.1++q.2.2=r/\FwdM l q.2.1 q.2.2 c/\(-(2147483648*(q.1.length:Int))<=wS l q.1/\wS l q.1<=2147483648*(q.1.length:Int))) (fun q=>[(0, .slice p l.length cp),(3, .int .i64 c),(8, .int .i64 (wS l q.1)),(10, .int .i64 q.2.1),(14, .slice p2 r.length cp2),(15, .int .i64 r.length),(16, .int .i64 (q.1.length:Nat))]) (fun _=>[]) (fun q=>q.2.2.length) ([],a,r) ⟨rfl,hF,by simp[wS],by simp[wS]⟩ sbB slB (fun q hq=>?_)
 obtain⟨dn,at',rest⟩:=q
 obtain⟨hr,hf,hb⟩:=hq
 simp only at hr hf hb⊢
 have hlen:dn.length+rest.length=r.length:=by rw[<-hr,Wp]
 repeat(refine wkM ?_;intros)
 refine Zl rfl (fun h=>?_) (fun h=>?_)
 ·have hlt:dn.length<r.length:=by have:=Wa h;omega
  clear h
  cases rest with
  |nil=>rw[Wx] at hlen;omega
  |cons k rest'=>
   obtain⟨⟨k1,k2⟩,k3,k4⟩:=hf
   have hgk:gi r (dn.length:Int)=k:=by
    rw[Zj hlt]
    simp only[<-hr]
    rw[List.getElem_append_right (Wl _)]
    simp
   have hne:l≠[]:=fun h0=>by rw[h0] at k2;simp at k2;omega
   have hner:r≠[]:=fun h0=>by rw[h0] at hlt;simp at hlt
   obtain⟨bs,os,cs,hvs,hcs,hrs⟩:=hv2.blk (k:=0) hner []
   injection hvs with e1 e2 e3
   subst e1
   subst e3
   obtain⟨bw,ow,cw,hvw,hcw,hrow⟩:=hv.blk (k:=4) hne []
   injection hvw with e1 e2 e3
   subst e1
   subst e3
   have hrs':∀L,RowC w L bs os Int (eI .i64) r:=fun L=>⟨fun w' hw'=>hrs.out w' (hw'.sub (Wk _))⟩
   have hrow':∀L,RowC w L bw ow Za Zf l:=fun L=>⟨fun w' hw'=>hrow.out w' (hw'.sub (Wk _))⟩
   have hxE:=hex (gi l k) (ZI (by omega))
   have hwb:=Zte hxE
   repeat(refine wkM ?_;intros)
   simp only[hgk,We (show¬k<0 by omega)]
   repeat(refine wkM ?_;intros)
   simp only[We (show¬(l.length:Int)<=k by omega)]
   repeat(refine wkM ?_;intros)
   simp only[Wc k3,Bool.not_true]
   repeat(refine wkM ?_;intros)
   (refine ZX (.v [0,1,2,3,4,5,6,7,8,9,10,11] (.e1 12 (.e1 13 (.fin)))) (_) (h:=?_);refine wkX ?_)
   (repeat(first|refine wkH ?_|(refine tC rfl rfl ?_ ?_;focus(exact hxE))))
   repeat(refine wkT ?_;intros)
   rw[<-Zgr]
   repeat(refine wkO ?_;intros)
   have hls:(dn++[k]).length=dn.length+1:=by simp
   exact Zh (dn++[k],(gi l k).To,rest') ⟨by rw[List.append_assoc];exact hr,k4,by
    rw[Zgr,hls]
    omega⟩ (by simp only[hls];exact sbB) slB (by show rest'.length<(k::rest').length;simp)
 ·have hge:rest=[]:=by
   have h1:¬(dn.length:Int)<(r.length:Int):=Wb h
   exact List.length_eq_zero_iff.1 (by omega)
  subst hge
  rw[Wh] at hr
  subst hr
  have hac:at'=c:=hf
  subst hac
  repeat(refine wkM ?_;intros)
  try simp only[Wc (show at'=at' from rfl),Bool.not_true]
  repeat(refine wkM ?_;intros)
  exact ZA rfl (Zk rfl) (Zk rfl) (fun w hw=>ZZ hw)
instance ZKx (w0:World)(L:List Blk)(v v2:Value)(l:List Za)(r:List Int)(a c:Int)[k1:LstC w0 L v Za Zf l][k2:LstC w0 L v2 Int (eI .i64) r]:SpecM prog w0 L 164 [v,v2, .int .i64 a, .int .i64 c] (.tuple #[.int .i64 (wS l r), .int .i64 0]) (l.length<=6/\r.length<=4096/\(∀x∈l,ExB x)/\FwdM l a r c):=⟨fun hp w hw=>ZqW v v2 l r a c w (k1.out w hw) (k2.out w hw) hp.1 hp.2.1 hp.2.2.1 hp.2.2.2⟩
theorem ZpW (v:Value)(a c:Int)(w:World):Calls prog 164 [v, .slice none 0 0, .int .i64 a, .int .i64 c].toArray w (Ret (.tuple #[.int .i64 0, .int .i64 (if a=c then 0 else 30)]) w):=by
 refine Zg Tryz.func164 rfl Tryz.ntmps164 rfl ?_
 repeat(refine wkM ?_;intros)
 refine Zm (S:=Unit) (fun _=>True) (fun _=>[(3, .int .i64 c),(8, .int .i64 0),(10, .int .i64 a),(15, .int .i64 0),(16, .int .i64 0)]) (fun _=>[]) (fun _=>0) () trivial sbB slB (fun _ _=>?_)
 repeat(refine wkM ?_;intros)
 try simp only[We (show¬(0:Int)<0 by decide)]
 repeat(refine wkM ?_;intros)
 by_cases h:a=c
 ·rw[if_pos h]
  simp only[Wc h,Bool.not_true]
  repeat(refine wkM ?_;intros)
  exact ZA rfl (Zk rfl) (Zk rfl) (fun w hw=>ZZ hw)
 ·rw[if_neg h]
  simp only[We h,Bool.not_false]
  repeat(refine wkM ?_;intros)
  exact ZA rfl (Zk rfl) (Zk rfl) (fun w hw=>ZZ hw)
end
section
instance sbpConsO (b:Nat)(o:Obj)(T:TypeId)(A L L1:List Blk)[h:DelO b L o T L1][k:SbpC A L1]:SbpC (⟨b, .obj o,T⟩::A) L:=⟨by
 obtain⟨R,hR⟩:=k.out
 exact⟨R,h.out.trans (hR.cons _)⟩⟩
def PotX (l:List Za)(d:Int)(f:Int->Int):Prop:=∀x∈l,Con l d x.From->f x.To<=f x.From+wgt x
theorem Zj2 {l:List Za}{c:List Int}:∀{i:Nat} {k:Int},k∈smI l c i->(gi l k).From∈c
 |0,k,h=>by cases h
 |i+1,k,h=>by
  rw[smI] at h
  split at h
  ·rename_i hc
   rcases List.mem_append.1 h with h|h
   ·exact Zj2 h
   ·rw[Wo] at h
    rw[h];exact hc
  ·exact Zj2 h
theorem Zp6 {l:List Za}{c:List Int}:∀{i j:Nat},j<i->(gi l (j:Int)).From∈c->(j:Int)∈smI l c i
 |i+1,j,h,hc=>by
  rw[smI]
  rcases Nat.lt_or_ge j i with h1|h1
  ·have ih:=Zp6 h1 hc
   split
   ·exact List.mem_append_left _ ih
   ·exact ih
  ·have:j=i:=by omega
   subst this
   rw[if_pos hc]
   exact List.mem_append_right _ (List.mem_singleton.2 rfl)
theorem Zhv {l:List Za}{c:List Int}:∀k∈smI l c l.length,0<=k/\k<l.length:=fun k hk=>Ziu l c _ k hk
theorem ZdM {l:List Za}{d:Int}{c:List Int}(hc:CompL l d c){e:Ed}(he:e∈edL l (smI l c l.length)):Con l d e.u/\Con l d e.v/\∃x∈l,x.From=e.u/\x.To=e.v/\wgt x=e.w:=by
 obtain⟨k,hk,rfl⟩:=List.mem_map.1 he
 have h1:=(hc.mem _).1 (Zj2 hk)
 have h2:=Zhv k hk
 have hx:gi l k∈l:=ZI (by omega)
 exact⟨h1, .fwd hx h1,gi l k,hx,rfl,rfl,rfl⟩
theorem Zp8 {l:List Za}{d:Int}{c:List Int}(hc:CompL l d c){x:Za}(hx:x∈l)(h:Con l d x.From):∃e∈edL l (smI l c l.length),e.u=x.From/\e.v=x.To/\e.w=wgt x:=by
 obtain⟨j,hj,rfl⟩:=List.getElem_of_mem hx
 have hg:gi l (j:Int)=l[j]:=Zj hj
 refine⟨edI l (j:Int),List.mem_map.2 ⟨_,Zp6 hj (by rw[hg];exact(hc.mem _).2 h),rfl⟩, ?_, ?_, ?_⟩
 ·show(gi l (j:Int)).From=_
  rw[hg]
 ·show(gi l (j:Int)).To=_
  rw[hg]
 ·show wgt (gi l (j:Int))=_
  rw[hg]
theorem Zfs {l:List Za}{d:Int}{c:List Int}(hc:CompL l d c){f:Int->Int}:PotX l d f↔PotE (edL l (smI l c l.length)) f:=by
 constructor
 ·intro h e he
  obtain⟨h1,h2,x,hx,e1,e2,e3⟩:=ZdM hc he
  rw[<-e1,<-e2,<-e3]
  exact h x hx (by rw[e1];exact h1)
 ·intro h x hx hx2
  obtain⟨e,he,e1,e2,e3⟩:=Zp8 hc hx hx2
  have:=h e he
  rw[e1,e2,e3] at this
  exact this
theorem ZiT {E:List Ed}{ds:List Int}{f:Int->Int}(hf:PotE E f){V:List Int}(hV:∀v b,Rch E (· ∈ds) v b->v∈V){K:Nat}(hK:V.length<=K):∀e∈E,hit ((sr0 ds).rounds E K).s e=none:=by
 obtain⟨Lb,hLb⟩:=ZfH f ds
 have hall:=(ZfT E ds).all (fun t ht=>⟨0,if_pos ht,Int.le_refl _⟩) hf (L:=Lb) hLb hV
 have hno:=((ZfT E ds).rounds V.length).noHit hall
 have key:∀m,(sr0 ds).rounds E (V.length+m)=(sr0 ds).rounds E V.length:=by
  intro m
  induction m with
  |zero=>rfl
  |succ m ih=>
   show((sr0 ds).rounds E (V.length+m)).round E=_
   rw[ih]
   exact Zfq hno
 have:=key (K-V.length)
 rw[show V.length+(K-V.length)=K by omega] at this
 rw[this]
 exact hno
theorem Zme {l:List Za}{d:Int}{c ds:List Int}(hc:CompL l d c)(hd:∀t∈ds,Con l d t){v b:Int}(h:Rch (edL l (smI l c l.length)) (· ∈ds) v b):v∈c:=by
 rw[hc.mem]
 cases h with
 |src ht=>exact hd _ ht
 |stp h1 h2=>exact(ZdM hc h2).2.1
structure CycOk (l:List Za)(d:Int)(bad:Bool):Prop where
 good:bad=false->∃f,PotX l d f
 bad:bad=true->¬∃f,PotX l d f
abbrev CycS (l:List Za)(d:Int):Type:=(x:{x:List Int×Bool // CycOk l d x.2})×SlS (eI .i64) 1 x.1.1
set_option maxHeartbeats 16000000 in
theorem ZnT (p:Option Addr)(n cp:Nat)(l:List Za)(d:Int)(w:World)(hv:ArgS w (.slice p n cp) Zf l)(hl:l.length<=6)(hex:∀x∈l,ExB x):
  Calls prog 214 [.slice p n cp, .int .i64 d].toArray w (RetM (CycS l d) (fun x=> .tuple #[vSl x.2, .bool x.1.1.2]) (fun x=>mS 3 x.2) w):=by
 obtain⟨p',cp',hf1⟩:=hv.form
 injection hf1 with f1 f2 f3
 subst f1
 subst f2
 subst f3
 have hls:=fun L=>hv.lstK L
 refine Zg Tryz.func214 rfl Tryz.ntmps214 rfl ?_
 repeat(first|(refine wkM ?_;intros)|(refine wnM ?_ ?_;(focus(exact hl));intros))
 rename_i ps b6
 obtain⟨⟨c,hc⟩,s⟩:=ps
 have hcl:=hc.few
 have hsl:=Zgj l c l.length
 have hrg:=Zhv (l:=l) (c:=c)
 have hfr:∀c2:{c:List Int // CompL l d c},l.length<=6/\(smI l c l.length).length<=6/\(∀k∈smI l c l.length,0<=k/\k<l.length)/\(∀x∈l,ExB x)/\c2.1.length<=1048576/\c.length<=12/\((∀e∈edL l (smI l c l.length),e.v∈c2.1)\/((∃f,PotE (edL l (smI l c l.length)) f)/\∃V:List Int,V.length<=c.length/\∀v b,Rch (edL l (smI l c l.length)) (· ∈c2.1) v b->v∈V)):=fun c2=>by
  have:=c2.2.few
  exact⟨hl,by omega,hrg,hex,by omega,by omega, .inl fun e he=>(c2.2.mem _).2 (ZdM hc he).2.1⟩
 refine Zav (S:=((c2:{c:List Int // CompL l d c})×FrS l (smI l c l.length) c2.1 (c.length+1))×Nat) (fun _=>True) (fun q=>[(0, .slice p l.length cp),(6, .pointer (some ⟨b6,0,none⟩)),(7, .pointer (some ⟨q.2,0,none⟩)),(8, .int .i64 q.1.2.r)]) (fun q=>[⟨q.2,vSr (some q.1.2.m1) (some q.1.2.m2),328⟩,⟨q.1.2.m2, .obj (mII q.1.2.b),326⟩,⟨b6,ZP ⟨⟨p,l.length,cp⟩,slH s,(c.length:Nat)⟩,324⟩]) ?_ (fun q _=>?_)
 ·(refine ZX (.v [0,1,2] (.e2 3 (.e2 4 (.v [5,6,7] (.e1 8 (.e1 9 (.e1 10 (.fin))))) 8 (.e1 4 (.v [5,6,7] (.e1 9 (.e1 10 (.fin)))))) 8 (.e1 3 (.e1 4 (.v [5,6,7] (.e1 9 (.e1 10 (.fin)))))))) ([⟨b6,ZP ⟨⟨p,l.length,cp⟩,slH s,(c.length:Nat)⟩,324⟩]) (h:=?_);refine wkX ?_)
  repeat' (first|(with_reducible refine And.intro ?_ ?_)|(with_reducible exact True.intro)|(refine wkT ?_;intros)|(refine tC rfl rfl ?_ ?_;focus(first|exact hl|exact hfr _))|(refine uC rfl rfl ?_ ?_;focus(first|exact hl|exact hfr _))|(refine eN rfl rfl ?_ ?_;(focus(first|exact hl|exact hfr _));intro _;(try simp only[Wf,Wg,Wh]))|fail)
  all_goals first
   |(rename_i a1 a2 a3;exact Zdd ⟨⟨a2.1,a3⟩,a1⟩ trivial sbB inferInstance)
   |(rename_i a1 a2 a3;exact Zdd ⟨⟨a1.1,a3⟩,a2⟩ trivial sbB inferInstance)
   |(rename_i a1 a2 a3;exact Zdd ⟨⟨a1.1,a2⟩,a3⟩ trivial sbB inferInstance)
 obtain⟨⟨⟨c2,hc2⟩,⟨q,r,m1,m2,a,b,hok,hmat⟩⟩,b7⟩:=q
 simp only at hok hmat⊢
 obtain⟨E,hE⟩:∃E,E=edL l (smI l c l.length):=⟨_,rfl⟩
 have hEc:∀e∈E,e.u∈c/\e.u∈c2/\e.v∈c2:=fun e he=>by
  rw[hE] at he
  obtain⟨h1,h2,_⟩:=ZdM hc he
  exact⟨(hc.mem _).2 h1,(hc2.mem _).2 h1,(hc2.mem _).2 h2⟩
 rw[<-hE] at hok
 repeat(refine wkM ?_;intros)
 by_cases hr:r= -1
 ·subst hr
  obtain⟨h1,h2,h3⟩:=hok.good rfl
  have hgood:CycOk l d false:=⟨fun _=>⟨fun v=>(q.s v).getD 0,(Zfs hc).2 fun e he=>by
   rw[<-hE] at he
   obtain⟨_,g1,g2⟩:=hEc e he
   obtain⟨x,x1,_⟩:=h3 _ g1
   obtain⟨y,y1,_⟩:=h3 _ g2
   have:=h2 e he
   unfold hit at this
   rw[x1,y1] at this
   simp only at this
   split at this
   ·cases this
   ·simp only[x1,y1,Option.getD_some]
    omega⟩,fun h=>by cases h⟩
  try simp only[Wc (show(-1:Int)<0 by decide)]
  repeat(refine wkM ?_;intros)
  exact ZA rfl (Zk rfl) (Zk rfl) (fun w hw=>⟨⟨⟨([],false),hgood⟩,SlS.no⟩,rfl,hw.sub (Wk _)⟩)
 obtain⟨e0,he0,hre,⟨z0,hz0⟩,hq⟩:=hok.bad hr
 have hnop:¬∃f,PotX l d f:=by
  rintro⟨f,hf⟩
  have hp:=(Zfs hc).1 hf
  have:=ZiT (ds:=c2) (V:=c) (K:=c.length+1) hp (fun v b hb=>Zme hc (fun t ht=>(hc2.mem t).1 ht) hb) (Nat.le_succ _) e0 (by rw[<-hE];exact he0)
  rw[<-hE,hz0] at this
  cases this
 have hbad:CycOk l d true:=⟨(fun h=>by cases h),fun _=>hnop⟩
 obtain⟨A,hA0,hAK,hAm⟩:∃A:Nat->Int,A 0=e0.v/\(∃d',1<=d'/\d'<=c.length+1/\A (c.length+1+d')=A (c.length+1))/\∀m,∃k,mget b (A m)=some k/\0<=k/\k<l.length/\(gi l k).From=A (m+1):=by
  obtain⟨d',d1,d2,d3,d4⟩:=ZnE (ZfT E c2) (ZtA E c2) (V:=c) (fun e he=>(hEc e he).1) (Nat.lt_succ_self _) he0 hz0
  refine⟨fun m=>itr (back (upd ((sr0 c2).rounds E (c.length+1)).by' e0.v (some e0))) m e0.v,rfl,⟨d',d1,d2,by simp only;rw[ZdH];exact d3⟩,fun m=>?_⟩
  obtain⟨e,e1,e2⟩:=d4 m
  obtain⟨g1,g2,g3,g4,g5⟩:=Zgt hrg (hE▸e1)
  refine⟨(e.i:Int), ?_,g1,g2, ?_⟩
  ·rw[hmat.b,hq]
   simp only
   rw[e2]
   rfl
  ·dsimp only
   rw[ZgS,ZiV e2]
   exact g3
 obtain⟨d',d1,d2,d3⟩:=hAK
 obtain⟨g1,g2,g3,g4,g5⟩:=Zgt hrg (hE▸he0)
 rw[<-hre] at g1 g2 g3 g4
 have hne:l≠[]:=fun h0=>by rw[h0] at g2;simp at g2;omega
 obtain⟨bw,ow,cw,hvw,hcw,hrow⟩:=hv.blk (k:=4) hne []
 injection hvw with e1 e2 e3
 subst e1
 subst e3
 have hrow':∀L,RowC w L bw ow Za Zf l:=fun L=>⟨fun w' hw'=>hrow.out w' (hw'.sub (Wk _))⟩
 have hwr:IntKind.i64.wrap (((c.length:Nat):Int)+1)=((c.length+1:Nat):Int):=by
  rw[IntWalk.i64_in _ (by omega)]
  omega
 simp only[We (show¬r<0 by omega)]
 repeat(refine wkM ?_;intros)
 dsimp only
 repeat(refine wkO ?_;intros)
 dsimp only
 try simp only[hwr]
 rw[g4,<-hA0]
 refine Zm (S:=Nat) (fun m=>m<=c.length+1) (fun m=>[(6, .pointer (some ⟨b6,0,none⟩)),(7, .pointer (some ⟨b7,0,none⟩)),(9, .int .i64 (A m)),(34, .int .i64 ((c.length+1:Nat))),(35, .int .i64 (m:Nat))]) (fun _=>[⟨b7,vSr (some m1) (some m2),328⟩,⟨m2, .obj (mII b),326⟩,⟨b6,ZP ⟨⟨some ⟨bw,ow,none⟩,l.length,cp⟩,slH s,(c.length:Nat)⟩,324⟩]) (fun m=>c.length+1-m) 0 (Wm _) sbB slB (fun m hm=>?_)
 repeat(refine wkM ?_;intros)
 refine Zl rfl (fun h=>?_) (fun h=>?_)
 ·have hlt:m<c.length+1:=by have:=Wa h;omega
  clear h
  obtain⟨k,k1,k2,k3,k4⟩:=hAm m
  repeat(refine wkM ?_;intros)
  simp only[k1,Option.getD_some]
  try dsimp only
  repeat(refine wkO ?_;intros)
  rw[k4]
  exact Zh (m+1) hlt sbB slB (by omega)
 have hge:m=c.length+1:=by have:=Wb h;omega
 subst hge
 clear h
 repeat(refine wkM ?_;intros)
 refine Zm (S:=(i:Nat)×(out:List Int)×SlS (eI .i64) 1 out) (fun q=>q.1<d'/\q.2.1.length=q.1/\∀i',1<=i'->i'<=q.1->A (c.length+1+i')≠A (c.length+1)) (fun q=>[(6, .pointer (some ⟨b6,0,none⟩)),(7, .pointer (some ⟨b7,0,none⟩)),(9, .int .i64 (A (c.length+1))),(10,vSl q.2.2),(11, .int .i64 (A (c.length+1+q.1)))]) (fun q=>mS 3 q.2.2++[⟨b7,vSr (some m1) (some m2),328⟩,⟨m2, .obj (mII b),326⟩,⟨b6,ZP ⟨⟨some ⟨bw,ow,none⟩,l.length,cp⟩,slH s,(c.length:Nat)⟩,324⟩]) (fun q=>d'-q.1) ⟨0,[],SlS.no⟩ ⟨d1,rfl,fun i' h1 h2=>absurd h1 (by simp only at h2;omega)⟩ sbB suB (fun q hq=>?_)
 obtain⟨i,out,o⟩:=q
 obtain⟨hi,hol,hno⟩:=hq
 simp only at hi hol hno o⊢
 obtain⟨k,k1,k2,k3,k4⟩:=hAm (c.length+1+i)
 repeat(refine wkM ?_;intros)
 simp only[k1,Option.getD_some]
 (refine ZX (.v [0,1,4,5,6,7,8,9] (.e1 2 (.e1 3 (.e1 10 (.e1 11 (.fin)))))) ([⟨b6,ZP ⟨⟨some ⟨bw,ow,none⟩,l.length,cp⟩,slH s,(c.length:Nat)⟩,324⟩]) (h:=?_);refine wkX ?_)
 (repeat(refine wkH ?_))
 dsimp only
 (repeat(refine wkH ?_))
 repeat(refine wkT ?_;intros)
 refine eU rfl rfl ?_ ?_ ?_ ?_
 ·rfl
 ·rfl
 ·exact⟨by decide,by omega,by omega⟩
 intro o'
 repeat(refine wkT ?_;intros)
 repeat(refine wkM ?_;intros)
 rw[k4]
 by_cases he:A (c.length+1+i+1)=A (c.length+1)
 ·simp only[Wc he]
  repeat(refine wkM ?_;intros)
  refine sZ rfl rfl (show(out++[k]).length<=1048576 by rw[Wp,List.length_singleton];omega) ?_
  intro o2
  repeat(refine wkM ?_;intros)
  refine ZA rfl (Zk rfl) (Zk rfl) (fun w hw=>⟨⟨⟨((out++[k]).reverse,true),hbad⟩,o2.1⟩, ?_,hw.sub suB⟩)
  show Ending.returned (.tuple #[vSl o', .bool true])=Ending.returned (.tuple #[vSl o2.1, .bool true])
  rw[o2.2]
 ·simp only[We he]
  repeat(refine wkM ?_;intros)
  have hi1:i+1<d':=by
   rcases Nat.lt_or_ge (i+1) d' with h|h
   ·exact h
   ·have:i+1=d':=by omega
    rw[<-this] at d3
    exact(he d3).elim
  exact Zh ⟨i+1,out++[k],o'⟩ ⟨hi1,by rw[Wp,List.length_singleton,hol],fun i' h1 h2=>by
   rcases Nat.lt_or_ge i' (i+1) with h3|h3
   ·exact hno i' h1 (by omega)
   ·have:i'=i+1:=by have:i'<=i+1:=h2;omega
    subst this
    exact he⟩ sbB suB (by show d'-(i+1)<d'-i;omega)
instance ZDq (w0:World)(L:List Blk)(p:Option Addr)(n cp:Nat)(l:List Za)(d:Int)[h:LstC w0 L (.slice p n cp) Za Zf l]:SpecR prog w0 L 214 [.slice p n cp, .int .i64 d] (CycS l d) (fun x=> .tuple #[vSl x.2, .bool x.1.1.2]) (fun x=>mS 3 x.2) (l.length<=6/\∀x∈l,ExB x):=⟨fun hp w hw=>ZnT p n cp l d w (h.out w hw) hp.1 hp.2⟩
end
section
inductive RchX (l:List Za)(d s:Int):Int->Int->Prop
 |src:RchX l d s s 0
 |stp {x:Za} {a:Int}:RchX l d s x.From a->x∈l->Con l d x.From->RchX l d s x.To (a+wgt x)
def DstX (l:List Za)(d s v m:Int):Prop:=RchX l d s v m/\∀b,RchX l d s v b->m<=b
theorem DstX.uniq {l:List Za}{d s v m n:Int}(h:DstX l d s v m)(k:DstX l d s v n):m=n:=by
 have h1:=h.2 n k.1
 have h2:=k.2 m h.1
 omega
theorem ZgX {l:List Za}{d s:Int}{c:List Int}(hc:CompL l d c){v b:Int}:RchX l d s v b↔Rch (edL l (smI l c l.length)) (· ∈[s]) v b:=by
 constructor
 ·intro h
  induction h with
  |src=>exact .src (List.mem_singleton.2 rfl)
  | @stp x a h1 h2 h3 ih=>
   obtain⟨e,he,e1,e2,e3⟩:=Zp8 hc h2 h3
   rw[<-e1] at ih
   rw[<-e2,<-e3]
   exact .stp ih he
 ·intro h
  induction h with
  |src ht=>
   rw[Wo] at ht
   subst ht
   exact .src
  | @stp e a h1 h2 ih=>
   obtain⟨g1,g2,x,hx,e1,e2,e3⟩:=ZdM hc h2
   rw[<-e1] at ih g1
   rw[<-e2,<-e3]
   exact .stp ih hx g1
theorem BkM.uniq {l:List Za}{b:List (Int×Int)}{t0 v:Int}{r r':List Int}(h:BkM l b t0 v r)(k:BkM l b t0 v r'):r=r':=by
 induction h generalizing r' with
 |nil=>
  cases k with
  |nil=>rfl
  |cons h1=>exact(h1 rfl).elim
 |cons h1 h2 h3 h4 h5 h6 ih=>
  cases k with
  |nil=>exact(h1 rfl).elim
  |cons k1 k2 k3 k4 k5 k6=>
   rw[h2] at k2
   injection k2 with k2
   subst k2
   rw[ih k6]
theorem Zk3 (l:List Za):∀r:List Int,wS l r.reverse=wS l r
 |[]=>rfl
 |k::r=>by rw[List.reverse_cons,Zgr,Zk3 l r,wS];omega
theorem ZpK {l:List Za}{sm:List Int}(hr:∀k∈sm,0<=k/\k<l.length):∀{p:List Ed},(∀e∈p,e∈edL l sm)->wS l (p.map fun e=>(e.i:Int))=wSum p
 |[],_=>rfl
 |e::p,h=>by
  rw[List.map_cons,wS,ZpK hr (p:=p) fun f hf=>h f (.tail _ hf),(Zgt hr (h e (.head _))).2.2.2.2,wSum]
  omega
instance lst1K {α:Type}{enc:α->Array Value}{k:Nat}{x:α}{sp:List Value}[he:EncC enc k](w0:World)(L:List Blk)(b:Nat)(T:TypeId)[h:AtC w0 L b (row enc [x] sp) T]:LstC w0 L (.slice (some ⟨b,0,none⟩) 1 1) α enc [x]:=⟨fun w hw=>by
 obtain⟨fz,hb⟩:=h.out w hw
 exact Zee (c:=1) hb (Wl 1)⟩
theorem Zth {l:List Za}{d:Int}{c:List Int}(hc:CompL l d c)(s:Int):∃V:List Int,V.length<=c.length/\∀v b,Rch (edL l (smI l c l.length)) (· ∈[s]) v b->v∈V:=by
 by_cases hs:s∈c
 ·exact⟨c,Wl _,fun v b hb=>Zme hc (ds:=[s]) (fun t ht=>by rw[Wo] at ht;rw[ht];exact(hc.mem s).1 hs) hb⟩
 ·refine⟨[s],List.length_pos_of_mem ((hc.mem d).2 .base),fun v b hb=>?_⟩
  have key:v=s:=by
   induction hb with
   |src ht=>exact List.mem_singleton.1 ht
   | @stp e a h1 h2 ih=>
    obtain⟨g1,_⟩:=ZdM hc h2
    rw[ih] at g1
    exact(hs ((hc.mem s).2 g1)).elim
  rw[key]
  exact List.mem_singleton.2 rfl
structure OneOk (l:List Za)(d s:Int)(a b:List (Int×Int)):Prop where
 none:∀v,mget a v=none->¬∃m,RchX l d s v m
 some:∀v m,mget a v=some m->DstX l d s v m/\∃r,BkM l b s v r/\r.length<=4096/\wS l r=m
theorem ZqC {l:List Za}{d s:Int}{c:List Int}(hc:CompL l d c){K:Nat}{r:Int}{q:Sr}{a b:List (Int×Int)}(hf:∃f,PotX l d f)(hK:c.length<=K)(hok:FrOk (edL l (smI l c l.length)) [s] K r q)(hm:MatS q a b):OneOk l d s a b:=by
 obtain⟨f,hf⟩:=hf
 have hp:=(Zfs hc).1 hf
 have hrg:=Zhv (l:=l) (c:=c)
 obtain⟨E,hE⟩:∃E,E=edL l (smI l c l.length):=⟨_,rfl⟩
 have hV:∃V:List Int,V.length<=K/\∀v b,Rch E (· ∈[s]) v b->v∈V:=by
  obtain⟨V,v1,v2⟩:=Zth hc s
  exact⟨V,Wi v1 hK,by rw[hE];exact v2⟩
 have hr:r= -1:=by
  rcases Int.decEq r (-1) with h|h
  ·obtain⟨e0,h1,h2,⟨z,hz⟩,_⟩:=hok.bad h
   obtain⟨V,v1,v2⟩:=hV
   have:=ZiT (hE▸hp) v2 v1 e0 (hE▸h1)
   rw[hE,hz] at this
   cases this
  ·exact h
 obtain⟨h1,h2,h3⟩:=hok.good hr
 have hS:(fun x:Int=>x∈[s])=(fun x=>x=s):=by
  funext x
  simp
 obtain⟨c0,c1,c2⟩:=h3 s (List.mem_singleton.2 rfl)
 have hc0:c0=0:=by
  have h4:=Znr hp (S:=(· ∈[s])) (L:=f s) (fun t ht=>by rw[List.mem_singleton.1 ht];exact Int.le_refl _) (h1.r _ _ c1)
  omega
 subst hc0
 refine⟨fun v hv ⟨m,hm2⟩=>?_,fun v m hv=>?_⟩
 ·obtain⟨m',g1,_⟩:=h1.dst h3 h2 ((ZgX hc).1 hm2)
  rw[<-hm.s,hv] at g1
  cases g1
 ·rw[hm.s] at hv
  obtain⟨m',g1,g2⟩:=h1.dst h3 h2 (h1.r _ _ hv)
  rw[hv] at g1
  injection g1 with g1
  subst g1
  rw[hS] at h1
  obtain⟨p,p1,p2,p3,p4⟩:=h1.bk h2 c1 (q.t v+1) v m (Nat.lt_succ_self _) hv
  refine⟨⟨(ZgX hc).2 g2.1,fun b hb=>g2.2 b ((ZgX hc).1 hb)⟩,p.map fun e=>(e.i:Int),Zvs hrg hm p1 p4, ?_, ?_⟩
  ·have:=h1.le v
   have:=hok.n
   rw[Ws]
   omega
  ·rw[ZpK hrg p4]
   omega
inductive ChR (l:List Za)(d:Int):List Int->List Int->Int->Prop
 |no:d=0\/d∉devL l->ChR l d [] [] 0
 |bad:d≠0->d∈devL l->(¬∃f,PotX l d f)->ChR l d [] [] 32
 |far:d≠0->d∈devL l->(∃f,PotX l d f)->((¬∃m,RchX l d 0 d m)\/¬∃m,RchX l d d 0 m)->ChR l d [] [] 31
 |ok {up dn:List Int}:d≠0->d∈devL l->(∃f,PotX l d f)->FwdM l 0 up d->FwdM l d dn 0->up≠[]->up.length<=4096->dn.length<=4096->DstX l d 0 d (wS l up)->DstX l d d 0 (wS l dn)->ChR l d up dn 0
abbrev ChS (l:List Za)(d:Int):Type:=(x:{x:List Int×List Int×Int // ChR l d x.1 x.2.1 x.2.2})×SlS (eI .i64) 1 x.1.1×SlS (eI .i64) 1 x.1.2.1
theorem ZtS (l:List Za)(hl:l.length<=6):(devL l).Pairwise leI/\(devL l).length<=1048576:=⟨Zer _,by
 have:=Zit l l.length (Wl _)
 unfold devL
 rw[Zej,Ws]
 omega⟩
set_option maxHeartbeats 16000000 in
theorem Zlw (p:Option Addr)(n cp:Nat)(l:List Za)(d:Int)(w:World)(hv:ArgS w (.slice p n cp) Zf l)(hl:l.length<=6)(hex:∀x∈l,ExB x)(hd:0<=d/\d<=1073741824):
  Calls prog 163 [.slice p n cp, .int .i64 d].toArray w (RetM (ChS l d) (fun x=> .tuple #[vSl x.2.1,vSl x.2.2, .int .i64 x.1.1.2.2]) (fun x=>mS 3 x.2.2++mS 3 x.2.1) w):=by
 obtain⟨p',cp',hf1⟩:=hv.form
 injection hf1 with f1 f2 f3
 subst f1
 subst f2
 subst f3
 have hls:=fun L=>hv.lstK L
 have hlx:l.length<=6/\∀x∈l,ExB x:=⟨hl,hex⟩
 have hdv:=ZtS l hl
 refine Zg Tryz.func163 rfl Tryz.ntmps163 rfl ?_
 repeat(refine wkM ?_;intros)
 simp only[We (show¬d<0 by omega)]
 repeat(refine wkM ?_;intros)
 simp only[We (show¬(1073741824:Int)<d by omega)]
 repeat(first|(refine wkM ?_;intros)|(refine wnM ?_ ?_;(focus(first|exact hl|exact hdv));intros))
 by_cases h0:d=0
 ·simp only[Wc h0]
  repeat(refine wkM ?_;intros)
  refine ZaB rfl (Zk rfl) (Zk rfl) (Zk rfl) (fun w hw=>⟨⟨⟨([],[],0), .no (.inl h0)⟩,SlS.no,SlS.no⟩,rfl,hw.sub (Wk _)⟩)
 simp only[We h0]
 repeat(refine wkM ?_;intros)
 by_cases h1:d∈devL l
 ·simp only[Wc h1,Bool.not_true]
  repeat(first|(refine wkM ?_;intros)|(refine wnM ?_ ?_;(focus(exact hlx));intros))
  rename_i sd cy
  obtain⟨⟨⟨cyl,bad⟩,hcy⟩,so⟩:=cy
  dsimp only
  cases bad with
  |true=>
   repeat(refine wkM ?_;intros)
   exact ZaB rfl (Zk rfl) (Zk rfl) (Zk rfl) (fun w hw=>⟨⟨⟨([],[],32), .bad h0 h1 (hcy.bad rfl)⟩,SlS.no,SlS.no⟩,rfl,hw.sub (Wk _)⟩)
  |false=>
   have hpot:=hcy.good rfl
   have hfr:∀(cc:{c:List Int // CompL l d c})(s:Int),l.length<=6/\(smI l cc.1 l.length).length<=6/\(∀k∈smI l cc.1 l.length,0<=k/\k<l.length)/\(∀x∈l,ExB x)/\[s].length<=1048576/\cc.1.length<=12/\((∀e∈edL l (smI l cc.1 l.length),e.v∈[s])\/((∃f,PotE (edL l (smI l cc.1 l.length)) f)/\∃V:List Int,V.length<=cc.1.length/\∀v b,Rch (edL l (smI l cc.1 l.length)) (· ∈[s]) v b->v∈V)):=fun cc s=>by
    have h2:=cc.2.few
    have h3:=Zgj l cc.1 l.length
    obtain⟨f,hf⟩:=hpot
    exact⟨hl,by omega,Zhv,hex,by simp,by omega, .inr ⟨⟨f,(Zfs cc.2).1 hf⟩,Zth cc.2 s⟩⟩
   repeat(first|(refine wkM ?_;intros)|(refine wnM ?_ ?_;(focus(first|exact hl|exact hfr _ _));intros))
   rename_i pc b11 bx1 q1 b12 bx2 q2 b14
   obtain⟨⟨c,hc⟩,s⟩:=pc
   obtain⟨qq1,r1,m11,m12,a1,b1,ok1,mat1⟩:=q1
   obtain⟨qq2,r2,m21,m22,a2,b2,ok2,mat2⟩:=q2
   dsimp only
   have O1:OneOk l d 0 a1 b1:=ZqC hc hpot (Nat.le_succ _) ok1 mat1
   have O2:OneOk l d d a2 b2:=ZqC hc hpot (Nat.le_succ _) ok2 mat2
   cases hA:mget a1 d with
   |none=>
    simp only[Option.isSome_none,Bool.not_false]
    repeat(refine wkM ?_;intros)
    exact ZaB rfl (Zk rfl) (Zk rfl) (Zk rfl) (fun w hw=>⟨⟨⟨([],[],31), .far h0 h1 hpot (.inl (O1.none d hA))⟩,SlS.no,SlS.no⟩,rfl,hw.sub (Wk _)⟩)
   |some z1=>
    simp only[Option.isSome_some,Bool.not_true]
    repeat(refine wkM ?_;intros)
    cases hB:mget a2 0 with
    |none=>
     simp only[Option.isSome_none,Bool.not_false]
     repeat(refine wkM ?_;intros)
     exact ZaB rfl (Zk rfl) (Zk rfl) (Zk rfl) (fun w hw=>⟨⟨⟨([],[],31), .far h0 h1 hpot (.inr (O2.none 0 hB))⟩,SlS.no,SlS.no⟩,rfl,hw.sub (Wk _)⟩)
    |some z2=>
     simp only[Option.isSome_some,Bool.not_true]
     obtain⟨D1,R1,B1,N1,W1⟩:=O1.some d z1 hA
     obtain⟨D2,R2,B2,N2,W2⟩:=O2.some 0 z2 hB
     have hq1:l.length<=6/\∃r,BkM l b1 0 d r/\r.length<=4096:=⟨hl,R1,B1,N1⟩
     have hq2:l.length<=6/\∃r,BkM l b2 d 0 r/\r.length<=4096:=⟨hl,R2,B2,N2⟩
     repeat(refine wkM ?_;intros)
     (refine ZX (.v [0,1,2,4,5,6] (.e1 3 (.e1 7 (.e1 8 (.e1 9 (.e1 10 (.fin))))))) (_) (h:=?_);refine wkX ?_)
     (repeat(refine wkH ?_))
     repeat(first|(refine wkT ?_;intros)|(refine tC rfl rfl ?_ ?_;focus(first|exact hq1|exact hq2))|(refine uC rfl rfl ?_ ?_;focus(first|exact hq1|exact hq2))|(refine eN rfl rfl ?_ ?_;(focus(first|exact hq1|exact hq2));intro _;(try simp only[Wf,Wg,Wh])))
     rename_i u1 u2
     obtain⟨⟨v1,hv1⟩,o1⟩:=u1
     obtain⟨⟨v2,hv2⟩,o2⟩:=u2
     dsimp only
     have hok:ChR l d v1.reverse v2.reverse 0:=by
      have e1:=hv1.uniq B1
      have e2:=hv2.uniq B2
      refine .ok h0 h1 hpot hv1.fwd hv2.fwd (fun h=>h0 (hv1.len0.1 (List.reverse_eq_nil_iff.1 h))) (by rw[List.length_reverse,e1];exact N1) (by rw[List.length_reverse,e2];exact N2) ?_ ?_
      ·rw[Zk3,e1,W1];exact D1
      ·rw[Zk3,e2,W2];exact D2
     repeat(refine wkM ?_;intros)
     exact ZaB rfl (Zk rfl) (Zk rfl) (Zk rfl) (fun w hw=>⟨⟨⟨(v1.reverse,v2.reverse,0),hok⟩,o1,o2⟩,rfl,hw.sub suB⟩)
 ·simp only[We h1,Bool.not_false]
  repeat(refine wkM ?_;intros)
  refine ZaB rfl (Zk rfl) (Zk rfl) (Zk rfl) (fun w hw=>⟨⟨⟨([],[],0), .no (.inr h1)⟩,SlS.no,SlS.no⟩,rfl,hw.sub (Wk _)⟩)
instance ZAT (w0:World)(L:List Blk)(p:Option Addr)(n cp:Nat)(l:List Za)(d:Int)[h:LstC w0 L (.slice p n cp) Za Zf l]:SpecR prog w0 L 163 [.slice p n cp, .int .i64 d] (ChS l d) (fun x=> .tuple #[vSl x.2.1,vSl x.2.2, .int .i64 x.1.1.2.2]) (fun x=>mS 3 x.2.2++mS 3 x.2.1) (l.length<=6/\(∀x∈l,ExB x)/\(0<=d/\d<=1073741824)):=⟨fun hp w hw=>Zlw p n cp l d w (h.out w hw) hp.1 hp.2.1 hp.2.2⟩
end
section
inductive OffR (l:List Za)(d:Int):Int->Int->Int->Prop
 |no:d=0\/d∉devL l->OffR l d 0 0 0
 |bad:d≠0->d∈devL l->(¬∃f,PotX l d f)->OffR l d 0 0 32
 |far:d≠0->d∈devL l->(∃f,PotX l d f)->((¬∃m,RchX l d 0 d m)\/¬∃m,RchX l d d 0 m)->OffR l d 0 0 31
 |ok {hi m:Int}:d≠0->d∈devL l->(∃f,PotX l d f)->DstX l d 0 d hi->DstX l d d 0 m->OffR l d (-m) hi 0
theorem OffR.uniq {l:List Za}{d lo hi e lo' hi' e':Int}(h:OffR l d lo hi e)(k:OffR l d lo' hi' e'):lo=lo'/\hi=hi'/\e=e':=by
 cases h with
 |no h1=>
  cases k with
  |no k1=>exact⟨rfl,rfl,rfl⟩
  |bad k1 k2 k3=>exact(h1.elim k1 (fun h=>h k2)).elim
  |far k1 k2 k3 k4=>exact(h1.elim k1 (fun h=>h k2)).elim
  |ok k1 k2 k3 k4 k5=>exact(h1.elim k1 (fun h=>h k2)).elim
 |bad h1 h2 h3=>
  cases k with
  |no k1=>exact(k1.elim h1 (fun h=>h h2)).elim
  |bad k1 k2 k3=>exact⟨rfl,rfl,rfl⟩
  |far k1 k2 k3 k4=>exact(h3 k3).elim
  |ok k1 k2 k3 k4 k5=>exact(h3 k3).elim
 |far h1 h2 h3 h4=>
  cases k with
  |no k1=>exact(k1.elim h1 (fun h=>h h2)).elim
  |bad k1 k2 k3=>exact(k3 h3).elim
  |far k1 k2 k3 k4=>exact⟨rfl,rfl,rfl⟩
  |ok k1 k2 k3 k4 k5=>exact(h4.elim (fun h=>h ⟨_,k4.1⟩) (fun h=>h ⟨_,k5.1⟩)).elim
 |ok h1 h2 h3 h4 h5=>
  cases k with
  |no k1=>exact(k1.elim h1 (fun h=>h h2)).elim
  |bad k1 k2 k3=>exact(k3 h3).elim
  |far k1 k2 k3 k4=>exact(k4.elim (fun h=>h ⟨_,h4.1⟩) (fun h=>h ⟨_,h5.1⟩)).elim
  |ok k1 k2 k3 k4 k5=>
   have e1:=h4.uniq k4
   have e2:=h5.uniq k5
   exact⟨by rw[e2],e1,rfl⟩
open Classical in
noncomputable def offX (l:List Za)(d:Int):Int×Int×Int:=if h:∃x:Int×Int×Int,OffR l d x.1 x.2.1 x.2.2 then h.choose else(0,0,0)
theorem ZeN {l:List Za}{d lo hi e:Int}(h:OffR l d lo hi e):offX l d=(lo,hi,e):=by
 have hx:∃x:Int×Int×Int,OffR l d x.1 x.2.1 x.2.2:=⟨(lo,hi,e),h⟩
 unfold offX
 rw[dif_pos hx]
 obtain⟨h1,h2,h3⟩:=hx.choose_spec.uniq h
 exact Prod.ext h1 (Prod.ext h2 h3)
instance ZID (w0:World)(L:List Blk)(v:Value)(a c:Int):SpecM prog w0 L 164 [v, .slice none 0 0, .int .i64 a, .int .i64 c] (.tuple #[.int .i64 0, .int .i64 (if a=c then 0 else 30)]) True:=⟨fun _ w _=>ZpW v a c w⟩
theorem ZrM {l:List Za}(hex:∀x∈l,ExB x):∀{a c:Int} {r:List Int},FwdM l a r c-> -(2147483648*(r.length:Int))<=wS l r/\wS l r<=2147483648*(r.length:Int)
 |_,_,[],_=>by simp[wS]
 |a,c,k::r,h=>by
  have h1:=ZrM hex h.2.2
  have h2:=Zte (hex (gi l k) (ZI (by have:=h.1;omega)))
  rw[wS,Wu]
  omega
abbrev OffS (l:List Za)(d:Int):Type:={x:Int×Int×Int // OffR l d x.1 x.2.1 x.2.2/\(-17592186044416<=x.1/\x.1<=17592186044416)/\(-17592186044416<=x.2.1/\x.2.1<=17592186044416)}
set_option maxHeartbeats 8000000 in
theorem ZgE (p:Option Addr)(n cp:Nat)(l:List Za)(d:Int)(w:World)(hv:ArgS w (.slice p n cp) Zf l)(hl:l.length<=6)(hex:∀x∈l,ExB x)(hd:0<=d/\d<=1073741824):
  Calls prog 105 [.slice p n cp, .int .i64 d].toArray w (RetM (OffS l d) (fun x=> .tuple #[.agg (Zam ⟨x.1.1,x.1.2.1⟩), .int .i64 x.1.2.2]) (fun _=>[]) w):=by
 obtain⟨p',cp',hf1⟩:=hv.form
 injection hf1 with f1 f2 f3
 subst f1
 subst f2
 subst f3
 have hls:=fun L=>hv.lstK L
 have hlx:l.length<=6/\(∀x∈l,ExB x)/\(0<=d/\d<=1073741824):=⟨hl,hex,hd⟩
 refine Zg Tryz.func105 rfl Tryz.ntmps105 rfl ?_
 repeat(first|(refine wkM ?_;intros)|(refine wnM ?_ ?_;(focus(exact hlx));intros))
 rename_i b4 ch
 obtain⟨⟨⟨up,dn,e⟩,hch⟩,o1,o2⟩:=ch
 dsimp only at hch o1 o2⊢
 cases hch with
 |no h1=>
  rcases o1.cases 3 with⟨-,x1,x2⟩|⟨_,_,_,_,_,_,xne⟩
  ·rcases o2.cases 3 with⟨-,y1,y2⟩|⟨_,_,_,_,_,_,yne⟩
   ·simp only[x1,x2,y1,y2,Wg]
    repeat(first|(refine wkM ?_;intros)|(refine wnM ?_ ?_;(focus(exact trivial));intros))
    try simp only[Wc (show(0:Int)=0 from rfl),Bool.not_true]
    repeat(first|(refine wkM ?_;intros)|(refine wnM ?_ ?_;(focus(exact trivial));intros))
    refine ZA rfl (Zab rfl) (Zk rfl) (fun w hw=>⟨⟨(0,0,0), .no h1,by dsimp only;omega,by dsimp only;omega⟩,rfl,hw.sub (Wk _)⟩)
   ·exact(yne rfl).elim
  ·exact(xne rfl).elim
 |bad h1 h2 h3=>
  repeat(refine wkM ?_;intros)
  try simp only[We (show¬(32:Int)=0 by decide),Bool.not_false]
  repeat(refine wkM ?_;intros)
  refine ZA rfl (Zab rfl) (Zk rfl) (fun w hw=>⟨⟨(0,0,32), .bad h1 h2 h3,by dsimp only;omega,by dsimp only;omega⟩,rfl,hw.sub (Wk _)⟩)
 |far h1 h2 h3 h4=>
  repeat(refine wkM ?_;intros)
  try simp only[We (show¬(31:Int)=0 by decide),Bool.not_false]
  repeat(refine wkM ?_;intros)
  refine ZA rfl (Zab rfl) (Zk rfl) (fun w hw=>⟨⟨(0,0,31), .far h1 h2 h3 h4,by dsimp only;omega,by dsimp only;omega⟩,rfl,hw.sub (Wk _)⟩)
 |ok h1 h2 h3 h4 h5 h6 h7 h8 h9 h10=>
  have hs1:l.length<=6/\up.length<=4096/\(∀x∈l,ExB x)/\FwdM l 0 up d:=⟨hl,h7,hex,h4⟩
  have hs2:l.length<=6/\dn.length<=4096/\(∀x∈l,ExB x)/\FwdM l d dn 0:=⟨hl,h8,hex,h5⟩
  have hb1:=ZrM hex h4
  have hb2:=ZrM hex h5
  have hul:0<up.length:=List.length_pos_iff.2 h6
  have hng:IntKind.i64.wrap (-(wS l dn))= -(wS l dn):=IntWalk.i64_in _ (by omega)
  simp only[List.append_assoc]
  repeat(first|(refine wkM ?_;intros)|(refine wnM ?_ ?_;(focus(first|exact hs1|exact hs2));intros))
  try simp only[Wc (show(0:Int)=0 from rfl),Bool.not_true]
  repeat(first|(refine wkM ?_;intros)|(refine wnM ?_ ?_;(focus(first|exact hs1|exact hs2));intros))
  simp only[We (show¬((up.length:Nat):Int)=0 by omega)]
  repeat(refine wkM ?_;intros)
  simp only[hng]
  repeat(refine wkM ?_;intros)
  refine ZA rfl (Zab rfl) (Zk rfl) (fun w hw=>⟨⟨(-(wS l dn),wS l up,0), .ok h1 h2 h3 h9 h10,by dsimp only;omega,by dsimp only;omega⟩,rfl,hw.sub (Wk _)⟩)
instance ZA4 (w0:World)(L:List Blk)(p:Option Addr)(n cp:Nat)(l:List Za)(d:Int)[h:LstC w0 L (.slice p n cp) Za Zf l]:SpecR prog w0 L 105 [.slice p n cp, .int .i64 d] (OffS l d) (fun x=> .tuple #[.agg (Zam ⟨x.1.1,x.1.2.1⟩), .int .i64 x.1.2.2]) (fun _=>[]) (l.length<=6/\(∀x∈l,ExB x)/\(0<=d/\d<=1073741824)):=⟨fun hp w hw=>ZgE p n cp l d w (h.out w hw) hp.1 hp.2.1 hp.2.2⟩
instance ZCC (lo hi:Int):SpecC prog 106 [.agg (Zam ⟨lo,hi⟩)] (vQ (Rat.divInt (lo+hi) 2)) ((-17592186044416<=lo/\lo<=17592186044416)/\(-17592186044416<=hi/\hi<=17592186044416)):=⟨fun hp w=>by
 obtain⟨h1,h2⟩:=hp
 refine Zg Tryz.func106 rfl Tryz.ntmps106 rfl ?_
 have hwr:IntKind.i64.wrap (lo+hi)=lo+hi:=IntWalk.i64_in _ (by omega)
 repeat(refine wkM ?_;intros)
 dsimp only
 simp only[hwr]
 repeat(refine wkO ?_;intros)
 exact rtC rfl rfl⟩
noncomputable def corX (l:List Za)(r:Zb):Rat×Int:=if(offX l r.Device).2.2=0 then((r.Time:Rat)-Rat.divInt ((offX l r.Device).1+(offX l r.Device).2.1) 2,0) else(0,(offX l r.Device).2.2)
set_option maxHeartbeats 8000000 in
theorem Zk7 (p:Option Addr)(n cp:Nat)(l:List Za)(r:Zb)(w:World)(hv:ArgS w (.slice p n cp) Zf l)(hl:l.length<=6)(hex:∀x∈l,ExB x)(hd:0<=r.Device/\r.Device<=1073741824)(ht:0<=r.Time/\r.Time<=1073741824):
  Calls prog 55 [.slice p n cp, .agg (Zd r)].toArray w (Ret (.tuple #[vQ (corX l r).1, .int .i64 (corX l r).2]) w):=by
 obtain⟨p',cp',hf1⟩:=hv.form
 injection hf1 with f1 f2 f3
 subst f1
 subst f2
 subst f3
 have hls:=fun L=>hv.lstK L
 have hlx:l.length<=6/\(∀x∈l,ExB x)/\(0<=r.Device/\r.Device<=1073741824):=⟨hl,hex,hd⟩
 refine Zg Tryz.func55 rfl Tryz.ntmps55 rfl ?_
 repeat(first|(refine wkM ?_;intros)|(refine wnM ?_ ?_;(focus(exact hlx));intros))
 rename_i b3 b4 xs b6
 obtain⟨⟨lo,hi,er⟩,h1,h2,h3⟩:=xs
 dsimp only at h1 h2 h3⊢
 have hx:=ZeN h1
 have hc:corX l r=if er=0 then((r.Time:Rat)-Rat.divInt (lo+hi) 2,0) else(0,er):=by
  unfold corX
  rw[hx]
 have hr: -9223372036854775808<=r.Time/\r.Time<=9223372036854775807:=by omega
 have hmid:(-17592186044416<=lo/\lo<=17592186044416)/\(-17592186044416<=hi/\hi<=17592186044416):=⟨h2,h3⟩
 have hm:M (r.Time:Rat)<=LQ/\M (Rat.divInt (lo+hi) 2)<=LQ:=⟨Wi (ZdR (by omega)) (by decide),Wi (Zea (k:=8) (Zc3 (by omega)) (by decide) (by decide)) (by decide)⟩
 by_cases he:er=0
 ·subst he
  rw[if_pos rfl] at hc
  rw[hc]
  try simp only[Wc (show(0:Int)=0 from rfl),Bool.not_true]
  repeat(refine wkM ?_;intros)
  (refine ZX (.v [0,1,2,3,4,5] (.e1 6 (.e1 7 (.fin)))) ([⟨b6,Zam ⟨lo,hi⟩,196⟩,⟨b3,Zd r,35⟩]) (h:=?_);refine wkX ?_)
  (repeat(first|refine wkH ?_|(refine tC rfl rfl ?_ ?_;focus(first|exact hr|exact hmid|exact hm))))
  repeat(refine wkT ?_;intros)
  repeat(refine wkM ?_;intros)
  exact ZA rfl (Zab rfl) (Zk rfl) (fun w hw=>ZZ hw)
 ·rw[if_neg he] at hc
  rw[hc]
  simp only[We he,Bool.not_false]
  repeat(refine wkM ?_;intros)
  exact ZA rfl (Zab rfl) (Zk rfl) (fun w hw=>ZZ hw)
end
section
theorem ZmG {l:List Za}{v:Int}:∀i,i<=l.length->((∃b,mget (dmL l i) v=some b)↔∃x∈l.take i,x.From=v\/x.To=v)
 |0,_=>by simp[dmL,mget]
 |i+1,h=>by
  have hlt:i<l.length:=h
  have ih:=ZmG (l:=l) (v:=v) i (Nat.le_of_lt hlt)
  have htk:l.take (i+1)=l.take i++[gi l (i:Int)]:=by rw[Wn hlt,Zj hlt]
  rw[ZgW hlt,htk]
  unfold dmS
  rw[ZaE,ZaE]
  generalize gi l (i:Int)=x
  constructor
  ·rintro⟨b,hb⟩
   by_cases h1:v=x.To
   ·exact⟨x,List.mem_append_right _ (List.mem_singleton.2 rfl), .inr h1.symm⟩
   ·by_cases h2:v=x.From
    ·exact⟨x,List.mem_append_right _ (List.mem_singleton.2 rfl), .inl h2.symm⟩
    ·rw[if_neg h1,if_neg h2] at hb
     obtain⟨y,hy,hv⟩:=ih.1 ⟨b,hb⟩
     exact⟨y,List.mem_append_left _ hy,hv⟩
  ·rintro⟨y,hy,hv⟩
   by_cases h1:v=x.To
   ·exact⟨true,if_pos h1⟩
   ·rw[if_neg h1]
    by_cases h2:v=x.From
    ·exact⟨true,if_pos h2⟩
    ·rw[if_neg h2]
     rcases List.mem_append.1 hy with hy|hy
     ·exact ih.2 ⟨y,hy,hv⟩
     ·rw[Wo] at hy
      subst hy
      rcases hv with hv|hv
      ·exact(h2 hv.symm).elim
      ·exact(h1 hv.symm).elim
theorem Zg4 {l:List Za}{v:Int}:v∈devL l↔∃x∈l,x.From=v\/x.To=v:=by
 have h:=ZmG (l:=l) (v:=v) l.length (Wl _)
 rw[List.take_length,Zdr] at h
 unfold devL
 rw[(ZcZ _).mem_iff]
 exact h
theorem RchX.mono {l k:List Za}{d s v b:Int}(h:∀x∈l,x∈k)(c:RchX l d s v b):RchX k d s v b:=by
 induction c with
 |src=>exact .src
 |stp h1 h2 h3 ih=>exact .stp ih (h _ h2) (h3.mono h)
theorem OffR.mono {l k:List Za}{d lo hi e:Int}(h:∀x,x∈l↔x∈k)(c:OffR l d lo hi e):OffR k d lo hi e:=by
 have h1:∀x∈l,x∈k:=fun x hx=>(h x).1 hx
 have h2:∀x∈k,x∈l:=fun x hx=>(h x).2 hx
 have hd:d∈devL l↔d∈devL k:=by
  rw[Zg4,Zg4]
  exact⟨fun⟨x,hx,hv⟩=>⟨x,h1 x hx,hv⟩,fun⟨x,hx,hv⟩=>⟨x,h2 x hx,hv⟩⟩
 have hp:(∃f,PotX l d f)↔∃f,PotX k d f:=
  ⟨fun⟨f,hf⟩=>⟨f,fun x hx hc=>hf x (h2 x hx) (hc.mono h2)⟩,fun⟨f,hf⟩=>⟨f,fun x hx hc=>hf x (h1 x hx) (hc.mono h1)⟩⟩
 have hr:∀s v b,RchX l d s v b↔RchX k d s v b:=fun s v b=>⟨RchX.mono h1,RchX.mono h2⟩
 have hD:∀s v m,DstX l d s v m->DstX k d s v m:=fun s v m hm=>⟨(hr s v m).1 hm.1,fun b hb=>hm.2 b ((hr s v b).2 hb)⟩
 cases c with
 |no g1=>exact .no (g1.imp_right fun g hk=>g (hd.2 hk))
 |bad g1 g2 g3=>exact .bad g1 (hd.1 g2) fun g=>g3 (hp.2 g)
 |far g1 g2 g3 g4=>exact .far g1 (hd.1 g2) (hp.1 g3) (g4.imp (fun g ⟨m,hm⟩=>g ⟨m,(hr _ _ _).2 hm⟩) fun g ⟨m,hm⟩=>g ⟨m,(hr _ _ _).2 hm⟩)
 |ok g1 g2 g3 g4 g5=>exact .ok g1 (hd.1 g2) (hp.1 g3) (hD _ _ _ g4) (hD _ _ _ g5)
theorem Zsx {l k:List Za}{d:Int}(h:∀x,x∈l↔x∈k):offX l d=offX k d:=by
 by_cases hx:∃x:Int×Int×Int,OffR l d x.1 x.2.1 x.2.2
 ·obtain⟨x,hx⟩:=hx
  rw[ZeN hx,ZeN (hx.mono h)]
 ·have hy:¬∃x:Int×Int×Int,OffR k d x.1 x.2.1 x.2.2:=fun⟨x,hy⟩=>hx ⟨x,hy.mono fun z=>(h z).symm⟩
  unfold offX
  rw[dif_neg hx,dif_neg hy]
theorem ZrN {l k:List Za}{r:Zb}(h:∀x,x∈l↔x∈k):corX l r=corX k r:=by
 unfold corX
 rw[Zsx h]
end
section
structure InkX (w0:World)(L:List Blk)(px:Nat)(l:outParam (List (Zb×Bool)))(x:outParam (List (Za×Bool))):Prop where
 out:∃m1 m2 Tx,AtC w0 L px (vIn m1 m2) Tx/\AtO w0 L m1 (mRp l)/\AtO w0 L m2 (mEx x)
attribute [class] InkX
theorem InkX.all {w0 w:World}{L:List Blk}{px:Nat}{l:List (Zb×Bool)}{x:List (Za×Bool)}(h:InkX w0 L px l x)(hw:Own w0 L w):∀L',InkX w L' px l x:=fun L'=>by
 obtain⟨m1,m2,Tx,h1,h2,h3⟩:=h.out
 have f1:=FoC.mk (h1.out w hw)
 have f2:=FoO.mk (h2.out w hw)
 have f3:=FoO.mk (h3.out w hw)
 exact⟨m1,m2,Tx,inferInstance,inferInstance,inferInstance⟩
instance (priority :=low) inkXOwn (w0:World)(L:List Blk)(px m1 m2:Nat)(l:List (Zb×Bool))(x:List (Za×Bool))(Tx:TypeId)[h1:AtC w0 L px (vIn m1 m2) Tx][h2:AtO w0 L m1 (mRp l)][h3:AtO w0 L m2 (mEx x)]:InkX w0 L px l x:=⟨m1,m2,Tx,h1,h2,h3⟩
instance (priority :=low) ZxF (w0:World)(L:List Blk)(px:Nat)(l:List (Zb×Bool))(x:List (Za×Bool))[h:InkX w0 L px l x]:SpecR prog w0 L 47 [.pointer (some ⟨px,0,none⟩)] (SlS Zd 8 (sorted (pKR l))) (fun s=>vSl s) (fun s=>mS 35 s) (l.length<=12):=⟨fun hl w hw=>by
 obtain⟨m1,m2,Tx,h1,h2,h3⟩:=(h.all hw []).out
 refine Zg Tryz.func47 rfl Tryz.ntmps47 rfl ?_
 have g1:=FoC.mk (h1.out w (Own.start w))
 have g2:=FoO.mk (h2.out w (Own.start w))
 repeat(first|(refine wkM ?_;intros)|(refine wnM ?_ ?_;(focus(exact hl));intros))
 rename_i bm s
 exact Zy rfl rfl (fun w hw=>⟨s,rfl,hw.sub suB⟩)⟩
instance (priority :=low) ZEI (w0:World)(L:List Blk)(px:Nat)(l:List (Zb×Bool))(x:List (Za×Bool))[h:InkX w0 L px l x]:SpecR prog w0 L 155 [.pointer (some ⟨px,0,none⟩)] (SlS Zf 5 (sortedE (pKE x))) (fun s=>vSl s) (fun s=>mS 122 s) (x.length<=12):=⟨fun hl w hw=>by
 obtain⟨m1,m2,Tx,h1,h2,h3⟩:=(h.all hw []).out
 refine Zg Tryz.func155 rfl Tryz.ntmps155 rfl ?_
 have g1:=FoC.mk (h1.out w (Own.start w))
 have g2:=FoO.mk (h3.out w (Own.start w))
 repeat(first|(refine wkM ?_;intros)|(refine wnM ?_ ?_;(focus(exact hl));intros))
 rename_i bm s
 exact Zy rfl rfl (fun w hw=>⟨s,rfl,hw.sub suB⟩)⟩
end
end Go.Vt
