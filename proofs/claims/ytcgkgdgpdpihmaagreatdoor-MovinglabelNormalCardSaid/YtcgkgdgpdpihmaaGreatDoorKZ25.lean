/- For any up to 8 stretches, Normal returns the normal form of their units in any order, if no two have an instant in common, and ErrOverlap otherwise. Conditions: none. (part 25 of 28.) Conditions: those that each statement names. -/
import Derived.Test.YtcgkgdgpdpihmaaGreatDoorProg
import Derived.Test.YtcgkgdgpdpihmaaGreatDoorKZ9
import Derived.Test.YtcgkgdgpdpihmaaGreatDoorKZ20
import Derived.Test.YtcgkgdgpdpihmaaGreatDoorKZ21
import Derived.Test.YtcgkgdgpdpihmaaGreatDoorKZ23
import Derived.Test.YtcgkgdgpdpihmaaGreatDoorKZ24
set_option linter.unusedSimpArgs false
set_option linter.unusedVariables false
set_option maxHeartbeats 2000000
set_option maxRecDepth 100000
namespace Go.Vt
open Go.RowKit Go.Proofs
open Go.Proofs.Tryz (prog)
section
theorem Zqd (s:WS):Dsc (ivS s).From/\Dsc (ivS s).To:=by
 unfold ivS
 split
 ·exact⟨⟨_,rfl⟩,⟨_,rfl⟩⟩
 ·split <;> exact⟨⟨_,rfl⟩,⟨_,rfl⟩⟩
theorem ZiT (l:List St):∀m,∀i∈inS l m,Dsc i.From/\Dsc i.To
 |0,i,hi=>by cases hi
 |m+1,i,hi=>by
  rw[inS,Wv,Wo] at hi
  rcases hi with hi|rfl
  ·exact ZiT l m i hi
  ·exact Zqd _
theorem Zm5 (l:List St):DscL (movV l):=fun u hu=>by
 have h1:∀i∈insV l,Dsc i.From/\Dsc i.To:=ZiT l _
 have h2:∀i∈celV l,Dsc i.From/\Dsc i.To:=Zhb (ZcH h1) (Zfb h1)
 exact Zk3 (Pr:=Dsc) (fun u hu=>h2 _ (Zf4 u hu)) _ (Wl _) u hu
theorem ZjJ {l:List St}{ins cs:List Za}:∀i,∀u∈mvS l ins cs i,Lb u.Label
 |0,u,hu=>by cases hu
 |i+1,u,hu=>by
  have ih:=ZjJ (l:=l) (ins:=ins) (cs:=cs) i
  rw[mvS] at hu
  unfold mv1 at hu
  split at hu
  ·rename_i k _
   rw[Wv,Wo] at hu
   rcases hu with hu|rfl
   ·exact ih u hu
   ·show-1000<=(gi l (k:Int)).Label % 5/\(gi l (k:Int)).Label % 5<=1000
    omega
  ·exact ih u hu
theorem Zjg {l:List PU}(h:∀u∈l,Lb u.Label):∀i,i<=l.length->∀u∈jnL l i,Lb u.Label
 |0,_,u,hu=>by cases hu
 |i+1,hi,u,hu=>by
  have ih:=Zjg h i (by omega)
  have h1:=h (gi l (i:Int)) (Zt (by omega))
  rw[jnL] at hu
  unfold jn1 at hu
  split at hu
  ·rename_i hc
   rcases List.mem_or_eq_of_mem_set hu with hu|rfl
   ·exact ih u hu
   ·exact ih (lstP (jnL l i)) (Zt (by omega))
  ·rw[Wv,Wo] at hu
   rcases hu with hu|rfl
   ·exact ih u hu
   ·exact h1
theorem Zqx {l:List St}(hk:∀x∈l,StOk x):MvP (movV l):=⟨ZiU hk,Zm5 l,Zjg (ZjJ _) _ (Wl _)⟩
end
section
noncomputable def ctV (l:List St):List Rl:=cutR (nrmS (insV l)) (enR (insV l))
theorem Zr5 (l:List St):celV l=celS (nrmS (insV l)) (ctV l) (ctV l).length:=rfl
theorem Zeu {l:List St}(hk:∀x∈l,StOk x):∀i∈insV l,IvOk B28 i:=fun i hi=>(Zb3 hk i hi).mono (by decide)
theorem ZmH {l:List St}(hk:∀x∈l,StOk x):SrR (enR (insV l)++enR (nrmS (insV l))).length (ctV l):=by
 have hil:=ZcT l
 have h1:=Zdv (insV l)
 have h2:=Zbt (insV l)
 exact ZeB ⟨by omega,by omega,fun i hi=>(ZeD hk i hi).mono (by decide),(Zbd (Zeu hk)).b⟩
theorem Zee {l:List St}(hk:∀x∈l,StOk x){x:Rl}:x∈ctV l↔(∃i∈insV l,x=i.From\/x=i.To)\/∃i∈nrmS (insV l),x=i.From\/x=i.To:=by
 have hn:∀i∈nrmS (insV l),IvOk B28 i:=fun i hi=>(ZeD hk i hi).mono (by decide)
 have h2:=(Zbd (Zeu hk)).b
 have h3:=(Zbd hn).b
 unfold ctV cutR
 rw[ZdH (fun x hx=>(List.mem_append.1 hx).elim (h2 x) (h3 x)) _ (Wl _),List.take_length,Wv,ZbM (Zeu hk),ZbM hn]
theorem Zug {l:List St}(hk:∀x∈l,StOk x):∀i∈nrmS (insV l),i.From∈ctV l/\i.To∈ctV l:=fun i hi=>⟨(Zee hk).2 (.inr ⟨i,hi, .inl rfl⟩),(Zee hk).2 (.inr ⟨i,hi, .inr rfl⟩)⟩
theorem Ztn {l:List St}(hk:∀x∈l,StOk x):∀i∈insV l,i.From∈ctV l/\i.To∈ctV l:=fun i hi=>⟨(Zee hk).2 (.inl ⟨i,hi, .inl rfl⟩),(Zee hk).2 (.inl ⟨i,hi, .inr rfl⟩)⟩
theorem ZpW {l:List St}(hk:∀x∈l,StOk x){i:Za}(hi:i∈celV l){z:Ri}(hz:memI i z){k:Nat}(hlt:k<(insV l).length):cndS (insV l) i k=true↔memI (gi (insV l) (k:Int)) z:=by
 have hm:=Zt (i:=(k:Int)) (xs:=insV l) (by omega)
 have hu:=Ztn hk _ hm
 rw[Zr5] at hi
 obtain⟨j,hj,⟨_,rfl⟩|⟨hj1,_,rfl⟩⟩:=(ZbH _ (Wl _)).1 hi
 ·have e:ri (gi (ctV l) (j:Int))=z:=by unfold memI at hz;dsimp only at hz;grind
  unfold cndS
  dsimp only
  rw[Wq,Wc rfl,Bool.not_true,Bool.false_or,Zeh,e]
  refine⟨(·.2),fun h=>⟨?_,h⟩⟩
  unfold spB
  rw[List.any_eq_true]
  refine⟨_, .head _, ?_⟩
  unfold spI
  unfold memI at h
  simp only[Wq,decide_eq_true_eq,ZkF]
  exact⟨by grind,by grind⟩
 ·have hsr:=ZmH hk
  have hne:gi (ctV l) (j:Int)≠gi (ctV l) ((j+1:Nat):Int):=fun e=>by
   have:=hsr.at (Nat.lt_succ_self j) hj1
   rw[<-e] at this
   grind
  unfold memI at hz
  dsimp only at hz
  unfold cndS
  dsimp only
  rw[We hne,Bool.not_false,Bool.true_or,Bool.and_true,Zdl hsr (fun w hw=>by rw[Wo] at hw;rw[hw];exact hu) hj1 (z:=z) (by grind) (by grind)]
  exact⟨fun⟨w,hw,h⟩=>by rw[Wo] at hw;rwa [hw] at h,fun h=>⟨_, .head _,h⟩⟩
theorem Zg4 {l:List St}(hk:∀x∈l,StOk x){i:Za}(hi:i∈celV l){z:Ri}(hz:memI i z):∀n,n<=(insV l).length->∀k,pkS (insV l) i n=some k↔k<n/\memI (gi (insV l) (k:Int)) z/\∀j:Nat,k<j->j<n->¬memI (gi (insV l) (j:Int)) z
 |0,_,k=>⟨(fun h=>by cases h),fun h=>by omega⟩
 |n+1,hn,k=>by
  have ih:=Zg4 hk hi hz n (by omega) k
  have hc:=ZpW hk hi hz (k:=n) (by omega)
  rw[pkS]
  by_cases c:cndS (insV l) i n=true
  ·rw[if_pos c]
   have hcn:=hc.1 c
   constructor
   ·intro h
    injection h with h
    subst h
    exact⟨by omega,hcn,fun j h1 h2=>by omega⟩
   ·rintro⟨h1,h2,h3⟩
    rcases(by omega:k=n\/k<n) with rfl|h4
    ·rfl
    ·exact(h3 n h4 (by omega) hcn).elim
  ·rw[if_neg c,ih]
   have hcn:¬memI (gi (insV l) (n:Int)) z:=fun h=>c (hc.2 h)
   constructor
   ·rintro⟨h1,h2,h3⟩
    refine⟨by omega,h2,fun j h4 h5=>?_⟩
    rcases(by omega:j<n\/j=n) with h6|rfl
    ·exact h3 j h4 h6
    ·exact hcn
   ·rintro⟨h1,h2,h3⟩
    rcases(by omega:k=n\/k<n) with rfl|h4
    ·exact(hcn h2).elim
    ·exact⟨h4,h2,fun j h5 h6=>h3 j h5 (by omega)⟩
theorem Zf6 {l:List St}{ins cs:List Za}{u:PU}:∀n,n<=cs.length->(u∈mvS l ins cs n↔u.In∈cs.take n/\∃k,pkS ins u.In ins.length=some k/\u.Label=(gi l (k:Int)).Label % 5)
 |0,_=>by simp[mvS]
 |n+1,hn=>by
  have ih:=Zf6 (l:=l) (ins:=ins) (cs:=cs) (u:=u) n (by omega)
  rw[mvS,Wn (by omega),<-Zr (by omega),Wv,Wo]
  generalize gi cs (n:Int)=c at*
  unfold mv1
  split
  ·rename_i x hx
   rw[Wv,Wo,ih]
   constructor
   ·rintro(h|rfl)
    ·exact⟨.inl h.1,h.2⟩
    ·exact⟨.inr rfl,x,hx,rfl⟩
   ·rintro⟨h1|h1,k,h2,h3⟩
    ·exact .inl ⟨h1,k,h2,h3⟩
    ·right
     rw[h1,hx] at h2
     injection h2 with h2
     obtain⟨I,y⟩:=u
     dsimp only at h1 h3
     rw[h1,h3,h2]
  ·rename_i hx
   rw[ih]
   constructor
   ·exact fun h=>⟨.inl h.1,h.2⟩
   ·rintro⟨h1|h1,k,h2,h3⟩
    ·exact⟨h1,k,h2,h3⟩
    ·rw[h1,hx] at h2;cases h2
theorem ZnD {l:List St}(hk:∀x∈l,StOk x){z:Ri}{x:Int}:Has ((movV l).map absQ) z x↔∃k:Nat,k<(insV l).length/\memI (gi (insV l) (k:Int)) z/\(∀j:Nat,k<j->j<(insV l).length->¬memI (gi (insV l) (j:Int)) z)/\(gi l (k:Int)).Label % 5=x:=by
 rw[(Zke hk).has z x]
 constructor
 ·rintro⟨w,hw,h1,h2⟩
  obtain⟨u,hu,rfl⟩:=List.mem_map.1 hw
  obtain⟨h3,k,h4,h5⟩:=(Zf6 _ (Wl _)).1 hu
  rw[List.take_length] at h3
  obtain⟨p1,p2,p3⟩:=(Zg4 hk h3 h1 _ (Wl _) k).1 h4
  exact⟨k,p1,p2,p3,h5.symm.trans h2⟩
 ·rintro⟨k,h1,h2,h3,h4⟩
  have hh:HoldP (nrmS (insV l)) z:=((ZdB (by have:=(ZcT l).1;omega) (Zeu hk)).2 z).2 ⟨_,Zt (by omega),h2⟩
  obtain⟨i,h5,h6⟩:=Zgn (ZmH hk) (Zug hk) hh
  have h7:=(Zg4 hk h5 h6 _ (Wl _) k).2 ⟨h1,h2,h3⟩
  exact⟨absQ ⟨i,x⟩,List.mem_map_of_mem ((Zf6 _ (Wl _)).2 ⟨by rw[List.take_length];exact h5,k,h7,h4.symm⟩),h6,rfl⟩
end
section
noncomputable def uSt (x:St):PU:=⟨ivS x.In,x.Label % 5⟩
noncomputable def unL (l:List St):Nat->List PU
 |0=>[]
 |m+1=>unL l m++[uSt (gi l (m:Int))]
noncomputable def ovB (o:List PU)(u:PU):Bool:=decide (0<(((cmbR 2 (inL o) [u.In]).length:Nat):Int))
noncomputable def ovL (l:List St):Nat->Bool
 |0=>false
 |m+1=>ovL l m||ovB (unL l m) (uSt (gi l (m:Int)))
theorem ZbO (l:List St):∀m,(unL l m).length=m
 |0=>rfl
 |m+1=>by rw[unL,Wp,ZbO l m];rfl
theorem ZfD {l:List St}(h:∀x∈l,StOk x):∀m,m<=l.length->∀u∈unL l m,IvOk 3 u.In
 |0,_,i,hi=>by cases hi
 |m+1,hm,i,hi=>by
  rw[unL,Wv,Wo] at hi
  rcases hi with hi|rfl
  ·exact ZfD h m (by omega) i hi
  ·exact ZgP (h _ (Zt (by omega))).a
theorem Zjf {l:List PU}(h:∀u∈l,IvOk 3 u.In):(∀i∈inL l,IvOk 3 i)/\(inL l).length=l.length:=by
 unfold inL
 refine⟨fun i hi=>?_,Zag _ _ _⟩
 rw[Zaz] at hi
 obtain⟨u,h1,rfl⟩:=List.mem_map.1 hi
 exact h u h1
theorem Zql (s:WS):okI (ivS s):=by
 unfold ivS
 split
 ·rename_i h
  exact .inl (ZgL.1 h)
 ·rename_i h
  split
  ·rename_i h2
   exact .inr ⟨Zal.1 h2,rfl,rfl⟩
  ·rename_i h2
   exact .inl (show ri (insT s.A)<ri (insT s.B) from Zac.1 (by omega))
theorem ZdW {l:List St}:∀n,∀j:Nat,j<n->gi (unL l n) (j:Int)=uSt (gi l (j:Int))
 |0,j,h=>by omega
 |n+1,j,h=>by
  have hn:=ZbO l n
  rw[unL]
  rcases(by omega:j<n\/j=n) with h1|rfl
  ·have:=ZdW (l:=l) n j h1
   rw[Zr (by omega)] at this
   rw[Zr (by rw[Wp];omega),List.getElem_append_left (by omega),this]
  ·rw[Zr (by rw[Wp,List.length_singleton];omega),List.getElem_append_right (by omega)]
   simp
theorem Zp8 {l:List St}{n:Nat}:∀j:Nat,j<n->gi (inS l n) (j:Int)=ivS (gi l (j:Int)).In:=by
 induction n with
 |zero=>intro j h;omega
 |succ n ih=>
  intro j h
  have hn:=Zdf l n
  rw[inS]
  rcases(by omega:j<n\/j=n) with h1|rfl
  ·have:=ih j h1
   rw[Zr (by omega)] at this
   rw[Zr (by rw[Wp];omega),List.getElem_append_left (by omega),this]
  ·rw[Zr (by rw[Wp,List.length_singleton];omega),List.getElem_append_right (by omega)]
   simp
theorem Zjc {l:List St}{n:Nat}{u:PU}(hu:u∈unL l n):∃j:Nat,j<n/\u=uSt (gi l (j:Int)):=by
 obtain⟨j,hj,rfl⟩:=List.getElem_of_mem hu
 have hn:=ZbO l n
 rw[<-Zr hj]
 exact⟨j,by omega,ZdW n j (by omega)⟩
theorem ZqN {o:List PU}{u:PU}(ho:∀w∈o,IvOk 3 w.In)(hu:IvOk 3 u.In)(hl:o.length<=8):ovB o u=false↔∀w∈o,Dis (absQ w) (absQ u):=by
 have hio:=Zjf ho
 obtain⟨h1,h2⟩:=Zhf 2 (a:=inL o) (b:=[u.In]) ⟨by rw[hio.2];omega,by simp,fun j hj=>(hio.1 j hj).mono (by decide),fun j hj=>by rw[List.mem_singleton.1 hj];exact hu.mono (by decide)⟩
 have h3:∀z,HoldP (cmbR 2 (inL o) [u.In]) z↔(∃w∈o,memI w.In z)/\memI u.In z:=fun z=>by
  rw[h2 z]
  show(if(2:Int)=1 then _ else if(2:Int)=2 then _ else _)↔_
  rw[if_neg (by decide),if_pos rfl,Zg7]
  exact and_congr Iff.rfl ⟨fun⟨i,h,k⟩=>by rwa [List.mem_singleton.1 h] at k,fun h=>⟨_, .head _,h⟩⟩
 unfold ovB
 rw[decide_eq_false_iff_not]
 constructor
 ·intro h w hw t ht
  obtain⟨i,hi,_⟩:=(h3 t).2 ⟨⟨w,hw,ht.1⟩,ht.2⟩
  have:=List.length_pos_of_mem hi
  omega
 ·intro h hp
  obtain⟨i,hi⟩:=List.exists_mem_of_length_pos (show 0<(cmbR 2 (inL o) [u.In]).length by omega)
  obtain⟨z,hz⟩:=ZrK (ZcD.2 (h1.v i hi))
  obtain⟨⟨w,hw,h4⟩,h5⟩:=(h3 z).1 ⟨i,hi,hz⟩
  exact h w hw z ⟨h4,h5⟩
theorem Zmj {l:List St}(hk:∀x∈l,StOk x):∀n,n<=l.length->n<=8->(ovL l n=false↔((unL l n).map absQ).Pairwise Dis)
 |0,_,_=>⟨fun _=> .nil,fun _=>rfl⟩
 |n+1,hn,h8=>by
  have ih:=Zmj hk n (by omega) (by omega)
  have hu:IvOk 3 (uSt (gi l (n:Int))).In:=ZgP (hk _ (Zt (by omega))).a
  rw[ovL,unL,Bool.or_eq_false_iff,ih,ZqN (ZfD hk n (by omega)) hu (by rw[ZbO];omega),List.map_append,List.pairwise_append]
  constructor
  ·rintro⟨h1,h2⟩
   refine⟨h1,List.pairwise_singleton _ _,fun x hx y hy=>?_⟩
   obtain⟨w,hw,rfl⟩:=List.mem_map.1 hx
   rw[List.map_cons,List.map_nil,Wo] at hy
   rw[hy]
   exact h2 w hw
  ·rintro⟨h1,_,h3⟩
   exact⟨h1,fun w hw=>h3 _ (List.mem_map_of_mem hw) _ (.head _)⟩
theorem Zej (us:List PU):(mpN toU us us.length).map absU=us.map absQ:=by
 rw[Zaz,List.map_map]
 rfl
theorem Zjs {l:List St}(hk:∀x∈l,StOk x){n:Nat}(hn:n<=l.length):UVal (mpN toU (unL l n) (unL l n).length):=by
 rw[Zaz]
 refine⟨fun u hu=>?_,fun u hu=>?_⟩
 ·obtain⟨w,hw,rfl⟩:=List.mem_map.1 hu
  exact⟨(ZfD hk n hn w hw).mono (by decide)⟩
 ·obtain⟨w,hw,rfl⟩:=List.mem_map.1 hu
  obtain⟨j,_,rfl⟩:=Zjc hw
  exact Zql _
theorem Zp2 {l:List St}(hk:∀x∈l,StOk x):(ovL l (min l.length 8)=true->nrmE (mpN toU (unL l (min l.length 8)) (unL l (min l.length 8)).length)=11/\mNorm (unL l (min l.length 8))=[])/\(ovL l (min l.length 8)=false->nrmE (mpN toU (unL l (min l.length 8)) (unL l (min l.length 8)).length)=0/\mNorm (unL l (min l.length 8))=movV l):=by
 have hn:min l.length 8<=l.length:=by omega
 have hv:=Zjs hk hn
 have ho:=Zmj hk (min l.length 8) hn (by omega)
 have h0:=Zff hv
 rw[Zej] at h0
 constructor
 ·intro h
  rcases ZpQ (mpN toU (unL l (min l.length 8)) (unL l (min l.length 8)).length) with h1|⟨h1,h2⟩
  ·have:=ho.2 (h0.1 h1)
   rw[h] at this
   cases this
  ·refine⟨h1, ?_⟩
   unfold mNorm
   rw[h2]
   rfl
 ·intro h
  have hd:=ho.1 h
  refine⟨h0.2 hd, ?_⟩
  obtain⟨h1,h2⟩:=Zfp hv (by rw[Zej];exact hd)
  have hq:(mNorm (unL l (min l.length 8))).map absQ=(nrmR (mpN toU (unL l (min l.length 8)) (unL l (min l.length 8)).length)).map absU:=ZjZ _
  rw[<-hq] at h1 h2
  have hm:=ZiU hk
  have hil:(insV l).length=min l.length 8:=Zdf l _
  refine Zhu (K:=KN) (K':=3) (fun u hu=>?_) hm.k (h1.uniq hm.nf fun z x=>?_)
  ·unfold mNorm at hu
   rw[Zaz] at hu
   obtain⟨w,hw,rfl⟩:=List.mem_map.1 hu
   exact(ZfN hv.i w hw).i
  ·rw[h2,Zej,ZnD hk,hil]
   have hg:∀j:Nat,j<min l.length 8->gi (insV l) (j:Int)=ivS (gi l (j:Int)).In:=Zp8
   constructor
   ·rintro⟨w,hw,m1,m2⟩
    obtain⟨u,hu,rfl⟩:=List.mem_map.1 hw
    obtain⟨k,hk1,rfl⟩:=Zjc hu
    refine⟨k,hk1,by rw[hg k hk1];exact m1,fun j h3 h4 h5=>?_,m2⟩
    rw[hg j h4] at h5
    have hul:=ZbO l (min l.length 8)
    have h6:=List.pairwise_iff_getElem.1 (List.pairwise_map.1 hd) k j (by omega) (by omega) h3
    rw[<-Zr (by omega),<-Zr (by omega),ZdW _ k hk1,ZdW _ j h4] at h6
    exact h6 z ⟨m1,h5⟩
   ·rintro⟨k,hk1,m1,_,m2⟩
    rw[hg k hk1] at m1
    have hul:=ZbO l (min l.length 8)
    have hmem:uSt (gi l (k:Int))∈unL l (min l.length 8):=by
     rw[<-ZdW _ k hk1]
     exact Zt (by omega)
    exact⟨absQ (uSt (gi l (k:Int))),List.mem_map_of_mem hmem,m1,m2⟩
end
section
noncomputable def bkU (l:List PU)(i:Za):PU:=⟨i,(atL l (midR i)).getD 0⟩
noncomputable def bkL (l:List PU)(c:List Za):Nat->List PU
 |0=>[]
 |m+1=>bkL l c m++[bkU l (gi c ((c.length:Int)-1-(m:Int)))]
theorem ZfL (l:List PU)(c:List Za):∀m,(bkL l c m).length=m
 |0=>rfl
 |m+1=>by rw[bkL,Wp,ZfL l c m];rfl
theorem Zj5 (l:List PU)(c:List Za):∀m,m<=c.length->bkL l c m=((c.drop (c.length-m)).map (bkU l)).reverse
 |0,_=>by simp[bkL]
 |m+1,hm=>by
  rw[bkL,Zj5 l c m (by omega),List.drop_eq_getElem_cons (show c.length-(m+1)<c.length by omega),List.map_cons,List.reverse_cons,show c.length-(m+1)+1=c.length-m by omega]
  congr 2
  rw[show(c.length:Int)-1-(m:Int)=((c.length-(m+1):Nat):Int) by omega,Zr (by omega)]
theorem Zph (l:List PU)(c:List Za):bkL l c c.length=(c.map (bkU l)).reverse:=by
 rw[Zj5 l c _ (Wl _),Nat.sub_self,List.drop_zero]
theorem Zqr {l:List PU}(h:MvP l){i:Za}(hi:i∈celL l []){z:Ri}(hz:memI i z):∃x,vlA l z=some x:=by
 have hf:=h.lf MvP.nil
 have hs:=hf.sr
 have hc:=hi
 rw[ZhV] at hc
 refine ZmQ ?_
 have hh:HoldP (nrmS (allL l [])) z:=by
  obtain⟨k,hk,⟨h1,rfl⟩|⟨hk1,h1,rfl⟩⟩:=(ZbH _ (Wl _)).1 hc
  ·have e:ri (gi (ctL l []) (k:Int))=z:=by unfold memI at hz;dsimp only at hz;grind
   rw[<-e]
   exact Zez.1 h1
  ·unfold memI at hz
   dsimp only at hz
   exact(Zdl hs hf.pc hk1 (by grind) (by grind)).1 h1
 obtain⟨j,h1,h2⟩:=((ZdB (by have:=(ZbK hf.sa hf.sb).2;omega) hf.bk).2 z).1 hh
 unfold allL at h1
 rw[Wv] at h1
 rcases h1 with h1|h1
 ·exact Zg7.1 ⟨j,h1,h2⟩
 ·cases h1
theorem Zrx {l:List PU}(h:MvP l):(NrP (mpN toU (bkL l (celL l []) (celL l []).length) (bkL l (celL l []) (celL l []).length).length)/\∀u∈mpN toU (bkL l (celL l []) (celL l []).length) (bkL l (celL l []) (celL l []).length).length,UIn u)/\nrmE (mpN toU (bkL l (celL l []) (celL l []).length) (bkL l (celL l []) (celL l []).length).length)=0/\mNorm (bkL l (celL l []) (celL l []).length)=l:=by
 have hf:=h.lf MvP.nil
 have hco:=Zjq hf.sa hf.sb
 have hcl:=ZhM hf.sa hf.sb (Ze4 hf.sa hf.sb)
 have hb:=ZfG (p:=nrmS (allL l [])) hf.sr _ (Wl _)
 have hbp:(celL l []).Pairwise bfI:=hb.pw
 have hbo:∀i∈celL l [],okI i:=hb.ok
 have hab:=Zej (bkL l (celL l []) (celL l []).length)
 have hall:=Zaz toU (bkL l (celL l []) (celL l []).length)
 have hq:(mNorm (bkL l (celL l []) (celL l []).length)).map absQ=(nrmR (mpN toU (bkL l (celL l []) (celL l []).length) (bkL l (celL l []) (celL l []).length).length)).map absU:=ZjZ _
 have hE:mNorm (bkL l (celL l []) (celL l []).length)=mpN ofU (nrmR (mpN toU (bkL l (celL l []) (celL l []).length) (bkL l (celL l []) (celL l []).length).length)) (nrmR (mpN toU (bkL l (celL l []) (celL l []).length) (bkL l (celL l []) (celL l []).length).length)).length:=rfl
 have hbk:=Zph l (celL l [])
 have hmem:∀{u:PU},u∈bkL l (celL l []) (celL l []).length↔∃i∈celL l [],bkU l i=u:=fun {u}=>by rw[hbk,List.mem_reverse];exact List.mem_map
 have hmU:∀{u:UL},u∈mpN toU (bkL l (celL l []) (celL l []).length) (bkL l (celL l []) (celL l []).length).length↔∃i∈celL l [],toU (bkU l i)=u:=by
  intro u
  rw[hall,List.mem_map]
  constructor
  ·rintro⟨w,hw,rfl⟩
   obtain⟨i,hi,rfl⟩:=hmem.1 hw
   exact⟨i,hi,rfl⟩
  ·rintro⟨i,hi,rfl⟩
   exact⟨_,hmem.2 ⟨i,hi,rfl⟩,rfl⟩
 have hlen:(mpN toU (bkL l (celL l []) (celL l []).length) (bkL l (celL l []) (celL l []).length).length).length<=8192:=by rw[Zag,ZfL];exact hcl
 have hpw:PwU ((celL l []).map (fun i=>toU (bkU l i))):=by
  unfold PwU
  rw[List.pairwise_map]
  exact hbp
 have hnt:NoTie ((celL l []).map (fun i=>toU (bkU l i))):=ZnX (fun u hu=>by obtain⟨i,hi,rfl⟩:=List.mem_map.1 hu;exact hbo i hi) hpw
 have hU:∀u∈mpN toU (bkL l (celL l []) (celL l []).length) (bkL l (celL l []) (celL l []).length).length,UIn u:=fun u hu=>by
  obtain⟨i,hi,rfl⟩:=hmU.1 hu
  exact⟨(hco i hi).mono (by decide)⟩
 have hN:NrP (mpN toU (bkL l (celL l []) (celL l []).length) (bkL l (celL l []) (celL l []).length).length):= .inr ⟨by omega,fun x hx y hy=>by
  obtain⟨i,hi,rfl⟩:=hmU.1 hx
  obtain⟨j,hj,rfl⟩:=hmU.1 hy
  exact hnt _ (List.mem_map_of_mem (f:=fun i=>toU (bkU l i)) hi) _ (List.mem_map_of_mem (f:=fun i=>toU (bkU l i)) hj)⟩
 have hV:UVal (mpN toU (bkL l (celL l []) (celL l []).length) (bkL l (celL l []) (celL l []).length).length):=⟨hU,fun u hu=>by
  obtain⟨i,hi,rfl⟩:=hmU.1 hu
  exact hbo i hi⟩
 have hD:((mpN toU (bkL l (celL l []) (celL l []).length) (bkL l (celL l []) (celL l []).length).length).map absU).Pairwise Dis:=by
  rw[hab,hbk,<-List.map_reverse,List.map_map,List.pairwise_map,List.pairwise_reverse]
  exact hbp.imp fun e=>(GU.bfr.Dis (show(absQ (bkU l _)).bfr (absQ (bkU l _)) from e)).symm
 obtain⟨h1,h2⟩:=Zfp hV hD
 rw[<-hq] at h1 h2
 refine⟨⟨hN,hU⟩,(Zff hV).2 hD,Zhu (K:=KN) (K':=3) (fun u hu=>?_) h.nf.k (h1.uniq h.nf.nf fun z x=>?_)⟩
 ·rw[hE,Zaz] at hu
  obtain⟨w,hw,rfl⟩:=List.mem_map.1 hu
  exact(ZfN hU w hw).i
 ·rw[h2,hab,<-Zqy h.pw]
  constructor
  ·rintro⟨w,hw,m1,m2⟩
   obtain⟨u,hu,rfl⟩:=List.mem_map.1 hw
   obtain⟨i,hi,rfl⟩:=hmem.1 hu
   obtain⟨y,hy⟩:=Zqr h hi m1
   have ha:=(hf.at hi m1).1
   rw[hy] at ha⊢
   have m3:(atL l (midR i)).getD 0=x:=m2
   rw[ha] at m3
   exact congrArg some m3
  ·intro hx
   obtain⟨u,hu,m1,rfl⟩:=ZeU hx
   obtain⟨i,hi,m2⟩:=hf.cov ⟨u, .inl hu,m1⟩
   have ha:=(hf.at hi m2).1
   refine⟨absQ (bkU l i),List.mem_map_of_mem (hmem.2 ⟨i,hi,rfl⟩),m2, ?_⟩
   show(atL l (midR i)).getD 0=u.Label
   rw[ha,hx]
   rfl
end
section
def icb (x:ZM):Bool:=if x.Mag=ByteArray.empty then !x.Neg else !decide (x.Mag[0]? =some 0)
theorem ZmX {l:List UInt8}(h:l[0]? ≠some 0):Top l.reverse:=by
 intro b hb
 rw[List.getLast?_reverse] at hb
 intro h0
 subst h0
 refine h ?_
 cases l with
 |nil=>cases hb
 |cons x r=>simpa using hb
theorem bget (s:ByteArray)(i:Nat):s[i]? =s.data.toList[i]? :=by
 by_cases h:i<s.size
 ·have h':i<s.data.toList.length:=h
  rw[getElem?_pos s i h,getElem?_pos s.data.toList i h']
  rfl
 ·have h':¬i<s.data.toList.length:=h
  rw[getElem?_neg s i h,getElem?_neg s.data.toList i h']
theorem Zdj {x:ZM}:icb x=true↔∃a:Int,x=I a:=by
 obtain⟨n,s⟩:=x
 unfold icb
 simp only
 constructor
 ·intro h
  have hc:Can s:=by
   split at h
   ·rename_i h0
    subst h0
    exact Zi7 0
   ·rename_i h0
    simp only[Bool.not_eq_true',decide_eq_false_iff_not] at h
    exact ZmX (by rw[<-bget];exact h)
  have hm:=Zoj hc
  refine⟨if n=true then-(vmag s:Int) else(vmag s:Int), ?_⟩
  unfold I
  cases n
  ·simp only[Bool.false_eq_true,if_false,Int.natAbs_natCast,hm]
   rw[We (by omega)]
  ·simp only[if_true,Int.natAbs_neg,Int.natAbs_natCast,hm]
   congr 1
   have hne:vmag s≠0:=fun h0=>by
    rw[h0] at hm
    split at h
    ·cases h
    ·rename_i h1
     exact h1 (hm.symm.trans Zdw)
   simp
   omega
 ·rintro⟨a,h⟩
  unfold I at h
  injection h with h1 h2
  subst h1
  subst h2
  split
  ·rename_i h0
   have:=Zae.1 h0
   simp
   omega
  ·rename_i h0
   simp only[Bool.not_eq_true',decide_eq_false_iff_not]
   intro h1
   have hc:=Zi7 a.natAbs
   rw[bget] at h1
   cases hl:(mag a.natAbs).data.toList with
   |nil=>rw[hl] at h1;cases h1
   |cons y r=>
    rw[hl] at h1
    simp only[List.getElem?_cons_zero,Option.some.injEq] at h1
    unfold Can Top at hc
    rw[hl] at hc
    exact hc y (by simp) h1
theorem Zo8 (a:Int):icb (I a)=true:=Zdj.2 ⟨a,rfl⟩
instance Zt7 (x:ZM):SpecC prog 218 [.agg (Zs x)] (.int .i64 (if icb x=true then 0 else 5)) True:=⟨fun _ w=>by
 refine Zb Tryz.func218 rfl Tryz.ntmps218 rfl ?_
 repeat(refine wkB ?_;intros)
 by_cases h:x.Mag=ByteArray.empty
 ·have e:icb x= !x.Neg:=by unfold icb;rw[if_pos h]
  have hd:=Wc (show x.Mag=⟨#[]⟩ from h)
  rw[e]
  simp only[hd]
  repeat(refine wkB ?_;intros)
  rcases hN:x.Neg with _|_
  ·repeat(refine wkB ?_;intros)
   simp only[hd,Bool.not_true]
   repeat(refine wkB ?_;intros)
   exact rtT rfl rfl
  ·repeat(refine wkB ?_;intros)
   exact rtT rfl rfl
 ·have e:icb x= !decide (x.Mag[0]? =some 0):=by unfold icb;rw[if_neg h]
  have hd:=We (show¬x.Mag=⟨#[]⟩ from h)
  rw[e]
  simp only[hd]
  repeat(refine wkB ?_;intros)
  simp only[hd,Bool.not_false]
  repeat(refine wkB ?_;intros)
  obtain⟨u,hu⟩:∃u,x.Mag[0]? =some u:=by
   rw[bget]
   cases hl:x.Mag.data.toList with
   |nil=>
    refine absurd ?_ h
    have h2:x.Mag.data=#[]:=by rw[<-Array.toArray_toList (xs:=x.Mag.data),hl]
    cases hx:x.Mag with
    |mk d=>
     rw[hx] at h2
     simp only at h2
     subst h2
     rfl
   |cons y r=>exact⟨y,rfl⟩
  refine jq (ZbX rfl rfl (by omega) (show x.Mag[(0:Int).toNat]? =some u from hu)) rfl rfl ?_
  repeat(refine wkB ?_;intros)
  have hd:decide (((u.toNat:Nat):Int)=0)=decide (x.Mag[0]? =some 0):=by
   rw[hu,decide_eq_decide]
   simp only[Option.some.injEq]
   constructor
   ·intro h0
    exact UInt8.toNat_inj.1 (by simpa using h0)
   ·intro h0
    subst h0
    rfl
  rw[hd]
  rcases hq:decide (x.Mag[0]? =some 0) with _|_
  ·repeat(refine wkB ?_;intros)
   exact rtT rfl rfl
  ·repeat(refine wkB ?_;intros)
   exact rtT rfl rfl⟩
def rcb (x:ZR):Bool:=icb x.Num&&(icb x.Den&&(decide (x.Den=I 0)||(!decide (Lib.compareInt (ival x.Den) 1<=0)&&decide ((Int.gcd (ival x.Num) (ival x.Den):Int)=1))))
where ival (x:ZM):Int:=if x.Neg=true then-(vmag x.Mag:Int) else vmag x.Mag
theorem Zdc (a:Int):rcb.ival (I a)=a:=by
 unfold rcb.ival I
 simp only[Zb9,decide_eq_true_eq]
 split <;> omega
theorem Zp3 {x:ZR}:rcb x=true↔∃q:Rat,x=Q q:=by
 obtain⟨n,d⟩:=x
 unfold rcb
 simp only[Wq,Bool.or_eq_true,Bool.not_eq_true',decide_eq_true_eq,decide_eq_false_iff_not]
 constructor
 ·rintro⟨h1,h2,h3⟩
  obtain⟨a,rfl⟩:=Zdj.1 h1
  obtain⟨b,rfl⟩:=Zdj.1 h2
  rw[Zdc,Zdc,Zcf] at h3
  rcases h3 with rfl|⟨h3,h4⟩
  ·exact⟨(a:Rat),(ZoY a)⟩
  ·have hb:1<b:=by
    unfold Lib.compareInt at h3
    split at h3
    ·omega
    ·split at h3 <;> omega
   have hc:Nat.Coprime a.natAbs b.natAbs:=by
    have:Int.gcd a b=1:=by omega
    exact this
   refine⟨⟨a,b.natAbs,by omega,hc⟩, ?_⟩
   unfold Q dn
   simp only
   rw[if_neg (by omega)]
   congr 2
   omega
 ·rintro⟨q,h⟩
  unfold Q at h
  injection h with h1 h2
  subst h1
  subst h2
  refine⟨Zo8 _,Zo8 _, ?_⟩
  rw[Zdc,Zdc,Zcf]
  have hp:=q.den_pos
  by_cases hd:q.den=1
  ·exact .inl (ZfS.2 hd)
  ·have e:dn q=q.den:=by unfold dn;rw[if_neg hd]
   refine .inr ⟨?_, ?_⟩
   ·rw[e]
    unfold Lib.compareInt
    rw[if_neg (by omega),if_pos (by omega)]
    omega
   ·rw[e]
    have hc:=q.reduced
    have h0:Int.gcd q.num (q.den:Int)=1:=hc
    omega
theorem ZsR (q:Rat):rcb (Q q)=true:=Zp3.2 ⟨q,rfl⟩
theorem ZrN {n d:ZM}:rcb ⟨n,d⟩=(icb n&&(icb d&&(decide (d=I 0)||(!decide (Lib.compareInt (rcb.ival d) 1<=0)&&decide ((Int.gcd (rcb.ival n) (rcb.ival d):Int)=1))))):=rfl
instance ZkU (x:ZR):SpecC prog 196 [.agg (Zk x)] (.int .i64 (if rcb x=true then 0 else 5)) (x.Num.Mag.size<=LIM/\x.Den.Mag.size<=LIM):=⟨fun hp w=>by
 obtain⟨p1,p2⟩:=hp
 refine Zb Tryz.func196 rfl Tryz.ntmps196 rfl ?_
 repeat(refine wkB ?_;intros)
 rcases hn:icb x.Num with _|_
 ·rw[show rcb x=false by unfold rcb;rw[hn];rfl]
  repeat(refine wkB ?_;intros)
  exact rtT rfl rfl
 repeat(refine wkB ?_;intros)
 rcases hd:icb x.Den with _|_
 ·rw[show rcb x=false by unfold rcb;rw[hn,hd];rfl]
  repeat(refine wkB ?_;intros)
  exact rtT rfl rfl
 obtain⟨a,ha⟩:=Zdj.1 hn
 obtain⟨b,hb⟩:=Zdj.1 hd
 obtain⟨n,d⟩:=x
 simp only at ha hb p1 p2 hn hd⊢
 subst ha
 subst hb
 rw[ZrN,hn,hd,Zdc,Zdc,Bool.true_and,Bool.true_and]
 have hz:decide (I b=I 0)=decide (b=0):=by rw[decide_eq_decide];exact Zcf
 rw[hz]
 repeat(refine wkB ?_;intros)
 by_cases hb:b=0
 ·simp only[Wc hb]
  repeat(refine wkB ?_;intros)
  exact rtT rfl rfl
 ·simp only[We hb]
  repeat(refine wkB ?_;intros)
  refine jD 14 14 (h:=?_)
  (repeat(refine wkH ?_))
  rcases hc:decide (Lib.compareInt b 1<=0) with _|_
  ·(repeat(first|refine wkH ?_|(refine tC rfl rfl ?_ ?_;focus(first|exact trivial|exact⟨p1,p2⟩))))
   refine Zo ?_
   refine Zq ?_
   repeat(refine wkB ?_;intros)
   rcases hg:decide (((Int.gcd a b:Nat):Int)=1) with _|_
   ·repeat(refine wkB ?_;intros)
    exact rtT rfl rfl
   ·repeat(refine wkB ?_;intros)
    exact rtT rfl rfl
  ·(repeat(refine wkH ?_))
   refine Zo ?_
   refine Zq ?_
   repeat(refine wkB ?_;intros)
   exact rtT rfl rfl⟩
instance (priority :=high) Zuw (q:Rat):SpecC prog 196 [vQ q] (.int .i64 0) (M q<=LQ):=⟨fun hp w=>by
 have h:=(ZkU (Q q)).out ⟨?_, ?_⟩ w
 ·rw[ZsR] at h
  exact h
 ·have:=Wi (Zbk q) hp
  exact Wi this (by decide)
 ·show(mag (dn q).natAbs).size<=LIM
  have h1:=Wi (Za6 q) hp
  unfold dn
  split
  ·decide
  ·exact Wi h1 (by decide)⟩
end
section
theorem Zmv :(0:Rat).num.sign=0:=by decide
instance ZqD (x:Zh):SpecC prog 150 [vR x] (.int .i64 0) (RlB KR x/\x.R=0):=⟨fun hp w=>by
 obtain⟨p,r,n⟩:=x
 obtain⟨h1,h2⟩:=hp
 simp only at h2
 subst h2
 obtain rfl:n=false:=h1.o.z rfl
 have h3:M p<=LQ:=Wi h1.p (by decide)
 have h0:M 0<=LQ:=by decide
 refine Zb Tryz.func150 rfl Tryz.ntmps150 rfl ?_
 repeat(refine wkB ?_;intros)
 simp only[Zmv]
 repeat(refine wkB ?_;intros)
 exact rtT rfl rfl⟩
instance Zt3 (i:Za):SpecC prog 107 [vIv i] (.int .i64 0) ((IvOk KR i/\i.From.R=0/\i.To.R=0)/\okI i):=⟨fun hp w=>by
 obtain⟨⟨h1,hr1,hr2⟩,h2⟩:=hp
 have hlt:=ZcD.1 h2
 have hn:¬0<=cmpB (bdF i) (bdL i):=fun h=>(ZlF.1 hlt) (ZfZ (by omega))
 refine Zb Tryz.func107 rfl Tryz.ntmps107 rfl ?_
 repeat(first|(refine wkB ?_;intros)|(refine wnM ?_ ?_;(focus(first|exact⟨h1.a,hr1⟩|exact⟨h1.b,hr2⟩));intros))
 (refine jD 6 6 (h:=?_);(repeat(first|refine wkH ?_|(refine tC rfl rfl ?_ ?_;focus(first|exact trivial|exact⟨⟨h1.a⟩,⟨h1.b⟩⟩))));refine Zo ?_;(repeat(refine ZZ ?_;intro _));refine Zq ?_)
 simp only[We hn]
 repeat(refine wkB ?_;intros)
 exact rtT rfl rfl⟩
instance Zvc (f:Int)(z:Array Value):SpecC prog 298 [.agg z, .int .i64 f] (.int .i64 0) True:=⟨fun _ w=>by
 refine Zb Tryz.func298 rfl Tryz.ntmps298 rfl ?_
 repeat(refine wkB ?_;intros)
 exact rtT rfl rfl⟩
instance Zt9 :MethC prog 109 (.agg #[]) "Check" 298 (.agg #[]):=⟨fun w=>by kernel_rfl⟩
instance ZwI :LdC prog 107 #[vLabels] 0 vLabels:=⟨ZD (by kernel_rfl) rfl⟩
instance ZzA {E:Env}{T:TypeId}{x:Operand}{d:TypeId}{v:Value}[h:IsC (evl E x) (.iface d v)]:AlC prog E (.box T x) #[.iface d v] T:=⟨fun hg hd h=>ZlK isE hg hd h⟩
theorem Zn6 (x y:UL)(b:Nat)(w:World)(hb:∃T fz,w.heap[b]? =some (.cells #[vLabels] T fz)):Calls prog 155 [vUL x,vUL y, .pointer (some ⟨b,0,none⟩)].toArray w (Ret (.bool (decide (x=y))) w):=by
 obtain⟨T,hb⟩:=hb
 have:=FoC.mk hb
 refine Zb Tryz.func155 rfl Tryz.ntmps155 rfl ?_
 repeat(refine wkB ?_;intros)
 by_cases h:x.In=y.In
 ·simp only[Wc h]
  repeat(refine wkB ?_;intros)
  have e:decide (x.F=y.F)=decide (x=y):=by
   rw[decide_eq_decide]
   obtain⟨I,F⟩:=x
   obtain⟨I',F'⟩:=y
   simp only at h
   subst h
   simp
  rw[e]
  exact rtT rfl rfl
 ·simp only[We h]
  repeat(refine wkB ?_;intros)
  rw[We (show¬x=y from fun e=>h (by rw[e]))]
  exact rtT rfl rfl
instance Zz9 (w0:World)(L:List Blk)(x y:UL)(b:Nat)(T:TypeId)[h:AtC w0 L b #[vLabels] T]:SpecM prog w0 L 155 [vUL x,vUL y, .pointer (some ⟨b,0,none⟩)] (.bool (decide (x=y))) True:=⟨fun _ w hw=>Zn6 x y b w ⟨T,h.out w hw⟩⟩
theorem Zob (v1 v2:Value)(us:List UL)(b:Nat)(w:World)(h1:ArgS w v1 rU us)(h2:ArgS w v2 rU us)(hb:∃T fz,w.heap[b]? =some (.cells #[vLabels] T fz))(hl:us.length<=1048576):
  Calls prog 154 [v1,v2, .func (.func 155) #[] [.pointer (some ⟨b,0,none⟩)].toArray].toArray w (Ret (.bool true) w):=by
 obtain⟨T,hb⟩:=hb
 have:=FoC.mk hb
 refine Zb Tryz.func154 rfl Tryz.ntmps154 rfl ?_
 obtain⟨p1,c1,rfl⟩:=h1.form
 obtain⟨p2,c2,rfl⟩:=h2.form
 repeat(refine wkB ?_;intros)
 simp only[Wc (rfl:(us.length:Int)=(us.length:Int)),Bool.not_true]
 repeat(refine wkB ?_;intros)
 refine Zp (S:=Nat) (fun m=>m<=us.length) (fun m=>[(1, .slice p2 us.length c2),(2, .func (.func 155) #[] [.pointer (some ⟨b,0,none⟩)].toArray),(15, .slice p1 us.length c1),(16, .int .i64 us.length),(17, .int .i64 (m:Nat))]) (fun _=>[]) (fun m=>us.length-m) 0 (Wm _) sbB slB (fun m hm=>?_)
 repeat(refine wkB ?_;intros)
 refine Zi rfl (fun h=>?_) (fun h=>?_)
 ·have hlt:m<us.length:=by have:=Wa h;omega
  have hne:us≠[]:=fun h0=>by rw[h0] at hlt;simp at hlt
  obtain⟨b1,o1,c1',hv1,hc1,hr1⟩:=h1.blk (k:=20) hne []
  injection hv1 with e1 e2 e3
  subst e1
  subst e3
  obtain⟨b2,o2,c2',hv2,hc2,hr2⟩:=h2.blk (k:=20) hne []
  injection hv2 with e1 e2 e3
  subst e1
  subst e3
  have hr1':∀L,RowC w L b1 o1 UL rU us:=fun L=>⟨fun w' hw'=>hr1.out w' (hw'.sub (Wk _))⟩
  have hr2':∀L,RowC w L b2 o2 UL rU us:=fun L=>⟨fun w' hw'=>hr2.out w' (hw'.sub (Wk _))⟩
  repeat(refine wkB ?_;intros)
  simp only[Wc (rfl:gi us (m:Int)=gi us (m:Int)),Bool.not_true]
  repeat(refine wkB ?_;intros)
  exact Zf (m+1) hlt sbB slB (by omega)
 ·repeat(refine wkB ?_;intros)
  exact rtT rfl rfl
instance ZzY (w0:World)(L:List Blk)(v1 v2:Value)(us:List UL)(b:Nat)(T:TypeId)[h1:LstC w0 L v1 UL rU us][h2:LstC w0 L v2 UL rU us][h:AtC w0 L b #[vLabels] T]:SpecM prog w0 L 154 [v1,v2, .func (.func 155) #[] [.pointer (some ⟨b,0,none⟩)].toArray] (.bool true) (us.length<=1048576):=⟨fun hp w hw=>Zob v1 v2 us b w (h1.out w hw) (h2.out w hw) ⟨T,h.out w hw⟩ hp⟩
theorem ZnE (v1 v2:Value)(us:List UL)(w:World)(h1:ArgS w v1 rU us)(h2:ArgS w v2 rU us)(hl:us.length<=1048576):
  Calls prog 109 [vLabels,v1,v2].toArray w (Ret (.bool true) w):=by
 have:=ArgC.mk h1
 have:=ArgC.mk h2
 refine Zb Tryz.func109 rfl Tryz.ntmps109 rfl ?_
 repeat(first|(refine wkB ?_;intros)|(refine wnM ?_ ?_;(focus(exact hl));intros))
 exact rtT rfl rfl
instance Zz4 (w0:World)(L:List Blk)(v1 v2:Value)(us:List UL)[h1:LstC w0 L v1 UL rU us][h2:LstC w0 L v2 UL rU us]:SpecM prog w0 L 109 [vLabels,v1,v2] (.bool true) (us.length<=1048576):=⟨fun hp w hw=>ZnE v1 v2 us w (h1.out w hw) (h2.out w hw) hp⟩
theorem Zuk {R:List UL}(h:NF (R.map absU)){i j:Nat}(hij:i<j)(hj:j<R.length):(absU (gi R (i:Int))).bfr (absU (gi R (j:Int))):=by
 have h1:=List.pairwise_iff_getElem.1 h.pw i j (by rw[Ws];omega) (by rw[Ws];omega) hij
 rw[List.getElem_map,List.getElem_map,<-Zr (by omega),<-Zr hj] at h1
 exact h1.bf
theorem Znu {us:List UL}(h:NF (us.map absU))(hk:∀u∈us,UIn u):nrmR us=us/\nrmE us=0/\∀i,i+1<us.length->aprt (gi us (i:Int)).In (gi us ((i+1:Nat):Int)).In=true:=by
 have hd:(us.map absU).Pairwise Dis:=h.pw.imp fun h=>h.bf.Dis
 have hv:UVal us:=⟨hk,fun u hu=>h.ok _ (List.mem_map.2 ⟨u,hu,rfl⟩)⟩
 obtain⟨h1,h2⟩:=Zfp hv hd
 refine⟨ZeM (fun u hu=>(ZfN hk u hu).i) (fun u hu=>(hk u hu).i) (NF.uniq h1 h h2),(Zff hv).2 hd,fun i hi=>?_⟩
 exact ZeI.2 (Zuk h (i:=i) (j:=i+1) (by omega) hi)
theorem ZiH (v:Value)(us:List UL)(w:World)(hv:ArgS w v rU us)(hnil:us=[]->v= .slice none 0 0)(h:NF (us.map absU))(hk:∀u∈us,UIn u)(hr:∀u∈us,u.In.From.R=0/\u.In.To.R=0)(hl:us.length<=19):
  Calls prog 62 [vLabels,v].toArray w (Ret (.int .i64 0) w):=by
 obtain⟨n1,n2,n3⟩:=Znu h hk
 have:=ArgC.mk hv
 obtain⟨p,cp,rfl⟩:=hv.form
 have:∀L,LstN w L (.slice p us.length cp) UL rU us:=fun L=>⟨fun w' hw'=>hv.to hw'.ext,hnil⟩
 refine Zb Tryz.func62 rfl Tryz.ntmps62 rfl ?_
 repeat(refine wkB ?_;intros)
 simp only[We (show¬(256:Int)<us.length by omega)]
 repeat(refine wkB ?_;intros)
 refine Zp (S:=Nat) (fun m=>m<=us.length) (fun m=>[(0,vLabels),(1, .slice p us.length cp),(14, .slice p us.length cp),(15, .int .i64 us.length),(16, .int .i64 (m:Nat))]) (fun _=>[]) (fun m=>us.length-m) 0 (Wm _) sbB slB (fun m hm=>?_)
 repeat(refine wkB ?_;intros)
 refine Zi rfl (fun hc=>?_) (fun hc=>?_)
 ·have hlt:m<us.length:=by have:=Wa hc;omega
  have hne:us≠[]:=fun h0=>by rw[h0] at hlt;simp at hlt
  obtain⟨b1,o1,c1',hv1,hc1,hr1⟩:=hv.blk (k:=20) hne []
  injection hv1 with e1 e2 e3
  subst e1
  subst e3
  have hr1':∀L,RowC w L b1 o1 UL rU us:=fun L=>⟨fun w' hw'=>hr1.out w' (hw'.sub (Wk _))⟩
  have hu:=hk _ (Zt (i:=(m:Int)) (xs:=us) (by omega))
  have ho:=h.ok _ (List.mem_map.2 ⟨_,Zt (i:=(m:Int)) (xs:=us) (by omega),rfl⟩)
  have p1:(IvOk KR (gi us (m:Int)).In/\(gi us (m:Int)).In.From.R=0/\(gi us (m:Int)).In.To.R=0)/\okI (gi us (m:Int)).In:=⟨⟨hu.i,hr _ (Zt (i:=(m:Int)) (xs:=us) (by omega))⟩,ho⟩
  repeat(first|(refine wkB ?_;intros)|(refine wnM ?_ ?_;(focus(first|exact p1|exact trivial));intros))
  rename_i b6
  rcases Nat.eq_zero_or_pos m with h0|h0
  ·subst h0
   refine jD 14 14 (h:=?_)
   (repeat(refine wkH ?_))
   simp only[We (show¬(0:Int)<((0:Nat):Int) by decide)]
   (repeat(refine wkH ?_))
   refine Zo ?_
   refine Zq ?_
   repeat(refine wkB ?_;intros)
   exact Zf 1 hlt sbB slB (by omega)
  ·have hu0:=hk _ (Zt (i:=(m:Int)-1) (xs:=us) (by omega))
   have ha:aprt (gi us ((m:Int)-1)).In (gi us (m:Int)).In=true:=by
    have:=n3 (m-1) (by omega)
    rw[show((m-1:Nat):Int)=(m:Int)-1 by omega,show((m-1+1:Nat):Int)=(m:Int) by omega] at this
    exact this
   refine jD 14 14 (h:=?_)
   (repeat(refine wkH ?_))
   simp only[Wc (show(0:Int)<(m:Int) by omega)]
   (repeat(first|refine wkH ?_|(refine tC rfl rfl ?_ ?_;focus(exact⟨hu0.i.b,hu.i.a⟩))))
   simp only[ha,Bool.not_true]
   (repeat(refine wkH ?_))
   refine Zo ?_
   refine Zq ?_
   repeat(refine wkB ?_;intros)
   exact Zf (m+1) hlt sbB slB (by omega)
 ·repeat(first|(refine wkB ?_;intros)|(refine wnM ?_ ?_;(focus(first|exact⟨.inl hl,hk⟩));intros))
  rename_i s
  obtain⟨s',e1,e2⟩:=SlS.turn 145 n1 s
  simp only[<-e1,<-e2,n2,Wc (rfl:(0:Int)=0),Bool.not_true]
  repeat(first|(refine wkB ?_;intros)|(refine wnM ?_ ?_;(focus(exact(show us.length<=1048576 by omega)));intros))
  exact rtT rfl rfl
instance Zvk (w0:World)(L:List Blk)(v:Value)(us:List UL)[h:LstN w0 L v UL rU us]:SpecM prog w0 L 62 [vLabels,v] (.int .i64 0) (NF (us.map absU)/\(∀u∈us,UIn u)/\(∀u∈us,u.In.From.R=0/\u.In.To.R=0)/\us.length<=19):=⟨fun hp w hw=>ZiH v us w (h.out w hw) h.nil hp.1 hp.2.1 hp.2.2.1 hp.2.2.2⟩
theorem ZpU {α β:Type}[Inhabited α](f:α->β)(xs:List α):mpN f xs xs.length=xs.map f:=by
 apply List.ext_getElem
 ·rw[Zag,Ws]
 ·intro i h1 h2
  rw[List.getElem_map]
  have key:∀m,m<=xs.length->mpN f xs m=(xs.take m).map f:=fun m=>by
   induction m with
   |zero=>intro _;rfl
   |succ m ih=>intro hm;rw[mpN,ih (by omega),Wn (by omega),List.map_append,Zr (by omega)];rfl
  have:=key xs.length (Wl _)
  rw[List.take_length] at this
  simp[this]
noncomputable def absP (u:PU):GU Ri Int:=⟨ri u.In.From,ri u.In.To,u.In.OpenFrom,u.In.OpenTo,u.Label⟩
theorem Zou (us:List PU):(us.map toU).map absU=us.map absP:=by rw[List.map_map];rfl
structure PFine (us:List PU):Prop where
 nf:NF (us.map absP)
 k:∀u∈us,UIn (toU u)
 r:∀u∈us,u.In.From.R=0/\u.In.To.R=0
 l:us.length<=19
theorem ZiQ (v:Value)(us:List PU)(w:World)(hv:ArgS w v rP us)(h:PFine us):Calls prog 15 [v].toArray w (Ret (.int .i64 0) w):=by
 have hl:=h.l
 have hml:=ZpU toU us
 have p1:NF ((mpN toU us us.length).map absU)/\(∀u∈mpN toU us us.length,UIn u)/\(∀u∈mpN toU us us.length,u.In.From.R=0/\u.In.To.R=0)/\(mpN toU us us.length).length<=19:=by
  rw[hml,Zou,Ws]
  refine⟨h.nf,fun u hu=>?_,fun u hu=>?_,hl⟩
  ·obtain⟨x,hx,rfl⟩:=List.mem_map.1 hu
   exact h.k x hx
  ·obtain⟨x,hx,rfl⟩:=List.mem_map.1 hu
   exact h.r x hx
 have:=ArgC.mk hv
 refine Zb Tryz.func15 rfl Tryz.ntmps15 rfl ?_
 have hl1:us.length<=1048576:=by omega
 repeat(refine wkB ?_;intros)
 (refine ZE (.v [0,1,2] (.e1 3 (.e1 4 (.e1 5 (.fin))))) (([]:List Blk)) (h:=?_);refine wkX ?_)
 (repeat(refine wkH ?_))
 repeat(first|(refine wkT ?_;intros)|(refine tC rfl rfl ?_ ?_;focus(first|exact hl1|exact p1))|(refine uC rfl rfl ?_ ?_;focus(first|exact hl1|exact p1))|(refine eN rfl rfl ?_ ?_;(focus(first|exact hl1|exact p1));intro _;(try simp only[Wf,Wg,Wh])))
 repeat(refine wkB ?_;intros)
 exact rtT rfl rfl
instance Zvh (w0:World)(L:List Blk)(v:Value)(us:List PU)[h:LstC w0 L v PU rP us]:SpecM prog w0 L 15 [v] (.int .i64 0) (PFine us):=⟨fun hp w hw=>ZiQ v us w (h.out w hw) hp⟩
end
section
set_option maxHeartbeats 8000000 in
theorem ZiN (v1 v2:Value)(l m:List PU)(w:World)(h1:ArgS w v1 rP l)(h2:ArgS w v2 rP m)(hl:l.length<=1048576/\m.length<=1048576):
  Calls prog 22 [v1,v2].toArray w (Ret (.bool (decide (l=m))) w):=by
 have hav1:=ArgC.mk h1
 have hav2:=ArgC.mk h2
 have A1:=h1
 have A2:=h2
 obtain⟨p,cp,rfl⟩:=h1.form
 obtain⟨q,cq',rfl⟩:=h2.form
 refine Zb Tryz.func22 rfl Tryz.ntmps22 rfl ?_
 repeat(refine wkB ?_;intros)
 by_cases hlen:l.length=m.length
 ·simp only[Wc (show((l.length:Nat):Int)=((m.length:Nat):Int) by omega),Bool.not_true]
  repeat(refine wkB ?_;intros)
  refine Zp (S:=Nat) (fun k=>k<=l.length/\∀j:Nat,j<k->gi l (j:Int)=gi m (j:Int)) (fun k=>[(0, .slice p l.length cp),(1, .slice q m.length cq'),(5, .int .i64 (k:Nat))]) (fun _=>[]) (fun k=>l.length-k) 0 ⟨Wm _,fun j hj=>by omega⟩ sbB slB (fun k hk=>?_)
  obtain⟨hk,hsame⟩:=hk
  repeat(refine wkB ?_;intros)
  refine Zi rfl (fun h=>?_) (fun h=>?_)
  ·have hlt:k<l.length:=by have:=Wa h;omega
   have hne:l≠[]:=fun h0=>by rw[h0] at hlt;simp at hlt
   have hne2:m≠[]:=fun h0=>by rw[h0] at hlen;rw[hlen] at hlt;simp at hlt
   obtain⟨bw,ow,cw,hvw,hcw,hrow⟩:=A1.blk (k:=20) hne []
   obtain⟨bw',ow',cw',hvw',hcw',hrow2⟩:=A2.blk (k:=20) hne2 []
   injection hvw with x1 x2 x3
   injection hvw' with y1 y2 y3
   subst x1 x3
   subst y1 y3
   have hr1:∀L,RowC w L bw ow PU rP l:=fun L=>⟨fun w' hw'=>hrow.out w' (hw'.sub (Wk _))⟩
   have hr2:∀L,RowC w L bw' ow' PU rP m:=fun L=>⟨fun w' hw'=>hrow2.out w' (hw'.sub (Wk _))⟩
   repeat(refine wkB ?_;intros)
   refine jD 9 9 (h:=?_)
   (repeat(refine wkH ?_))
   refine Zo ?_
   refine Zq ?_
   by_cases he:gi l (k:Int)=gi m (k:Int)
   ·simp only[Wc he,Bool.not_true]
    repeat(first|(refine wkB ?_;intros)|(refine wnM ?_ ?_;(focus(exact⟨by omega,by omega⟩));intros))
    refine Zf (k+1) ⟨hlt,fun j hj=>?_⟩ sbB slB (by omega)
    rcases(by omega:j<k\/j=k) with h1|rfl
    ·exact hsame j h1
    ·exact he
   ·simp only[We he,Bool.not_false]
    repeat(refine wkB ?_;intros)
    rw[We (show¬l=m from fun h0=>he (by rw[h0]))]
    exact rtT rfl rfl
  ·have hge:k=l.length:=by have:=Wb h;omega
   subst hge
   have he:l=m:=List.ext_getElem hlen fun j h1 h2=>by
    have:=hsame j h1
    rwa [Zr h1,Zr h2] at this
   repeat(refine wkB ?_;intros)
   rw[Wc he]
   exact rtT rfl rfl
 ·simp only[We (show¬((l.length:Nat):Int)=((m.length:Nat):Int) by omega),Bool.not_false]
  repeat(refine wkB ?_;intros)
  rw[We (show¬l=m from fun h0=>hlen (by rw[h0]))]
  exact rtT rfl rfl
instance Zvr (w0:World)(L:List Blk)(v1 v2:Value)(l m:List PU)[h1:LstC w0 L v1 PU rP l][h2:LstC w0 L v2 PU rP m]:SpecM prog w0 L 22 [v1,v2] (.bool (decide (l=m))) (l.length<=1048576/\m.length<=1048576):=⟨fun hp w hw=>ZiN v1 v2 l m w (h1.out w hw) (h2.out w hw) hp⟩
end
section
def flB (a b:PU)(x y:Int):Bool:= !decide (a.In.From=a.In.To)&&(!decide (b.In.From=b.In.To)&&(decide (a.In.To=b.In.From)&&(!(a.In.OpenTo&&b.In.OpenFrom)&&(decide (a.Label=x)&&decide (b.Label=y)))))
theorem Zbi {a b:PU}{x y:Int}:flB a b x y=true↔True/\¬a.In.From=a.In.To/\¬b.In.From=b.In.To/\a.In.To=b.In.From/\¬(a.In.OpenTo=true/\b.In.OpenFrom=true)/\a.Label=x/\b.Label=y:=by
 unfold flB
 simp only[Wq,Bool.not_eq_true',decide_eq_true_eq,decide_eq_false_iff_not,true_and,<-Bool.not_eq_true]
def flL (l:List PU)(x y:Int):Nat->List Rl
 |0=>[]
 |i+1=>if flB (gi l (i:Int)) (gi l ((i+1:Nat):Int)) x y=true then flL l x y i++[(gi l ((i+1:Nat):Int)).In.From] else flL l x y i
theorem Zjr (l:List PU)(x y:Int):∀i,(flL l x y i).length<=i
 |0=>Wl _
 |i+1=>by
  have h1:=Zjr l x y i
  rw[flL]
  split
  ·rw[Wp];simp;exact h1
  ·omega
instance Zzq (u:PU):SpecC prog 78 [vPU u] (.bool (!decide (u.In.From=u.In.To))) True:=⟨fun _ w=>by
 refine Zb Tryz.func78 rfl Tryz.ntmps78 rfl ?_
 repeat(refine wkB ?_;intros)
 exact rtT rfl rfl⟩
set_option maxHeartbeats 16000000 in
theorem Zhr (v:Value)(l:List PU)(x y:Int)(w:World)(hv:ArgS w v rP l)(hl:l.length<=1048576):
  Calls prog 26 [v, .int .i64 x, .int .i64 y].toArray w (RetM (SlS Zv 9 (flL l x y (l.length-1))) (fun q=>vSl q) (fun q=>mS 35 q) w):=by
 obtain⟨p,cp,rfl⟩:=hv.form
 refine Zb Tryz.func26 rfl Tryz.ntmps26 rfl ?_
 repeat(refine wkB ?_;intros)
 refine Z2 (S:=SlS Zv 9 (flL l x y (l.length-1))) (fun _=>True) (fun q=>[(7,vSl q)]) (fun q=>mS 35 q) ?_ (fun q _=>?_)
 ·refine Zp (S:=(_:Nat)×(o:List Rl)×SlS Zv 9 o) (fun q=>q.1<=l.length-1/\q.2.1=flL l x y q.1) (fun q=>[(0, .slice p l.length cp),(1, .int .i64 x),(2, .int .i64 y),(7,vSl q.2.2),(8, .int .i64 ((q.1+1:Nat):Int))]) (fun q=>mS 35 q.2.2) (fun q=>l.length-q.1) ⟨0,[],SlS.no⟩ ⟨Wm _,rfl⟩ sbB suB (fun q hq=>?_)
  obtain⟨i,out,o⟩:=q
  obtain⟨hq,ho⟩:=hq
  dsimp only at hq ho⊢
  have hln:out.length<=i:=by rw[ho];exact Zjr l x y i
  have hend:i=l.length-1->out=flL l x y (l.length-1):=fun h=>by rw[ho,h]
  have hnxt:(if flB (gi l (i:Int)) (gi l ((i+1:Nat):Int)) x y=true then out++[(gi l ((i+1:Nat):Int)).In.From] else out)=flL l x y (i+1):=by rw[ho];rfl
  clear ho
  have e2:((i+1:Nat):Int)-1=(i:Int):=by omega
  have e3:((i+1:Nat):Int)+1=((i+1+1:Nat):Int):=by omega
  repeat(refine wkB ?_;intros)
  refine Zi rfl (fun h=>?_) (fun h=>?_)
  ·have hlt:i+1<l.length:=by have:=Wa h;omega
   obtain⟨bw,ow,rfl,hrow'⟩:=hv.opn (k:=20) hlt
   repeat(refine wkB ?_;intros)
   (refine Zca [0,1,2,3,4,5,6,7,8] [9,10] [11,12] (([]:List Blk)) (h:=?_);refine wkI ?_)
   (repeat(refine wkH ?_))
   repeat(refine wkT ?_;intros)
   repeat(refine wkB ?_;intros)
   simp only[e2]
   repeat(refine wkB ?_;intros)
   by_cases c1:(gi l (i:Int)).In.From=(gi l (i:Int)).In.To
   ·simp only[Wc c1,Bool.not_true]
    repeat(refine wkB ?_;intros)
    have hf:flB (gi l (i:Int)) (gi l ((i+1:Nat):Int)) x y=false:=Bool.eq_false_iff.2 fun g=>by
     obtain⟨g0,g1,g2,g3,g4,g5,g6⟩:=Zbi.1 g
     first|exact g0 c0|exact g1 c1|exact g2 c2|exact c3 g3|exact g4 ⟨c4,c4b⟩|exact c5 g5|exact c6 g6
    rw[hf] at hnxt
    simp only[Bool.false_eq_true,if_false] at hnxt
    repeat(first|(refine wkB ?_;intros)|(refine wnM ?_ ?_;(focus(exact⟨by omega,by omega⟩));intros))
    simp only[e3]
    exact Zf ⟨i+1,_,o⟩ ⟨by show i+1<=l.length-1;omega,hnxt⟩ sbB suB (by show l.length-(i+1)<l.length-i;omega)
   ·simp only[We c1,Bool.not_false]
    repeat(refine wkB ?_;intros)
    by_cases c2:(gi l ((i+1:Nat):Int)).In.From=(gi l ((i+1:Nat):Int)).In.To
    ·simp only[Wc c2,Bool.not_true]
     repeat(refine wkB ?_;intros)
     have hf:flB (gi l (i:Int)) (gi l ((i+1:Nat):Int)) x y=false:=Bool.eq_false_iff.2 fun g=>by
      obtain⟨g0,g1,g2,g3,g4,g5,g6⟩:=Zbi.1 g
      first|exact g0 c0|exact g1 c1|exact g2 c2|exact c3 g3|exact g4 ⟨c4,c4b⟩|exact c5 g5|exact c6 g6
     rw[hf] at hnxt
     simp only[Bool.false_eq_true,if_false] at hnxt
     repeat(first|(refine wkB ?_;intros)|(refine wnM ?_ ?_;(focus(exact⟨by omega,by omega⟩));intros))
     simp only[e3]
     exact Zf ⟨i+1,_,o⟩ ⟨by show i+1<=l.length-1;omega,hnxt⟩ sbB suB (by show l.length-(i+1)<l.length-i;omega)
    ·simp only[We c2,Bool.not_false]
     repeat(refine wkB ?_;intros)
     by_cases c3:(gi l (i:Int)).In.To=(gi l ((i+1:Nat):Int)).In.From
     ·simp only[Wc c3]
      repeat(refine wkB ?_;intros)
      cases c4:(gi l (i:Int)).In.OpenTo with
      |false=>
       repeat(refine wkB ?_;intros)
       by_cases c5:(gi l (i:Int)).Label=x
       ·simp only[Wc c5]
        repeat(refine wkB ?_;intros)
        by_cases c6:(gi l ((i+1:Nat):Int)).Label=y
        ·simp only[Wc c6]
         repeat(refine wkB ?_;intros)
         have hf:flB (gi l (i:Int)) (gi l ((i+1:Nat):Int)) x y=true:=Zbi.2 ⟨trivial,c1,c2,c3,(fun g=>by first|exact Bool.noConfusion (g.1.symm.trans c4)|exact Bool.noConfusion (g.2.symm.trans c4b)),c5,c6⟩
         rw[hf] at hnxt
         simp only[if_true] at hnxt
         repeat(refine wkB ?_;intros)
         refine sU (k:=9) (enc:=Zv) (s:=o) rfl rfl ?_ ?_ ?_ ?_
         ·rfl
         ·rfl
         ·exact⟨by decide,by omega,by omega⟩
         intro s'
         repeat(first|(refine wkB ?_;intros)|(refine wnM ?_ ?_;(focus(exact⟨by omega,by omega⟩));intros))
         simp only[e3]
         exact Zf ⟨i+1,_,s'⟩ ⟨by show i+1<=l.length-1;omega,hnxt⟩ sbB suB (by show l.length-(i+1)<l.length-i;omega)
        ·simp only[We c6]
         repeat(refine wkB ?_;intros)
         have hf:flB (gi l (i:Int)) (gi l ((i+1:Nat):Int)) x y=false:=Bool.eq_false_iff.2 fun g=>by
          obtain⟨g0,g1,g2,g3,g4,g5,g6⟩:=Zbi.1 g
          first|exact g0 c0|exact g1 c1|exact g2 c2|exact c3 g3|exact g4 ⟨c4,c4b⟩|exact c5 g5|exact c6 g6
         rw[hf] at hnxt
         simp only[Bool.false_eq_true,if_false] at hnxt
         repeat(first|(refine wkB ?_;intros)|(refine wnM ?_ ?_;(focus(exact⟨by omega,by omega⟩));intros))
         simp only[e3]
         exact Zf ⟨i+1,_,o⟩ ⟨by show i+1<=l.length-1;omega,hnxt⟩ sbB suB (by show l.length-(i+1)<l.length-i;omega)
       ·simp only[We c5]
        repeat(refine wkB ?_;intros)
        have hf:flB (gi l (i:Int)) (gi l ((i+1:Nat):Int)) x y=false:=Bool.eq_false_iff.2 fun g=>by
         obtain⟨g0,g1,g2,g3,g4,g5,g6⟩:=Zbi.1 g
         first|exact g0 c0|exact g1 c1|exact g2 c2|exact c3 g3|exact g4 ⟨c4,c4b⟩|exact c5 g5|exact c6 g6
        rw[hf] at hnxt
        simp only[Bool.false_eq_true,if_false] at hnxt
        repeat(first|(refine wkB ?_;intros)|(refine wnM ?_ ?_;(focus(exact⟨by omega,by omega⟩));intros))
        simp only[e3]
        exact Zf ⟨i+1,_,o⟩ ⟨by show i+1<=l.length-1;omega,hnxt⟩ sbB suB (by show l.length-(i+1)<l.length-i;omega)
      |true=>
       repeat(refine wkB ?_;intros)
       cases c4b:(gi l ((i+1:Nat):Int)).In.OpenFrom with
       |false=>
        repeat(refine wkB ?_;intros)
        by_cases c5:(gi l (i:Int)).Label=x
        ·simp only[Wc c5]
         repeat(refine wkB ?_;intros)
         by_cases c6:(gi l ((i+1:Nat):Int)).Label=y
         ·simp only[Wc c6]
          repeat(refine wkB ?_;intros)
          have hf:flB (gi l (i:Int)) (gi l ((i+1:Nat):Int)) x y=true:=Zbi.2 ⟨trivial,c1,c2,c3,(fun g=>by first|exact Bool.noConfusion (g.1.symm.trans c4)|exact Bool.noConfusion (g.2.symm.trans c4b)),c5,c6⟩
          rw[hf] at hnxt
          simp only[if_true] at hnxt
          repeat(refine wkB ?_;intros)
          refine sU (k:=9) (enc:=Zv) (s:=o) rfl rfl ?_ ?_ ?_ ?_
          ·rfl
          ·rfl
          ·exact⟨by decide,by omega,by omega⟩
          intro s'
          repeat(first|(refine wkB ?_;intros)|(refine wnM ?_ ?_;(focus(exact⟨by omega,by omega⟩));intros))
          simp only[e3]
          exact Zf ⟨i+1,_,s'⟩ ⟨by show i+1<=l.length-1;omega,hnxt⟩ sbB suB (by show l.length-(i+1)<l.length-i;omega)
         ·simp only[We c6]
          repeat(refine wkB ?_;intros)
          have hf:flB (gi l (i:Int)) (gi l ((i+1:Nat):Int)) x y=false:=Bool.eq_false_iff.2 fun g=>by
           obtain⟨g0,g1,g2,g3,g4,g5,g6⟩:=Zbi.1 g
           first|exact g0 c0|exact g1 c1|exact g2 c2|exact c3 g3|exact g4 ⟨c4,c4b⟩|exact c5 g5|exact c6 g6
          rw[hf] at hnxt
          simp only[Bool.false_eq_true,if_false] at hnxt
          repeat(first|(refine wkB ?_;intros)|(refine wnM ?_ ?_;(focus(exact⟨by omega,by omega⟩));intros))
          simp only[e3]
          exact Zf ⟨i+1,_,o⟩ ⟨by show i+1<=l.length-1;omega,hnxt⟩ sbB suB (by show l.length-(i+1)<l.length-i;omega)
        ·simp only[We c5]
         repeat(refine wkB ?_;intros)
         have hf:flB (gi l (i:Int)) (gi l ((i+1:Nat):Int)) x y=false:=Bool.eq_false_iff.2 fun g=>by
          obtain⟨g0,g1,g2,g3,g4,g5,g6⟩:=Zbi.1 g
          first|exact g0 c0|exact g1 c1|exact g2 c2|exact c3 g3|exact g4 ⟨c4,c4b⟩|exact c5 g5|exact c6 g6
         rw[hf] at hnxt
         simp only[Bool.false_eq_true,if_false] at hnxt
         repeat(first|(refine wkB ?_;intros)|(refine wnM ?_ ?_;(focus(exact⟨by omega,by omega⟩));intros))
         simp only[e3]
         exact Zf ⟨i+1,_,o⟩ ⟨by show i+1<=l.length-1;omega,hnxt⟩ sbB suB (by show l.length-(i+1)<l.length-i;omega)
       |true=>
        repeat(refine wkB ?_;intros)
        have hf:flB (gi l (i:Int)) (gi l ((i+1:Nat):Int)) x y=false:=Bool.eq_false_iff.2 fun g=>by
         obtain⟨g0,g1,g2,g3,g4,g5,g6⟩:=Zbi.1 g
         first|exact g0 c0|exact g1 c1|exact g2 c2|exact c3 g3|exact g4 ⟨c4,c4b⟩|exact c5 g5|exact c6 g6
        rw[hf] at hnxt
        simp only[Bool.false_eq_true,if_false] at hnxt
        repeat(first|(refine wkB ?_;intros)|(refine wnM ?_ ?_;(focus(exact⟨by omega,by omega⟩));intros))
        simp only[e3]
        exact Zf ⟨i+1,_,o⟩ ⟨by show i+1<=l.length-1;omega,hnxt⟩ sbB suB (by show l.length-(i+1)<l.length-i;omega)
     ·simp only[We c3]
      repeat(refine wkB ?_;intros)
      have hf:flB (gi l (i:Int)) (gi l ((i+1:Nat):Int)) x y=false:=Bool.eq_false_iff.2 fun g=>by
       obtain⟨g0,g1,g2,g3,g4,g5,g6⟩:=Zbi.1 g
       first|exact g0 c0|exact g1 c1|exact g2 c2|exact c3 g3|exact g4 ⟨c4,c4b⟩|exact c5 g5|exact c6 g6
      rw[hf] at hnxt
      simp only[Bool.false_eq_true,if_false] at hnxt
      repeat(first|(refine wkB ?_;intros)|(refine wnM ?_ ?_;(focus(exact⟨by omega,by omega⟩));intros))
      simp only[e3]
      exact Zf ⟨i+1,_,o⟩ ⟨by show i+1<=l.length-1;omega,hnxt⟩ sbB suB (by show l.length-(i+1)<l.length-i;omega)
  ·have hge:i=l.length-1:=by have:=Wb h;omega
   obtain⟨s',f1,f2⟩:=SlS.turn 35 (hend hge) o
   repeat(refine wkB ?_;intros)
   exact Zg s' trivial (by rw[f1];exact sbB) (by rw[f2];exact suB)
 ·repeat(refine wkB ?_;intros)
  exact ZA rfl rfl (fun w hw=>⟨q,rfl,hw.sub suB⟩)
instance ZsQ (w0:World)(L:List Blk)(v:Value)(l:List PU)(x y:Int)[h:LstC w0 L v PU rP l]:SpecR prog w0 L 26 [v, .int .i64 x, .int .i64 y] (SlS Zv 9 (flL l x y (l.length-1))) (fun q=>vSl q) (fun q=>mS 35 q) (l.length<=1048576):=⟨fun hp w hw=>Zhr v l x y w (h.out w hw) hp⟩
end
end Go.Vt
