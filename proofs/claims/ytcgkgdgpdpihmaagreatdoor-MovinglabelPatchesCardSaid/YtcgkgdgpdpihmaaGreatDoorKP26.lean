/- For any two moving labels and any period, Restrict returns the part during the period, and Patch the second one in place of the first one; patching by a part of itself changes nothing. Conditions: none. (part 26 of 30.) Conditions: those that each statement names. -/
import Derived.Shelf.Lays
import Derived.Shelf.Strings.Repeat
import Derived.Ground.NamesProg
import Derived.Test.YtcgkgdgpdpihmaaGreatDoorProg
import Derived.Test.YtcgkgdgpdpihmaaGreatDoorKP5
import Derived.Test.YtcgkgdgpdpihmaaGreatDoorKP21
import Derived.Test.YtcgkgdgpdpihmaaGreatDoorKP22
import Derived.Test.YtcgkgdgpdpihmaaGreatDoorKP23
import Derived.Test.YtcgkgdgpdpihmaaGreatDoorKP24
import Derived.Test.YtcgkgdgpdpihmaaGreatDoorKP25
set_option linter.unusedSimpArgs false
set_option linter.unusedVariables false
set_option maxHeartbeats 2000000
set_option maxRecDepth 100000
namespace Go.Vt
open Go.RowKit Go.Proofs
open Go.Proofs.Tryz (prog)
section
noncomputable def memB (i:Za)(z:Ri):Bool:= @decide (memI i z) (Classical.propDecidable _)
theorem Zc0 {i:Za}{z:Ri}:memB i z=true↔memI i z:=by unfold memB;exact @decide_eq_true_iff _ (Classical.propDecidable _)
noncomputable def vlA (l:List PU)(z:Ri):Option Int:=(l.find? (fun u=>memB u.In z)).map (·.Label)
theorem ZkG (l:List PU)(t:Rl):atL l t=vlA l (ri t):=by
 unfold atL vlA
 congr 2
 funext u
 rw[Bool.eq_iff_iff,Zc0]
 exact Zgf
theorem Zej {z z':Ri}:∀{l:List PU},(∀u∈l,memI u.In z↔memI u.In z')->vlA l z=vlA l z'
 |[],_=>rfl
 |u::l,h=>by
  have ih:=Zej (l:=l) (fun u hu=>h u (.tail _ hu))
  unfold vlA at ih⊢
  rw[List.find?_cons,List.find?_cons,show memB u.In z=memB u.In z' by rw[Bool.eq_iff_iff,Zc0,Zc0];exact h u (.head _)]
  split
  ·rfl
  ·exact ih
theorem Zd1 {l:List PU}{z:Ri}{x:Int}(h:vlA l z=some x):∃u∈l,memI u.In z/\u.Label=x:=by
 unfold vlA at h
 rw[Option.map_eq_some_iff] at h
 obtain⟨u,h1,h2⟩:=h
 exact⟨u,List.mem_of_find?_eq_some h1,Zc0.1 (by have:=List.find?_some h1;exact this),h2⟩
theorem Zt0 {l:List PU}{z:Ri}(h:∃u∈l,memI u.In z):∃x,vlA l z=some x:=by
 obtain⟨u,h1,h2⟩:=h
 cases e:vlA l z with
 |some x=>exact⟨x,rfl⟩
 |none=>
  unfold vlA at e
  rw[Option.map_eq_none_iff,List.find?_eq_none] at e
  exact absurd (Zc0.2 h2) (e u h1)
theorem Zs7 {l:List PU}(h:l.Pairwise (fun u w=>bfI u.In w.In)){u w:PU}(hu:u∈l)(hw:w∈l){t:Ri}(h1:memI u.In t)(h2:memI w.In t):u=w:=by
 rcases Zeq h u hu w hw with e|e|e
 ·exact e
 ·exact((Zj2.2 e).dis (t:=t) h1 h2).elim
 ·exact((Zj2.2 e).dis (t:=t) h2 h1).elim
theorem ZeR {l:List PU}(h:l.Pairwise (fun u w=>bfI u.In w.In)){z:Ri}{x:Int}:vlA l z=some x↔Has (l.map absQ) z x:=by
 constructor
 ·intro e
  obtain⟨u,h1,h2,h3⟩:=Zd1 e
  exact⟨absQ u,List.mem_map_of_mem h1,h2,h3⟩
 ·rintro⟨u,hu,h1,h2⟩
  obtain⟨w,hw,rfl⟩:=List.mem_map.1 hu
  obtain⟨y,hy⟩:=Zt0 ⟨w,hw,h1⟩
  obtain⟨w',hw',h3,h4⟩:=Zd1 hy
  have e:=Zs7 h hw hw' h1 h3
  rw[hy,<-h4,<-e]
  exact congrArg some h2
theorem Zc1 {p:List Za}{c:List Rl}{i:Za}:∀n,n<=c.length->(i∈celS p c n↔∃k,k<n/\((hlB p (gi c (k:Int))=true/\i=⟨gi c (k:Int),gi c (k:Int),false,false⟩)\/(k+1<c.length/\spB p (gi c (k:Int)) (gi c ((k+1:Nat):Int))=true/\i=⟨gi c (k:Int),gi c ((k+1:Nat):Int),true,true⟩)))
 |0,_=>⟨(fun h=>by cases h),fun⟨k,h,_⟩=>by omega⟩
 |n+1,hn=>by
  have ih:=Zc1 (p:=p) (c:=c) (i:=i) n (by omega)
  have hI:i∈celI p c n (celS p c n)↔i∈celS p c n\/(hlB p (gi c (n:Int))=true/\i=⟨gi c (n:Int),gi c (n:Int),false,false⟩):=by
   unfold celI
   split
   ·rename_i h
    rw[Wv,Wo]
    exact⟨fun h1=>h1.imp id fun h2=>⟨h,h2⟩,fun h1=>h1.imp id (·.2)⟩
   ·rename_i h
    exact⟨.inl,fun h1=>h1.elim id fun h2=>(h h2.1).elim⟩
  have hJ:i∈celS p c (n+1)↔i∈celI p c n (celS p c n)\/(n+1<c.length/\spB p (gi c (n:Int)) (gi c ((n+1:Nat):Int))=true/\i=⟨gi c (n:Int),gi c ((n+1:Nat):Int),true,true⟩):=by
   show i∈celJ p c n (celI p c n (celS p c n))↔_
   unfold celJ
   split
   ·rename_i h
    rw[Wv,Wo]
    exact⟨fun h1=>h1.imp id fun h2=>⟨h.1,h.2,h2⟩,fun h1=>h1.imp id (·.2.2)⟩
   ·rename_i h
    exact⟨.inl,fun h1=>h1.elim id fun h2=>(h ⟨h2.1,h2.2.1⟩).elim⟩
  rw[hJ,hI,ih]
  constructor
  ·rintro((⟨k,h1,h2⟩|h)|h)
   ·exact⟨k,by omega,h2⟩
   ·exact⟨n,by omega, .inl h⟩
   ·exact⟨n,by omega, .inr h⟩
  ·rintro⟨k,h1,h2⟩
   rcases(by omega:k<n\/k=n) with h3|rfl
   ·exact .inl (.inl ⟨k,h3,h2⟩)
   ·rcases h2 with h2|h2
    ·exact .inl (.inr h2)
    ·exact .inr h2
theorem ZhN {c:List Rl}{z:Ri}(h0:ri (gi c ((0:Nat):Int))<=z):∀n,0<n->n<=c.length->∃k,k<n/\ri (gi c (k:Int))<=z/\(k+1<n->z<ri (gi c ((k+1:Nat):Int)))
 |0,h,_=>by omega
 |n+1,_,hn=>by
  by_cases hz:n=0
  ·subst hz;exact⟨0,by omega,h0,fun h=>by omega⟩
  obtain⟨k,h1,h2,h3⟩:=ZhN h0 n (by omega) (by omega)
  rcases(by omega:k+1<n\/k+1=n) with h4|h4
  ·exact⟨k,by omega,h2,fun _=>h3 h4⟩
  ·by_cases h5:ri (gi c (n:Int))<=z
   ·exact⟨n,by omega,h5,fun h=>by omega⟩
   ·exact⟨k,by omega,h2,fun _=>by rw[h4];grind⟩
theorem Znw {p:List Za}{c:List Rl}{n:Nat}(h:SrR n c)(hm:∀i∈p,i.From∈c/\i.To∈c){z:Ri}(hz:HoldP p z):∃i∈celS p c c.length,memI i z:=by
 have hz0:=hz
 obtain⟨j,hj,hz⟩:=hz
 obtain⟨m1,m2⟩:=hm j hj
 have f1:=h.fst m1
 have hlen:0<c.length:=List.length_pos_of_mem m1
 have hz1:ri j.From<=z/\z<=ri j.To:=by unfold memI at hz;grind
 obtain⟨k,h1,h2,h3⟩:=ZhN (c:=c) (z:=z) (by grind) c.length hlen (Wl _)
 by_cases e:ri (gi c (k:Int))=z
 ·refine⟨⟨gi c (k:Int),gi c (k:Int),false,false⟩,(Zc1 _ (Wl _)).2 ⟨k,h1, .inl ⟨Zga.2 (by rw[e];exact hz0),rfl⟩⟩, .inr ⟨e,rfl⟩, .inr ⟨e.symm,rfl⟩⟩
 ·have hlt:ri (gi c (k:Int))<z:=by grind
  have hk:k+1<c.length:=by
   rcases(by omega:k+1<c.length\/k+1=c.length) with h4|h4
   ·exact h4
   ·have:=h.lst h4 m2
    grind
  have h5:=h3 hk
  exact⟨⟨gi c (k:Int),gi c ((k+1:Nat):Int),true,true⟩,(Zc1 _ (Wl _)).2 ⟨k,h1, .inr ⟨hk,(ZgK h hm hk hlt h5).2 hz0,rfl⟩⟩, .inl hlt, .inl h5⟩
theorem ZkM {p:List Za}{c:List Rl}{n:Nat}(h:SrR n c){i j:Za}(hi:i∈celS p c c.length)(hj:j.From∈c/\j.To∈c){z z':Ri}(hz:memI i z)(hz':memI i z'):memI j z↔memI j z':=by
 obtain⟨k,hk,⟨_,rfl⟩|⟨hk1,_,rfl⟩⟩:=(Zc1 _ (Wl _)).1 hi
 ·unfold memI at hz hz'
  dsimp only at hz hz'
  have:z=z':=by grind
  rw[this]
 ·have e1:=h.mid hk1 hj.1
  have e2:=h.mid hk1 hj.2
  unfold memI at hz hz'⊢
  dsimp only at hz hz'
  grind
theorem Zui {p:List Za}{c:List Rl}{n:Nat}(h:SrR n c)(hD:∀x∈c,Dsc x){i:Za}(hi:i∈celS p c c.length):memI i (ri (midR i)):=by
 obtain⟨k,hk,⟨_,rfl⟩|⟨hk1,_,rfl⟩⟩:=(Zc1 _ (Wl _)).1 hi
 ·have:=(ZkL (c:=⟨gi c (k:Int),gi c (k:Int),false,false⟩) (hD _ (Zu (by omega))) (hD _ (Zu (by omega)))).1 rfl
  rw[this]
  exact⟨.inr ⟨rfl,rfl⟩, .inr ⟨rfl,rfl⟩⟩
 ·have:=(ZkL (c:=⟨gi c (k:Int),gi c ((k+1:Nat):Int),true,true⟩) (hD _ (Zu (by omega))) (hD _ (Zu (by omega)))).2 (h.at (Nat.lt_succ_self k) hk1)
  exact⟨.inl this.1, .inl this.2⟩
end
section
theorem Zk8 {R:Rl->Rl->Prop}(hR:∀x,¬R x x):∀{ys xs:List Rl},ys.Pairwise R->(∀y∈ys,y∈xs)->ys.length<=xs.length
 |[],_,_,_=>Wm _
 |y::ys,xs,h,k=>by
  obtain⟨h1,h2⟩:=List.pairwise_cons.1 h
  have ih:=Zk8 hR (ys:=ys) (xs:=xs.erase y) h2 (fun z hz=>(List.mem_erase_of_ne (fun e=>hR y (by have:=h1 z hz;rwa [e] at this))).2 (k z (.tail _ hz)))
  have hm:=k y (.head _)
  have hl:=List.length_erase_of_mem hm
  have hp:=List.length_pos_of_mem hm
  rw[Wu]
  omega
theorem Zmb {l:List Za}(hl:l.length<=1024)(hk:∀i∈l,IvOk B28 i):(nrmS l).length<=2*l.length:=by
 have h1:=(Zcf hl hk).1
 have h2:∀i∈nrmS l,i.From∈enR l/\i.To∈enR l:=Zb0 (Pr:=fun x=>x∈enR l) fun i hi=>⟨(ZcK hk).2 ⟨i,hi, .inl rfl⟩,(ZcK hk).2 ⟨i,hi, .inr rfl⟩⟩
 have h3:((nrmS l).map (·.From)).Pairwise (fun x y=>ri x<ri y):=by
  rw[List.pairwise_map]
  refine h1.p.imp_of_mem fun {i j} hi hj hb=>?_
  have hv:=h1.v i hi
  unfold bLt bdL bdF at hb hv
  dsimp only at hb hv
  rcases hb with hb|⟨hb,b1,b2⟩ <;> rcases hv with hv|⟨hv,b3,b4⟩
  ·grind
  ·grind
  ·grind
  ·rw[b4] at b1;cases b1
 have h4:=Zk8 (fun x (h:ri x<ri x)=>by grind) h3 (xs:=enR l) (fun y hy=>by
  obtain⟨i,hi,rfl⟩:=List.mem_map.1 hy
  exact(h2 i hi).1)
 have h5:=ZbW l
 rw[Ws] at h4
 omega
theorem Zfr {a b:List PU}(ha:ShP a)(hb:ShP b):(nrmS (allL a b)).length<=1024:=by
 obtain⟨h1,h2⟩:=Zb7 ha hb
 have:=Zmb (l:=allL a b) (by omega) (fun i hi=>(h1 i hi).mono (by decide))
 omega
def DscL (l:List PU):Prop:=∀u∈l,Dsc u.In.From/\Dsc u.In.To
noncomputable def ctL (a b:List PU):List Rl:=cutR (nrmS (allL a b)) (enR (allL a b))
theorem Znl (a b:List PU):celL a b=celS (nrmS (allL a b)) (ctL a b) (ctL a b).length:=rfl
theorem Zfk {a b:List PU}{u:PU}(h:u∈a\/u∈b):u.In∈allL a b:=by
 unfold allL inL
 rw[Wv,Z5,Z5]
 exact h.imp (fun h=>List.mem_map_of_mem h) (fun h=>List.mem_map_of_mem h)
structure LfP (a b:List PU):Prop where
 sa:ShP a
 sb:ShP b
 da:DscL a
 db:DscL b
theorem LfP.bk {a b:List PU}(h:LfP a b):∀i∈allL a b,IvOk B28 i:=fun i hi=>((Zb7 h.sa h.sb).1 i hi).mono (by decide)
theorem LfP.dk {a b:List PU}(h:LfP a b):∀i∈allL a b,Dsc i.From/\Dsc i.To:=fun i hi=>by
 unfold allL inL at hi
 rw[Wv,Z5,Z5,List.mem_map,List.mem_map] at hi
 rcases hi with⟨u,h1,rfl⟩|⟨u,h1,rfl⟩
 ·exact h.da u h1
 ·exact h.db u h1
theorem LfP.sr {a b:List PU}(h:LfP a b):SrR (enR (allL a b)++enR (nrmS (allL a b))).length (ctL a b):=Zgc (Zgl h.sa h.sb (Zfr h.sa h.sb))
theorem LfP.mem {a b:List PU}(h:LfP a b){x:Rl}:x∈ctL a b↔(∃i∈allL a b,x=i.From\/x=i.To)\/∃i∈nrmS (allL a b),x=i.From\/x=i.To:=by
 have hc:=Zgl h.sa h.sb (Zfr h.sa h.sb)
 have hn:∀i∈nrmS (allL a b),IvOk B28 i:=ZbT h.bk
 have h2:=(Zb3 h.bk).b
 have h3:=(Zb3 hn).b
 unfold ctL cutR
 rw[Ze5 (fun x hx=>(List.mem_append.1 hx).elim (h2 x) (h3 x)) _ (Wl _),List.take_length,Wv,ZcK h.bk,ZcK hn]
theorem LfP.pc {a b:List PU}(h:LfP a b):∀i∈nrmS (allL a b),i.From∈ctL a b/\i.To∈ctL a b:=fun i hi=>⟨h.mem.2 (.inr ⟨i,hi, .inl rfl⟩),h.mem.2 (.inr ⟨i,hi, .inr rfl⟩)⟩
theorem LfP.uc {a b:List PU}(h:LfP a b){u:PU}(hu:u∈a\/u∈b):u.In.From∈ctL a b/\u.In.To∈ctL a b:=⟨h.mem.2 (.inl ⟨_,Zfk hu, .inl rfl⟩),h.mem.2 (.inl ⟨_,Zfk hu, .inr rfl⟩)⟩
theorem LfP.dc {a b:List PU}(h:LfP a b):∀x∈ctL a b,Dsc x:=fun x hx=>by
 have hn:∀i∈nrmS (allL a b),Dsc i.From/\Dsc i.To:=Zb0 h.dk
 rcases h.mem.1 hx with⟨i,h1,rfl|rfl⟩|⟨i,h1,rfl|rfl⟩
 ·exact(h.dk i h1).1
 ·exact(h.dk i h1).2
 ·exact(hn i h1).1
 ·exact(hn i h1).2
theorem LfP.at {a b:List PU}(h:LfP a b){i:Za}(hi:i∈celL a b){z:Ri}(hz:memI i z):atL a (midR i)=vlA a z/\atL b (midR i)=vlA b z:=by
 rw[Znl] at hi
 have hm:=Zui h.sr h.dc hi
 rw[ZkG,ZkG]
 exact⟨Zej fun u hu=>ZkM h.sr hi (h.uc (.inl hu)) hm hz,Zej fun u hu=>ZkM h.sr hi (h.uc (.inr hu)) hm hz⟩
theorem LfP.cov {a b:List PU}(h:LfP a b){z:Ri}(hz:∃u,(u∈a\/u∈b)/\memI u.In z):∃i∈celL a b,memI i z:=by
 obtain⟨u,h1,h2⟩:=hz
 rw[Znl]
 exact Znw h.sr h.pc (((Zcf (by have:=(Zb7 h.sa h.sb).2;omega) h.bk).2 z).2 ⟨_,Zfk h1,h2⟩)
theorem ZpD (op:Int):lfO op none none=none:=by
 unfold lfO
 split
 ·rfl
 ·split
  ·rfl
  ·split
   ·rfl
   ·split <;> rfl
theorem ZkE {op:Int}{a b:List PU}{cs:List Za}{u:PU}:∀n,n<=cs.length->(u∈lfS op a b cs n↔u.In∈cs.take n/\lfO op (atL a (midR u.In)) (atL b (midR u.In))=some u.Label)
 |0,_=>by simp[lfS]
 |n+1,hn=>by
  have ih:=ZkE (op:=op) (a:=a) (b:=b) (cs:=cs) (u:=u) n (by omega)
  rw[lfS,Wn (by omega),<-Zt (by omega),Wv,Wo]
  generalize gi cs (n:Int)=c at*
  unfold lf1
  split
  ·rename_i x hx
   rw[Wv,Wo,ih]
   constructor
   ·rintro(h|rfl)
    ·exact⟨.inl h.1,h.2⟩
    ·exact⟨.inr rfl,hx⟩
   ·rintro⟨h1|h1,h2⟩
    ·exact .inl ⟨h1,h2⟩
    ·right
     rw[h1,hx] at h2
     obtain⟨I,x'⟩:=u
     injection h2 with h2
     dsimp only at h1 h2
     rw[h1,h2]
  ·rename_i hx
   rw[ih]
   constructor
   ·exact fun h=>⟨.inl h.1,h.2⟩
   ·rintro⟨h1|h1,h2⟩
    ·exact⟨h1,h2⟩
    ·rw[h1,hx] at h2;cases h2
theorem ZeN {op:Int}{a b:List PU}{u:PU}:u∈lfU op a b↔u.In∈celL a b/\lfO op (atL a (midR u.In)) (atL b (midR u.In))=some u.Label:=by
 unfold lfU
 rw[ZkE _ (Wl _),List.take_length]
theorem ZkX {op:Int}{a b:List PU}{cs:List Za}:∀i,i<=cs.length->((lfS op a b cs i).map (·.In)).Sublist (cs.take i)
 |0,_=>Wk _
 |i+1,hi=>by
  have ih:=ZkX (op:=op) (a:=a) (b:=b) (cs:=cs) i (by omega)
  rw[lfS,Wn (by omega),<-Zt (by omega)]
  unfold lf1
  split
  ·rw[List.map_append]
   exact ih.append (Wj _)
  ·exact ih.trans (List.sublist_append_left _ _)
theorem Zr0 {op:Int}{a b:List PU}(h:LfP a b){z:Ri}{x:Int}:Has ((lfU op a b).map absQ) z x↔lfO op (vlA a z) (vlA b z)=some x:=by
 constructor
 ·rintro⟨w,hw,h1,h2⟩
  obtain⟨u,hu,rfl⟩:=List.mem_map.1 hw
  obtain⟨h3,h4⟩:=ZeN.1 hu
  obtain⟨e1,e2⟩:=h.at h3 h1
  rw[<-e1,<-e2,h4]
  exact congrArg some h2
 ·intro e
  have hc:∃i∈celL a b,memI i z:=by
   refine h.cov ?_
   cases ea:vlA a z with
   |some y=>obtain⟨u,h1,h2,_⟩:=Zd1 ea;exact⟨u, .inl h1,h2⟩
   |none=>
    cases eb:vlA b z with
    |some y=>obtain⟨u,h1,h2,_⟩:=Zd1 eb;exact⟨u, .inr h1,h2⟩
    |none=>rw[ea,eb,ZpD] at e;cases e
  obtain⟨i,h1,h2⟩:=hc
  obtain⟨e1,e2⟩:=h.at h1 h2
  rw[<-e1,<-e2] at e
  exact⟨absQ ⟨i,x⟩,List.mem_map_of_mem (ZeN.2 ⟨h1,e⟩),h2,rfl⟩
theorem ZsC {op:Int}{a b:List PU}(h:LfP a b):NF ((lfR op a b).map absQ)/\(∀z x,Has ((lfR op a b).map absQ) z x↔lfO op (vlA a z) (vlA b z)=some x)/\∀u∈lfR op a b,IvOk 3 u.In:=by
 have hb:=Zf8 (p:=nrmS (allL a b)) h.sr _ (Wl _)
 have hs:=ZkX (op:=op) (a:=a) (b:=b) (cs:=celL a b) _ (Wl _)
 rw[List.take_length] at hs
 have hpw:(lfU op a b).Pairwise (fun u w=>bfI u.In w.In):=List.pairwise_map.1 (hb.pw.sublist hs)
 have hk:∀u∈lfU op a b,IvOk 3 u.In:=fun u hu=>Zj6 h.sa h.sb _ (ZeN.1 hu).1
 have hv:∀u∈lfU op a b,okI u.In:=fun u hu=>hb.ok _ (ZeN.1 hu).1
 have hj:=Zlp (l:=lfU op a b) (K:=3) hk hv hpw _ (Wl _)
 rw[List.take_length] at hj
 exact⟨hj.1.nf,fun z x=>(hj.1.has z x).trans (Zr0 h),hj.2⟩
end
section
theorem Zee (a b:Za):(ri a.From<ri b.From/\mtF a b=(b.From,b.OpenFrom))\/(ri a.From=ri b.From/\mtF a b=(a.From,a.OpenFrom||b.OpenFrom))\/(ri b.From<ri a.From/\mtF a b=(a.From,a.OpenFrom)):=by
 unfold mtF
 by_cases h1:cl a.From b.From<0
 ·exact .inl ⟨Zaa.1 h1,if_pos h1⟩
 ·rw[if_neg h1]
  by_cases h2:cl a.From b.From=0
  ·exact .inr (.inl ⟨Zai.1 h2,if_pos h2⟩)
  ·exact .inr (.inr ⟨ZfI.1 (by omega),if_neg h2⟩)
theorem Zem (a b:Za):(ri b.To<ri a.To/\mtT a b=(b.To,b.OpenTo))\/(ri a.To=ri b.To/\mtT a b=(a.To,a.OpenTo||b.OpenTo))\/(ri a.To<ri b.To/\mtT a b=(a.To,a.OpenTo)):=by
 unfold mtT
 by_cases h1:0<cl a.To b.To
 ·exact .inl ⟨ZfI.1 h1,if_pos h1⟩
 ·rw[if_neg h1]
  by_cases h2:cl a.To b.To=0
  ·exact .inr (.inl ⟨Zai.1 h2,if_pos h2⟩)
  ·exact .inr (.inr ⟨Zaa.1 (by omega),if_neg h2⟩)
theorem Zna (a b:Za)(z:Ri):memI (mt a b) z↔memI a z/\memI b z:=by
 unfold memI mt
 dsimp only
 rcases Zee a b with⟨h1,e1⟩|⟨h1,e1⟩|⟨h1,e1⟩ <;> rcases Zem a b with⟨h2,e2⟩|⟨h2,e2⟩|⟨h2,e2⟩ <;> rw[e1,e2] <;> dsimp only <;> (try simp only[Bool.or_eq_false_iff]) <;> grind
theorem Zkg (a b:Za):mtO a b=true↔okI (mt a b):=by
 unfold mtO okI
 rw[Bool.or_eq_true,Wq,Wq,decide_eq_true_eq,decide_eq_true_eq,Zaa,Zai,Bool.not_eq_true',Bool.not_eq_true']
structure Wth (i a:Za):Prop where
 f:ri a.From<ri i.From\/(ri a.From=ri i.From/\(a.OpenFrom=true->i.OpenFrom=true))
 t:ri i.To<ri a.To\/(ri i.To=ri a.To/\(a.OpenTo=true->i.OpenTo=true))
theorem Zf1 (a b:Za):Wth (mt a b) a/\Wth (mt a b) b:=by
 have e:mt a b=⟨(mtF a b).1,(mtT a b).1,(mtF a b).2,(mtT a b).2⟩:=rfl
 rw[e]
 rcases Zee a b with⟨h1,e1⟩|⟨h1,e1⟩|⟨h1,e1⟩ <;> rcases Zem a b with⟨h2,e2⟩|⟨h2,e2⟩|⟨h2,e2⟩ <;> rw[e1,e2] <;> dsimp only <;> exact⟨⟨by dsimp only;grind,by dsimp only;grind⟩,⟨by dsimp only;grind,by dsimp only;grind⟩⟩
theorem Zms {i j a b:Za}(hi:Wth i a)(hj:Wth j b)(h:bfI a b):bfI i j:=by
 obtain⟨h1,h2⟩:=hi
 obtain⟨h3,h4⟩:=hj
 unfold bfI at*
 grind
def PwU (l:List UL):Prop:=l.Pairwise (fun u w=>bfI u.In w.In)
theorem ZoX {us:List UL}(ho:∀u∈us,okI u.In)(hp:PwU us):NoTie us:=fun x hx y hy h1 h2=>by
 have key:∀u w:UL,okI u.In->okI w.In->bfI u.In w.In->leS u w->leS w u->False:=fun u w hu hw hb h1 h2=>by
  unfold leS opn at h1 h2
  unfold bfI at hb
  unfold okI at hu hw
  rcases hf:u.In.OpenFrom <;> rcases hg:w.In.OpenFrom <;> rw[hf] at h1 h2 hu <;> rw[hg] at h1 h2 hb hw <;> simp only[Bool.false_eq_true,if_false,if_true] at h1 h2 <;> grind
 rcases Zeq hp x hx y hy with e|e|e
 ·exact e
 ·exact(key x y (ho x hx) (ho y hy) e h1 h2).elim
 ·exact(key y x (ho y hy) (ho x hx) e h2 h1).elim
theorem ZmV {us:List UL}(hp:PwU us):(us.map absU).Pairwise Dis:=by
 rw[List.pairwise_map]
 exact hp.imp fun h=>GU.bfr.Dis (show(absU _).bfr (absU _) from h)
end
section
theorem pwQ {l:List PU}(h:NF (l.map absQ)):l.Pairwise (fun u w=>bfI u.In w.In):=(List.pairwise_map.1 h.pw).imp fun e=>e.bf
theorem Ze2 {l m:List PU}{K K':Nat}(hl:∀u∈l,IvOk K u.In)(hm:∀u∈m,IvOk K' u.In)(h:l.map absQ=m.map absQ):l=m:=by
 have h1:l.map toU=m.map toU:=Zfm (K:=K) (K':=K') (fun u hu=>by obtain⟨w,hw,rfl⟩:=List.mem_map.1 hu;exact hl w hw) (fun u hu=>by obtain⟨w,hw,rfl⟩:=List.mem_map.1 hu;exact hm w hw) (by rw[List.map_map,List.map_map];exact h)
 have h2:=congrArg (List.map ofU) h1
 rw[List.map_map,List.map_map] at h2
 have e:ofU ∘ toU=id:=funext fun u=>rfl
 rw[e,List.map_id,List.map_id] at h2
 exact h2
theorem pwT {l:List PU}(h:l.Pairwise (fun u w=>bfI u.In w.In)):PwU (l.map toU):=by
 unfold PwU
 rw[List.pairwise_map]
 exact h
theorem ZeD (X:List UL):(mpN ofU X X.length).map absQ=X.map absU:=by
 rw[Z5,List.map_map]
 rfl
structure MvP (l:List PU):Prop where
 nf:NfP l
 d:DscL l
 f:∀u∈l,Lb u.Label
theorem MvP.sh {l:List PU}(h:MvP l):ShP l:=⟨h.nf.len,h.nf.k⟩
theorem MvP.pw {l:List PU}(h:MvP l):l.Pairwise (fun u w=>bfI u.In w.In):=pwQ h.nf.nf
theorem MvP.lf {a b:List PU}(ha:MvP a)(hb:MvP b):LfP a b:=⟨ha.sh,hb.sh,ha.d,hb.d⟩
end
section
noncomputable def shP (q:Rat)(u:PU):PU:=⟨⟨shR u.In.From q,shR u.In.To q,u.In.OpenFrom,u.In.OpenTo⟩,u.Label⟩
theorem ZmY {x:Rl}(h:(rvR x).ok)(q:Rat):(rvR (shR x q)).ok:=RV.sh_ok h q
theorem Zqj {x y:Rl}(hx:(rvR x).ok)(hy:(rvR y).ok){q:Rat}:ri (shR x q)=ri (shR y q)↔ri x=ri y:=by
 rw[Zbi (ZmY hx q) (ZmY hy q),Zbi hx hy]
 constructor
 ·intro h
  obtain⟨a,b,c⟩:=x
  obtain⟨a',b',c'⟩:=y
  unfold shR at h
  injection h with h1 h2 h3
  dsimp only at h1 h2 h3
  have:a=a':=by grind
  rw[this,h2,h3]
 ·exact fun h=>by rw[h]
def CnI (u:PU):Prop:=(rvR u.In.From).ok/\(rvR u.In.To).ok
theorem IvOk.cn {K:Nat}{u:PU}(h:IvOk K u.In):CnI u:=⟨h.a.o,h.b.o⟩
theorem sh_ok {u:PU}(h:CnI u)(q:Rat):(absQ (shP q u)).ok↔(absQ u).ok:=by
 show okI (shP q u).In↔okI u.In
 unfold okI shP
 dsimp only
 rw[Zpw h.1 h.2,Zqj h.1 h.2]
theorem Zh5 {us:List UL}(hk:∀u∈us,IvOk KN u.In)(ho:∀u∈us,okI u.In)(hp:PwU us)(hl:us.length<=65536):NrP us/\(∀u∈us,UIn u)/\NF ((nrmR us).map absU)/\∀t v,Has ((nrmR us).map absU) t v↔Has (us.map absU) t v:=by
 have hU:∀u∈us,UIn u:=fun u hu=>⟨hk u hu⟩
 have h:=Zf3 (us:=us) ⟨hU,fun u hu=>ho u hu⟩ (ZmV hp)
 exact⟨.inr ⟨hl,ZoX ho hp⟩,hU,h.1,h.2⟩
theorem Zo5 {a:List PU}(h:NF (a.map absQ))(hk:∀u∈a,IvOk KN u.In)(hl:a.length<=65536):NrP (mpN toU a a.length)/\(∀u∈mpN toU a a.length,UIn u)/\nrmE (mpN toU a a.length)=0/\mNorm a=a:=by
 have hA:=Z5 toU a
 have hka:∀u∈a.map toU,IvOk KN u.In:=fun u hu=>by obtain⟨w,hw,rfl⟩:=List.mem_map.1 hu;exact hk w hw
 have hoa:∀u∈a.map toU,okI u.In:=fun u hu=>by obtain⟨w,hw,rfl⟩:=List.mem_map.1 hu;exact h.ok _ (List.mem_map_of_mem hw)
 have hpw:=pwT (pwQ h)
 obtain⟨r1,r2,r3,r4⟩:=Zh5 hka hoa hpw (by rw[Ws];exact hl)
 have hq:(mNorm a).map absQ=(nrmR (a.map toU)).map absU:=by unfold mNorm;rw[hA,ZeD]
 have he:(a.map toU).map absU=a.map absQ:=by rw[List.map_map];rfl
 rw[hA]
 refine⟨r1,r2,(ZhW ⟨r2,hoa⟩).2 (ZmV hpw),Ze2 (K:=KN) (K':=KN) (fun u hu=>?_) hk (by rw[hq];exact r3.uniq h fun z x=>by rw[r4,he])⟩
 have:mNorm a=mpN ofU (nrmR (a.map toU)) (nrmR (a.map toU)).length:=by unfold mNorm;rw[hA]
 rw[this,Z5] at hu
 obtain⟨w,hw,rfl⟩:=List.mem_map.1 hu
 exact(Zkx r2 w hw).i
end
section
section
variable {Pr : Rl -> Prop}
def PrU (Pr:Rl->Prop)(u:UL):Prop:=Pr u.In.From/\Pr u.In.To
theorem Zn2 {xs:List UL}{u:UL}(h:∀v∈xs,PrU Pr v)(hu:PrU Pr u):∀v∈turn xs u,PrU Pr v:=fun v hv=>by
 rcases List.mem_or_eq_of_mem_set hv with h1|h1
 ·exact h v h1
 ·rw[h1];exact hu
theorem ZtX {l:List UL}{i:Nat}{xs:List UL}{x:UL}(h:∀v∈xs,PrU Pr v)(hx:PrU Pr x):∀v∈nstp l i xs x,PrU Pr v:=by
 unfold nstp
 split
 ·split
  ·rename_i hc
   have h0:0<xs.length:=by
    unfold cA at hc
    simp only[Wq] at hc
    exact ZbE hc.1
   have hl:PrU Pr (lstU xs):=h _ (Zu (by omega))
   exact Zn2 h ⟨hl.1,hx.2⟩
  ·intro v hv
   rcases List.mem_append.1 hv with h1|h1
   ·exact h v h1
   ·rw[Wo] at h1
    subst h1
    split
    ·exact hx
    ·exact hx
 ·split
  ·rename_i hc
   have h0:0<xs.length:=by
    unfold cC at hc
    simp only[Wq] at hc
    exact ZbE hc.1
   have hl:PrU Pr (lstU xs):=h _ (Zu (by omega))
   exact Zn2 h hl
  ·split
   ·exact h
   ·intro v hv
    rcases List.mem_append.1 hv with h1|h1
    ·exact h v h1
    ·rw[Wo] at h1
     subst h1
     exact hx
theorem ZqD {l:List UL}(h:∀u∈l,PrU Pr u):∀m,m<=l.length->∀v∈nrm l m,PrU Pr v
 |0,_=>fun v hv=>by cases hv
 |m+1,hm=>ZtX (ZqD h m (by omega)) (h _ (Zu (by omega)))
theorem ZvD {u v:UL}(h:PrU Pr u)(hv:v∈atU u):PrU Pr v:=by
 unfold atU at hv
 rcases List.mem_append.1 hv with h1|h1
 ·split at h1
  ·cases h1
  ·rw[Wo] at h1
   subst h1
   exact⟨h.1,h.1⟩
 ·split at h1
  ·cases h1
  ·rcases List.mem_cons.1 h1 with h2|h2
   ·subst h2
    exact h
   ·split at h2
    ·cases h2
    ·rw[Wo] at h2
     subst h2
     exact⟨h.2,h.2⟩
theorem ZqC {us:List UL}(h:∀u∈us,PrU Pr u):∀m,m<=us.length->∀v∈atm us m,PrU Pr v
 |0,_,v,hv=>by cases hv
 |m+1,hm,v,hv=>by
  rw[atm] at hv
  rcases List.mem_append.1 hv with h1|h1
  ·exact ZqC h m (by omega) v h1
  ·exact ZvD (h _ (Zu (by omega))) h1
theorem ZnA {us:List UL}(h:∀u∈us,PrU Pr u):∀v∈nrmR us,PrU Pr v:=by
 unfold nrmR
 split
 ·exact ZqD (ZqC (fun u hu=>h u (Zdl hu)) _ (Wl _)) _ (Wl _)
 ·intro v hv
  cases hv
end
theorem ZdS {l:List Za}(hp:l.Pairwise bfI)(ho:∀i∈l,okI i)(hc:∀i∈l,(rvR i.From).ok/\(rvR i.To).ok){E:List Rl}(hE:∀i∈l,i.From∈E):l.length<=2*E.length:=by
 have hk:(l.map fun i=>(i.From,decide (i.From=i.To))).Nodup:=by
  unfold List.Nodup
  rw[List.pairwise_map]
  refine hp.imp_of_mem fun {i j} hu hw hb e=>?_
  have c1:=hc i hu
  have c2:=hc j hw
  have o1:=ho i hu
  have o2:=ho j hw
  injection e with e1 e2
  have f1:ri i.From=ri j.From:=by rw[e1]
  have f2:(ri i.From=ri i.To)↔(ri j.From=ri j.To):=by
   rw[Zbi c1.1 c1.2,Zbi c2.1 c2.2]
   rw[decide_eq_decide] at e2
   exact e2
  unfold bfI at hb
  unfold okI at o1 o2
  grind
 have hs:(l.map fun i=>(i.From,decide (i.From=i.To))) ⊆ E.map (fun e=>(e,true))++E.map (fun e=>(e,false)):=fun x hx=>by
  obtain⟨i,hi,rfl⟩:=List.mem_map.1 hx
  have:=hE i hi
  rw[Wv,List.mem_map,List.mem_map]
  cases decide (i.From=i.To)
  ·exact .inr ⟨_,this,rfl⟩
  ·exact .inl ⟨_,this,rfl⟩
 have:=hk.length_le_of_subset hs
 simp only[Ws,Wp] at this
 omega
theorem Zqs {l:List PU}(h:NF (l.map absQ))(hc:∀u∈l,CnI u){E:List Rl}(hE:∀u∈l,u.In.From∈E):l.length<=2*E.length:=by
 have:=ZdS (l:=l.map (·.In)) (by rw[List.pairwise_map];exact pwQ h) (fun i hi=>by obtain⟨u,hu,rfl⟩:=List.mem_map.1 hi;exact h.ok _ (List.mem_map_of_mem hu)) (fun i hi=>by obtain⟨u,hu,rfl⟩:=List.mem_map.1 hi;exact hc u hu) (E:=E) (fun i hi=>by obtain⟨u,hu,rfl⟩:=List.mem_map.1 hi;exact hE u hu)
 rwa [Ws] at this
theorem ZjV (u:UL)(ds:List Za):∀k,k<=ds.length->rsI u ds k=((ds.take k).filter (fun d=>mtO u.In d)).map (fun d=>⟨mt u.In d,u.F⟩)
 |0,_=>rfl
 |k+1,hk=>by
  rw[rsI,ZjV u ds k (by omega),Wn (by omega),List.filter_append,List.map_append,Zt (by omega)]
  congr 1
  by_cases h:mtO u.In ds[k]=true
  ·rw[if_pos h,List.filter_cons_of_pos h]
   rfl
  ·rw[if_neg h,List.filter_cons_of_neg h]
   rfl
noncomputable def rsF (ds:List Za)(u:UL):List UL:=(ds.filter (fun d=>mtO u.In d)).map (fun d=>⟨mt u.In d,u.F⟩)
theorem Zgp (us:List UL)(ds:List Za):∀m,m<=us.length->rsO us ds m=(us.take m).flatMap (rsF ds)
 |0,_=>rfl
 |m+1,hm=>by
  rw[rsO,Zgp us ds m (by omega),Wn (by omega),List.flatMap_append,ZjV _ _ _ (Wl _),List.take_length,Zt (by omega)]
  simp[rsF]
theorem ZrN {us:List UL}{ds:List Za}{x:UL}:x∈rsO us ds us.length↔∃u∈us,∃d∈ds,okI (mt u.In d)/\(⟨mt u.In d,u.F⟩:UL)=x:=by
 rw[Zgp us ds _ (Wl _),List.take_length,List.mem_flatMap]
 unfold rsF
 constructor
 ·rintro⟨u,hu,hx⟩
  obtain⟨d,hd,rfl⟩:=List.mem_map.1 hx
  obtain⟨h1,h2⟩:=List.mem_filter.1 hd
  exact⟨u,hu,d,h1,(Zkg _ _).1 h2,rfl⟩
 ·rintro⟨u,hu,d,hd,ho,rfl⟩
  exact⟨u,hu,List.mem_map.2 ⟨d,List.mem_filter.2 ⟨hd,(Zkg _ _).2 ho⟩,rfl⟩⟩
theorem Ztu {us:List UL}{ds:List Za}(hu:PwU us)(hd:ds.Pairwise bfI):PwU (rsO us ds us.length):=by
 unfold PwU
 rw[Zgp us ds _ (Wl _),List.take_length,List.pairwise_flatMap]
 refine⟨fun u _=>?_,hu.imp fun {u w} hb x hx y hy=>?_⟩
 ·unfold rsF
  rw[List.pairwise_map]
  exact(hd.sublist List.filter_sublist).imp fun hb=>Zms (Zf1 _ _).2 (Zf1 _ _).2 hb
 ·unfold rsF at hx hy
  obtain⟨d,_,rfl⟩:=List.mem_map.1 hx
  obtain⟨e,_,rfl⟩:=List.mem_map.1 hy
  exact Zms (Zf1 _ _).1 (Zf1 _ _).1 hb
theorem Sep.bf {l:List Za}(h:Sep l):l.Pairwise bfI:=h.p.imp fun {i j} hb=>by
 unfold bLt bdL bdF at hb
 unfold bfI
 rcases hb with hb|⟨e,h1,h2⟩
 ·exact .inl hb
 ·exact .inr ⟨e, .inr h2⟩
theorem Zyz {Pr:Rl->Prop}{a b:Za}(ha:Pr a.From/\Pr a.To)(hb:Pr b.From/\Pr b.To):Pr (mt a b).From/\Pr (mt a b).To:=by
 have e:mt a b=⟨(mtF a b).1,(mtT a b).1,(mtF a b).2,(mtT a b).2⟩:=rfl
 rw[e]
 dsimp only
 constructor
 ·rcases Zee a b with⟨_,e1⟩|⟨_,e1⟩|⟨_,e1⟩ <;> rw[e1]
  ·exact hb.1
  ·exact ha.1
  ·exact ha.1
 ·rcases Zem a b with⟨_,e1⟩|⟨_,e1⟩|⟨_,e1⟩ <;> rw[e1]
  ·exact hb.2
  ·exact ha.2
  ·exact ha.2
theorem ZrD {i:Za}{z:Ri}(h:memI i z):okI i:=by
 unfold memI at h
 unfold okI
 grind
theorem Zmu {us:List UL}(ho:∀u∈us,okI u.In)(hp:(us.map absU).Pairwise Dis):NoTie us:=fun x hx y hy h1 h2=>by
 rw[List.pairwise_map] at hp
 have key:∀u w:UL,okI u.In->okI w.In->Dis (absU u) (absU w)->leS u w->leS w u->False:=fun u w hu hw hd h1 h2=>by
  have hb:bfI u.In w.In:=by
   refine ZfH (u:=absU u) (w:=absU w) hu hw ?_ hd
   unfold leS opn at h1 h2
   show ri u.In.From<ri w.In.From\/(ri u.In.From=ri w.In.From/\(u.In.OpenFrom=true->w.In.OpenFrom=true))
   rcases hf:u.In.OpenFrom <;> rcases hg:w.In.OpenFrom <;> rw[hf,hg] at h1 h2 <;> simp only[Bool.false_eq_true,if_false,if_true] at h1 h2 <;> grind
  unfold leS opn at h1 h2
  unfold bfI at hb
  unfold okI at hu hw
  rcases hf:u.In.OpenFrom <;> rcases hg:w.In.OpenFrom <;> rw[hf] at h1 h2 hu <;> rw[hg] at h1 h2 hb hw <;> simp only[Bool.false_eq_true,if_false,if_true] at h1 h2 <;> grind
 rcases Zeq hp x hx y hy with e|e|e
 ·exact e
 ·exact(key x y (ho x hx) (ho y hy) e h1 h2).elim
 ·exact(key y x (ho y hy) (ho x hx) e h2 h1).elim
theorem ZpT {us:List UL}(hk:∀u∈us,IvOk KN u.In)(ho:∀u∈us,okI u.In)(hp:(us.map absU).Pairwise Dis)(hl:us.length<=65536):NrP us/\(∀u∈us,UIn u)/\NF ((nrmR us).map absU)/\∀t v,Has ((nrmR us).map absU) t v↔Has (us.map absU) t v:=by
 have hU:∀u∈us,UIn u:=fun u hu=>⟨hk u hu⟩
 have h:=Zf3 (us:=us) ⟨hU,fun u hu=>ho u hu⟩ hp
 exact⟨.inr ⟨hl,Zmu ho hp⟩,hU,h.1,h.2⟩
structure MrP (K:Nat)(a:List PU)(d:List Za):Prop where
 kK:K<=B28
 nf:NF (a.map absQ)
 k:∀u∈a,IvOk K u.In
 n:a.length<=512
 s:Sep d
 kd:∀i∈d,IvOk K i
 nd:d.length<=64
structure MrL (K:Nat)(a:List PU)(d:List Za)(r:List PU)(Y:List UL):Prop where
 nr:NrP (rsO (mpN toU a a.length) d (mpN toU a a.length).length)
 u:∀u∈rsO (mpN toU a a.length) d (mpN toU a a.length).length,UIn u
 nfY:NF (Y.map absU)
 nf:NF (r.map absQ)
 has:∀z x,Has (r.map absQ) z x↔Has (a.map absQ) z x/\HoldP d z
 k:∀u∈r,IvOk K u.In
 kY:∀u∈Y,IvOk K u.In
 p:∀Pr:Rl->Prop,(∀u∈a,Pr u.In.From/\Pr u.In.To)->(∀i∈d,Pr i.From/\Pr i.To)->∀u∈r,Pr u.In.From/\Pr u.In.To
theorem Zmr {K:Nat}{a:List PU}{d:List Za}(h:MrP K a d):MrL K a d (mrR a d) (nrmR (rsO (mpN toU a a.length) d (mpN toU a a.length).length)):=by
 have hA:=Z5 toU a
 have hKN:K<=KN:=Wi h.kK (by decide)
 have hn:=h.n
 have hnd:=h.nd
 have hmem:∀{x:UL},x∈rsO (a.map toU) d (a.map toU).length↔∃u∈a,∃i∈d,okI (mt u.In i)/\(⟨mt u.In i,u.Label⟩:UL)=x:=by
  intro x
  rw[ZrN]
  constructor
  ·rintro⟨u,hu,i,hi,ho,rfl⟩
   obtain⟨w,hw,rfl⟩:=List.mem_map.1 hu
   exact⟨w,hw,i,hi,ho,rfl⟩
  ·rintro⟨w,hw,i,hi,ho,rfl⟩
   exact⟨toU w,List.mem_map_of_mem hw,i,hi,ho,rfl⟩
 have hck:∀u∈rsO (a.map toU) d (a.map toU).length,IvOk K u.In:=fun u hu=>by
  obtain⟨w,hw,i,hi,_,rfl⟩:=hmem.1 hu
  exact Zqy (h.k w hw) (h.kd i hi)
 have hco:∀u∈rsO (a.map toU) d (a.map toU).length,okI u.In:=fun u hu=>by
  obtain⟨w,hw,i,hi,ho,rfl⟩:=hmem.1 hu
  exact ho
 have hpw:PwU (rsO (a.map toU) d (a.map toU).length):=Ztu (pwT (pwQ h.nf)) h.s.bf
 have hl:(rsO (a.map toU) d (a.map toU).length).length<=65536:=by
  have h1:=Zdv (a.map toU) d (a.map toU).length
  rw[Ws] at h1
  have h2:a.length*d.length<=512*64:=Nat.mul_le_mul hn hnd
  rw[Ws]
  omega
 obtain⟨r1,r2,r3,r4⟩:=Zh5 (fun u hu=>(hck u hu).mono hKN) hco hpw hl
 have hq:(mrR a d).map absQ=(nrmR (rsO (a.map toU) d (a.map toU).length)).map absU:=by
  unfold mrR
  rw[hA,ZeD]
 have hP:∀Pr:Rl->Prop,(∀u∈a,Pr u.In.From/\Pr u.In.To)->(∀i∈d,Pr i.From/\Pr i.To)->∀u∈nrmR (rsO (a.map toU) d (a.map toU).length),PrU Pr u:=fun Pr p1 p2=>ZnA fun x hx=>by
  obtain⟨w,hw,i,hi,_,rfl⟩:=hmem.1 hx
  exact Zyz (p1 w hw) (p2 i hi)
 have hr:∀{u:PU},u∈mrR a d->toU u∈nrmR (rsO (a.map toU) d (a.map toU).length):=by
  intro u hu
  unfold mrR at hu
  rw[hA,Z5] at hu
  obtain⟨w,hw,rfl⟩:=List.mem_map.1 hu
  exact hw
 have hkY:∀u∈nrmR (rsO (a.map toU) d (a.map toU).length),IvOk K u.In:=fun u hu=>by
  have:=hP (RlB K) (fun u hu=>⟨(h.k u hu).a,(h.k u hu).b⟩) (fun i hi=>⟨(h.kd i hi).a,(h.kd i hi).b⟩) u hu
  exact⟨this.1,this.2⟩
 rw[hA]
 refine⟨by rw[hA];exact r1,by rw[hA];exact r2,r3,by rw[hq];exact r3,fun z x=>?_,fun u hu=>hkY _ (hr hu),hkY,fun Pr p1 p2 u hu=>hP Pr p1 p2 _ (hr hu)⟩
 rw[hq,r4]
 constructor
 ·rintro⟨y,hy,h1,h2⟩
  obtain⟨u,hu,rfl⟩:=List.mem_map.1 hy
  obtain⟨w,hw,i,hi,_,rfl⟩:=hmem.1 hu
  obtain⟨m1,m2⟩:=(Zna _ _ z).1 h1
  exact⟨⟨absQ w,List.mem_map_of_mem hw,m1,h2⟩,⟨i,hi,m2⟩⟩
 ·rintro⟨⟨y,hy,h1,h2⟩,i,hi,m2⟩
  obtain⟨w,hw,rfl⟩:=List.mem_map.1 hy
  have hm:memI (mt w.In i) z:=(Zna _ _ z).2 ⟨h1,m2⟩
  exact⟨absU ⟨mt w.In i,w.Label⟩,List.mem_map_of_mem (hmem.2 ⟨w,hw,i,hi,ZrD hm,rfl⟩),hm,h2⟩
structure LbE (E:List Rl)(l:List PU):Prop where
 nf:NF (l.map absQ)
 k:∀u∈l,IvOk 3 u.In
 e:∀u∈l,u.In.From∈E/\u.In.To∈E
theorem LbE.len {E:List Rl}{l:List PU}(h:LbE E l):l.length<=2*E.length:=Zqs h.nf (fun u hu=>(h.k u hu).cn) fun u hu=>(h.e u hu).1
theorem ZcI {l:List PU}{i:Za}:i∈pIv l↔∃u∈l,u.In=i:=by
 rw[Zn7]
 unfold inL
 rw[Z5]
 exact List.mem_map
theorem Zfg {E:List Rl}{l:List PU}(h:LbE E l):Sep (pDom l)/\(∀z,HoldP (pDom l) z↔∃x,Has (l.map absQ) z x)/\(∀i∈pDom l,IvOk 3 i)/\(∀i∈pDom l,i.From∈E/\i.To∈E)/\(pDom l).length<=2*E.length:=by
 have ho:∀i∈pIv l,okI i:=fun i hi=>by
  obtain⟨u,hu,rfl⟩:=ZcI.1 hi
  exact h.nf.ok _ (List.mem_map_of_mem hu)
 obtain⟨h1,h2⟩:=ZpZ ho
 have hk:∀i∈pDom l,IvOk 3 i:=Zj4 kpU (fun i hi=>by obtain⟨u,hu,rfl⟩:=ZcI.1 hi;exact h.k u hu) (fun i hi=>by cases hi)
 have he:∀i∈pDom l,i.From∈E/\i.To∈E:=fun i hi=>by
  have:=Zet (Pb:=fun x=>x.at_∈E) kpU (is:=pIv l) (js:=[]) (fun i hi=>by obtain⟨u,hu,rfl⟩:=ZcI.1 hi;exact h.e u hu) (fun i hi=>by cases hi) i hi
  exact⟨this.1,this.2⟩
 refine⟨h1,fun z=>?_,hk,he,ZdS h1.bf (fun i hi=>Zbj.2 (h1.v i hi)) (fun i hi=>ZfC (hk i hi)) fun i hi=>(he i hi).1⟩
 rw[show HoldP (pDom l) z↔HoldP (pIv l) z from h2 z]
 constructor
 ·rintro⟨i,hi,hm⟩
  obtain⟨u,hu,rfl⟩:=ZcI.1 hi
  exact⟨u.Label,absQ u,List.mem_map_of_mem hu,hm,rfl⟩
 ·rintro⟨x,y,hy,hm,_⟩
  obtain⟨u,hu,rfl⟩:=List.mem_map.1 hy
  exact⟨u.In,ZcI.2 ⟨u,hu,rfl⟩,hm⟩
structure MpL (a b:List PU):Prop where
 s1:SwOk (pIv a) []
 s2:SwOk (pIv b) []
 s3:SwOk (pDom a) (pDom b)
 la:a.length<=64
 lb:b.length<=64
 lm:(mpM a b).length<=64
 km:∀i∈mpM a b,IvOk 3 i
 r:MrL 3 a (mpM a b) (mrR a (mpM a b)) (mpY a b)
 ly:(mpY a b).length<=12288
 n:NrP (mpY a b++mpN toU b b.length)
 u:∀u∈mpY a b++mpN toU b b.length,UIn u
 nf:NF ((mpR a b).map absQ)
 has:∀z x,Has ((mpR a b).map absQ) z x↔Has (b.map absQ) z x\/(Has (a.map absQ) z x/\¬∃y,Has (b.map absQ) z y)
 k:∀u∈mpR a b,IvOk 3 u.In
 len:(mpR a b).length<=37056
theorem ZkT {E:List Rl}{a b:List PU}(hE:E.length<=32)(ha:LbE E a)(hb:LbE E b):MpL a b:=by
 have la:=ha.len
 have lb:=hb.len
 obtain⟨a1,a2,a3,a4,a5⟩:=Zfg ha
 obtain⟨b1,b2,b3,b4,b5⟩:=Zfg hb
 obtain⟨m1,m2⟩:=ZoL (fun i hi=>Zbj.2 (a1.v i hi)) (fun i hi=>Zbj.2 (b1.v i hi))
 have hm1:Sep (mpM a b):=m1
 have hm2:∀z,HoldP (mpM a b) z↔(∃x,Has (a.map absQ) z x)/\¬∃x,Has (b.map absQ) z x:=fun z=>by rw[<-a2,<-b2];exact m2 z
 have hk:∀i∈mpM a b,IvOk 3 i:=Zj4 kpM a3 b3
 have he:∀i∈mpM a b,i.From∈E:=fun i hi=>(Zet (Pb:=fun x=>x.at_∈E) kpM (is:=pDom a) (js:=pDom b) (fun i hi=>a4 i hi) (fun i hi=>b4 i hi) i hi).1
 have hl:(mpM a b).length<=64:=by
  have:=ZdS hm1.bf (fun i hi=>Zbj.2 (hm1.v i hi)) (fun i hi=>ZfC (hk i hi)) he
  omega
 have hr:=Zmr (K:=3) (a:=a) (d:=mpM a b) ⟨by decide,ha.nf,ha.k,by omega,hm1,hk,hl⟩
 have hB:=Z5 toU b
 have hly:(mpY a b).length<=12288:=by
  have h1:=ZdT (rsO (mpN toU a a.length) (mpM a b) (mpN toU a a.length).length)
  have h2:=Zdv (mpN toU a a.length) (mpM a b) (mpN toU a a.length).length
  rw[ZJ] at h2
  have h3:a.length*(mpM a b).length<=64*64:=Nat.mul_le_mul (by omega) hl
  rw[ZJ] at h1
  unfold mpY
  rw[ZJ]
  omega
 have hqY:(mrR a (mpM a b)).map absQ=(mpY a b).map absU:=by
  unfold mrR mpY
  rw[ZeD]
 have hkB:∀u∈b.map toU,IvOk 3 u.In:=fun u hu=>by obtain⟨w,hw,rfl⟩:=List.mem_map.1 hu;exact hb.k w hw
 have heB:(b.map toU).map absU=b.map absQ:=by rw[List.map_map];rfl
 have hd:((mpY a b++b.map toU).map absU).Pairwise Dis:=by
  rw[List.map_append,List.pairwise_append]
  refine⟨hr.nfY.pw.imp fun e=>e.bf.Dis,by rw[heB];exact hb.nf.pw.imp fun e=>e.bf.Dis,fun u hu w hw z hz=>?_⟩
  rw[<-hqY] at hu
  rw[heB] at hw
  have h1:=((hr.has z u.f).1 ⟨u,hu,hz.1,rfl⟩).2
  exact((hm2 z).1 h1).2 ⟨w.f,w,hw,hz.2,rfl⟩
 have hco:∀u∈mpY a b++b.map toU,okI u.In:=fun u hu=>by
  rcases List.mem_append.1 hu with h1|h1
  ·exact hr.nfY.ok _ (List.mem_map_of_mem h1)
  ·obtain⟨w,hw,rfl⟩:=List.mem_map.1 h1
   exact hb.nf.ok _ (List.mem_map_of_mem hw)
 have hck:∀u∈mpY a b++b.map toU,IvOk 3 u.In:=fun u hu=>by
  rcases List.mem_append.1 hu with h1|h1
  ·exact hr.kY u h1
  ·exact hkB u h1
 obtain⟨r1,r2,r3,r4⟩:=ZpT (fun u hu=>(hck u hu).mono (by decide)) hco hd (by rw[Wp,Ws];omega)
 have hq:(mpR a b).map absQ=(nrmR (mpY a b++b.map toU)).map absU:=by
  unfold mpR
  rw[hB,ZeD]
 have hsw:∀{l m:List Za},(∀i∈l,IvOk 3 i)->(∀i∈m,IvOk 3 i)->l.length+m.length<=32768->SwOk l m:=fun h1 h2 h3=>SwOk.of (K:=3) (by decide) h3 h1 h2
 have hpl:∀l:List PU,(pIv l).length=l.length:=fun l=>by rw[Zn7];unfold inL;exact ZJ _ _ _
 have hpk:∀{l:List PU},(∀u∈l,IvOk 3 u.In)->∀i∈pIv l,IvOk 3 i:=fun h i hi=>by obtain⟨u,hu,rfl⟩:=ZcI.1 hi;exact h u hu
 refine⟨hsw (hpk ha.k) (fun i hi=>by cases hi) (by rw[hpl];simp only[Wx];omega),hsw (hpk hb.k) (fun i hi=>by cases hi) (by rw[hpl];simp only[Wx];omega),hsw a3 b3 (by omega),by omega,by omega,hl,hk,hr,hly,by rw[hB];exact r1,by rw[hB];exact r2,by rw[hq];exact r3,fun z x=>?_,fun u hu=>?_, ?_⟩
 ·rw[hq,r4,List.map_append]
  have hap:Has ((mpY a b).map absU++(b.map toU).map absU) z x↔Has ((mpY a b).map absU) z x\/Has ((b.map toU).map absU) z x:=by
   constructor
   ·rintro⟨u,hu,h1,h2⟩
    rcases List.mem_append.1 hu with h3|h3
    ·exact .inl ⟨u,h3,h1,h2⟩
    ·exact .inr ⟨u,h3,h1,h2⟩
   ·rintro(⟨u,hu,h1,h2⟩|⟨u,hu,h1,h2⟩)
    ·exact⟨u,List.mem_append_left _ hu,h1,h2⟩
    ·exact⟨u,List.mem_append_right _ hu,h1,h2⟩
  rw[hap,heB,<-hqY,hr.has,hm2]
  constructor
  ·rintro(⟨h1,_,h3⟩|h1)
   ·exact .inr ⟨h1,h3⟩
   ·exact .inl h1
  ·rintro(h1|⟨h1,h3⟩)
   ·exact .inr h1
   ·exact .inl ⟨h1,⟨x,h1⟩,h3⟩
 ·have h0:toU u∈nrmR (mpY a b++b.map toU):=by
   unfold mpR at hu
   rw[hB,Z5] at hu
   obtain⟨w,hw,rfl⟩:=List.mem_map.1 hu
   exact hw
  have:=ZnA (Pr:=RlB 3) (fun x hx=>⟨(hck x hx).a,(hck x hx).b⟩) _ h0
  exact⟨this.1,this.2⟩
 ·have h1:=ZdT (mpY a b++mpN toU b b.length)
  rw[Wp,ZJ] at h1
  unfold mpR
  rw[ZJ]
  omega
end
section
theorem ZsA (s:WS):Dsc (ivS s).From/\Dsc (ivS s).To:=by
 unfold ivS
 split
 ·exact⟨⟨_,rfl⟩,⟨_,rfl⟩⟩
 ·split <;> exact⟨⟨_,rfl⟩,⟨_,rfl⟩⟩
theorem Zka (l:List St):∀m,∀i∈inS l m,Dsc i.From/\Dsc i.To
 |0,i,hi=>by cases hi
 |m+1,i,hi=>by
  rw[inS,Wv,Wo] at hi
  rcases hi with hi|rfl
  ·exact Zka l m i hi
  ·exact ZsA _
theorem ZpN (l:List St):DscL (movV l):=fun u hu=>by
 have h1:∀i∈insV l,Dsc i.From/\Dsc i.To:=Zka l _
 have h2:∀i∈celV l,Dsc i.From/\Dsc i.To:=ZfX (Zb0 h1) (ZeU h1)
 exact Zhl (Pr:=Dsc) (fun u hu=>h2 _ (ZeJ u hu)) _ (Wl _) u hu
theorem ZkA {l:List St}{ins cs:List Za}:∀i,∀u∈mvS l ins cs i,Lb u.Label
 |0,u,hu=>by cases hu
 |i+1,u,hu=>by
  have ih:=ZkA (l:=l) (ins:=ins) (cs:=cs) i
  rw[mvS] at hu
  unfold mv1 at hu
  split at hu
  ·rename_i k _
   rw[Wv,Wo] at hu
   rcases hu with hu|rfl
   ·exact ih u hu
   ·show-1000<=(gi l (k:Int)).Label % 5/\(gi l (k:Int)).Label % 5<=1000
    omega
  ·exact ih u hu
theorem Zkp {l:List PU}(h:∀u∈l,Lb u.Label):∀i,i<=l.length->∀u∈jnL l i,Lb u.Label
 |0,_,u,hu=>by cases hu
 |i+1,hi,u,hu=>by
  have ih:=Zkp h i (by omega)
  have h1:=h (gi l (i:Int)) (Zu (by omega))
  rw[jnL] at hu
  unfold jn1 at hu
  split at hu
  ·rename_i hc
   rcases List.mem_or_eq_of_mem_set hu with hu|rfl
   ·exact ih u hu
   ·exact ih (lstP (jnL l i)) (Zu (by omega))
  ·rw[Wv,Wo] at hu
   rcases hu with hu|rfl
   ·exact ih u hu
   ·exact h1
theorem Zsv {l:List St}(hk:∀x∈l,StOk x):MvP (movV l):=⟨Zrg hk,ZpN l,Zkp (ZkA _) _ (Wl _)⟩
end
end Go.Vt
namespace Go.Vt
def nwS (a x:Nat):Nat:=(x+a / x) / 2
theorem Zwb {d x s:Nat}(h:d+x=2*s):d*x<=s*s:=by
 rcases Nat.le_total d s with h1|h1
 ·obtain⟨k,rfl⟩:=Nat.le.dest h1
  obtain rfl:x=d+2*k:=by omega
  rw[Nat.mul_add,Nat.add_mul,Nat.mul_add,Nat.mul_add]
  have:=Wm (k*k)
  have e:d*(2*k)=d*k+k*d:=by rw[Nat.mul_comm k d,<-Nat.mul_two,Nat.mul_comm 2 k,Nat.mul_assoc]
  omega
 ·obtain⟨k,rfl⟩:∃k,d=s+k:=(Nat.le.dest h1).imp fun _ h=>h.symm
  obtain⟨m,rfl⟩:∃m,s=x+m:=(Nat.le.dest (show x<=s by omega)).imp fun _ h=>h.symm
  obtain rfl:k=m:=by omega
  have e1:(x+k+k)*x=x*x+k*x+k*x:=by rw[Nat.add_mul,Nat.add_mul]
  have e2:(x+k)*(x+k)=x*x+k*x+(x*k+k*k):=by rw[Nat.add_mul,Nat.mul_add,Nat.mul_add,Nat.mul_comm k x];try omega
  have e:x*k=k*x:=Nat.mul_comm _ _
  have:=Wm (k*k)
  omega
theorem ZtT {a x s:Nat}(hx:0<x)(h:s*s<=a):s<=nwS a x:=by
 unfold nwS
 rw[Nat.le_div_iff_mul_le (by decide)]
 have hq:∀d,d*x<=a->d<=a / x:=fun d=>(Nat.le_div_iff_mul_le hx).2
 generalize a / x=q at*
 rcases Nat.le_total (2*s) x with h1|h1
 ·omega
 ·obtain⟨d,hd⟩:=Nat.le.dest h1
  have h2:d*x<=s*s:=Zwb (by omega)
  have h3:=hq d (Wi h2 h)
  omega
theorem Ztf {a x s:Nat}(h:a<(s+1)*(s+1))(hx:s<x):nwS a x<x:=by
 unfold nwS
 have h1:a<x*x:=Nat.lt_of_lt_of_le h (Nat.mul_le_mul hx hx)
 have h2:a / x<x:=(Nat.div_lt_iff_lt_mul (by omega)).2 h1
 generalize a / x=q at*
 omega
theorem Zrx {a x s:Nat}(h1:s*s<=a)(h2:a<(s+1)*(s+1))(h3:s<=x)(hx:0<x)(h:x<=nwS a x):x=s:=by
 rcases Nat.lt_or_ge s x with h4|h4
 ·have:=Ztf h2 h4;omega
 ·omega
theorem Zgg :∀a:Nat,∃s,s*s<=a/\a<(s+1)*(s+1)
 |0=>⟨0,by decide,by decide⟩
 |a+1=>by
  obtain⟨s,h1,h2⟩:=Zgg a
  rcases Nat.lt_or_ge (a+1) ((s+1)*(s+1)) with h|h
  ·exact⟨s,by omega,h⟩
  ·refine⟨s+1,by omega, ?_⟩
   have e:(s+1+1)*(s+1+1)=(s+1)*(s+1)+2*(s+1)+1:=by
    rw[Nat.add_mul (s+1) 1,Nat.mul_add (s+1) (s+1) 1]
    omega
   omega
noncomputable def isq (a:Nat):Nat:=(Zgg a).choose
theorem Zck (a:Nat):isq a*isq a<=a/\a<(isq a+1)*(isq a+1):=(Zgg a).choose_spec
theorem Zp7 {a s:Nat}(h1:s*s<=a)(h2:a<(s+1)*(s+1)):s=isq a:=by
 obtain⟨k1,k2⟩:=Zck a
 rcases Nat.lt_trichotomy s (isq a) with h|h|h
 ·have:=Nat.mul_le_mul (show s+1<=isq a from h) (show s+1<=isq a from h)
  omega
 ·exact h
 ·have:=Nat.mul_le_mul (show isq a+1<=s from h) (show isq a+1<=s from h)
  omega
end Go.Vt
namespace Go.Vt
theorem ZgN {m:Nat}(hm:m≠0):∀q,le (256 ^ q*m)=List.replicate q 0++le m
 |0=>by simp
 |q+1=>by
  have h0:256 ^ (q+1)*m=256*(256 ^ q*m):=by rw[Nat.pow_succ,Nat.mul_comm (256 ^ q) 256,Nat.mul_assoc]
  have hp:256 ^ q*m≠0:=Nat.mul_ne_zero (by have:=Nat.pow_pos (n:=q) (show 0<256 by decide);omega) hm
  generalize hx:256 ^ q*m=x at*
  have ih:=ZgN hm q
  rw[hx] at ih
  rw[h0,Za2 (by omega),show 256*x / 256=x by omega,show 256*x % 256=0 by omega,ih]
  rfl
theorem Zss {m:Nat}(h:0<m)(h1:m<256):le m=[UInt8.ofNat m]:=by
 rw[Za2 (by omega),show m / 256=0 by omega,show m % 256=m by omega]
 rfl
theorem ZkB (n:Nat):mag (2 ^ n)=⟨(UInt8.ofNat (2 ^ (n % 8))::List.replicate (n / 8) 0).toArray⟩:=by
 have h8:2 ^ (n % 8)<256:=by
  have:n % 8<8:=Nat.mod_lt _ (by decide)
  exact Nat.lt_of_lt_of_le (Nat.pow_lt_pow_right (by decide) this) (by decide)
 have h0:0<2 ^ (n % 8):=Nat.pow_pos (by decide)
 have e:2 ^ n=256 ^ (n / 8)*2 ^ (n % 8):=by
  rw[show(256:Nat)=2 ^ 8 by rfl,<-Nat.pow_mul,<-Nat.pow_add,Nat.div_add_mod]
 unfold mag
 rw[e,ZgN (by omega),Zss h0 h8,List.reverse_append,List.reverse_replicate]
 rfl
theorem ZlD {a:Nat}{t:UInt8}(ht:(mag a)[0]? =some t):1<=Lib.bitLen t.toNat/\Lib.bitLen t.toNat<=8/\a<2 ^ (8*((mag a).size-1)+Lib.bitLen t.toNat):=by
 have hd:(le a).reverse[0]? =some t:=by
  rw[<-ht]
  unfold mag
  cases h:(le a).reverse with
  |nil=>rfl
  |cons x l=>rfl
 have hl:(le a).getLast? =some t:=by
  rw[<-List.head?_reverse,List.head?_eq_getElem?]
  exact hd
 have hne:le a≠[]:=fun h=>by rw[h] at hl;cases hl
 obtain⟨l,hle⟩:∃l,le a=l++[t]:=⟨(le a).dropLast,by
  rw[List.getLast?_eq_some_getLast hne,Option.some.injEq] at hl
  rw[<-hl,List.dropLast_concat_getLast]⟩
 have hv:=Zf0 a
 rw[hle,ZcE] at hv
 have h1:=Zdx l
 have htop:t≠0:=ZmS a t hl
 have ht0:t.toNat≠0:=fun h=>htop (UInt8.toNat_inj.1 h)
 have ht1:=UInt8.toNat_lt t
 obtain⟨b1,b2,b3⟩:=Zco (x:=t.toNat) (by omega) ht0
 have hs:(mag a).size-1=l.length:=by rw[ZbP,hle,Wp];rfl
 refine⟨b1,Lib.bitLen_le8 ⟨t.toNat,ht1⟩, ?_⟩
 rw[hs,Nat.pow_add,Nat.pow_mul,show(2:Nat) ^ 8=256 by rfl]
 have h2:256 ^ l.length*(t.toNat+1)<=256 ^ l.length*2 ^ Lib.bitLen t.toNat:=Nat.mul_le_mul_left _ b3
 rw[Nat.mul_add,Nat.mul_one] at h2
 have h3:vle [t]=t.toNat:=by simp[vle]
 rw[h3] at hv
 omega
theorem Zs3 (a:Nat):isq a=rtN a:=(Zp7 (Zdt a).1 (Zdt a).2).symm
theorem Ztb {a n k:Nat}(h:a<2 ^ n)(hn:n<=2*k):isq a<2 ^ k:=by
 have h1:=(Zck a).1
 have h2:2 ^ n<=2 ^ k*2 ^ k:=by
  rw[<-Nat.pow_add]
  exact Nat.pow_le_pow_right (by decide) (by omega)
 rcases Nat.lt_or_ge (isq a) (2 ^ k) with h3|h3
 ·exact h3
 ·have:=Nat.mul_le_mul h3 h3
  omega
end Go.Vt
/-
 DERIVED: THE SHELF's CONTRACTS AT THIS DUMP, IN PLAIN WORDS (tools/lay-plain.mjs out of 'YtcgkgdgpdpihmaaGreatDoorLayRp.lean', which tools/lay-shelf.mjs wrote): THE SAME DECLARATIONS UNDER THE SAME NAMES: 'import', 'namespace', 'open', 'def', 'theorem' AND NOTHING ELSE: no command of the shelf's: FOR A HAND-IN. Each laying: the table of numbers ('.._ren') and one theorem, a field a fact of the dump's own or the kernel's comparison; each contract: ONE APPLICATION.
-/
namespace Go.Proofs
open Go.Shelf
def Tryz.lRp_ren :Go.Shelf.Ren:=⟨fun|105=>252|212=>260|99=>261|165=>262|166=>263|170=>264|169=>265|263=>269|264=>229|206=>270|240=>271|241=>272|276=>275|277=>276|n=>n,fun|9=>9|3=>3|4=>4|20=>20|0=>0|46=>189|109=>297|5=>5|72=>302|76=>306|51=>230|146=>313|53=>232|148=>263|70=>300|37=>236|75=>305|127=>315|164=>317|80=>268|n=>n,fun|n=>n⟩
theorem Tryz.lRp :Go.Proofs.Lays.n105 Tryz.prog Tryz.lRp_ren:={
 mixed:=by kernel_rfl
 f99:=Tryz.func261.trans (congrArg some (by kernel_rfl))
 f105:=Tryz.func252.trans (congrArg some (by kernel_rfl))
 f165:=Tryz.func262.trans (congrArg some (by kernel_rfl))
 f166:=Tryz.func263.trans (congrArg some (by kernel_rfl))
 f169:=Tryz.func265.trans (congrArg some (by kernel_rfl))
 f170:=Tryz.func264.trans (congrArg some (by kernel_rfl))
 f206:=Tryz.func270.trans (congrArg some (by kernel_rfl))
 f212:=Tryz.func260.trans (congrArg some (by kernel_rfl))
 f240:=Tryz.func271.trans (congrArg some (by kernel_rfl))
 f241:=Tryz.func272.trans (congrArg some (by kernel_rfl))
 f263:=Tryz.func269.trans (congrArg some (by kernel_rfl))
 f264:=Tryz.func229.trans (congrArg some (by kernel_rfl))
 f276:=Tryz.func275.trans (congrArg some (by kernel_rfl))
 f277:=Tryz.func276.trans (congrArg some (by kernel_rfl))
 t0:=Tryz.underlying0
 a0:=Tryz.isAgg0
 z0:=Tryz.sizeOf0
 v0:=Tryz.zeroValue0
 t3:=Tryz.underlying3
 a3:=Tryz.isAgg3
 z3:=Tryz.sizeOf3
 v3:=Tryz.zeroValue3
 t4:=Tryz.underlying4
 a4:=Tryz.isAgg4
 z4:=Tryz.sizeOf4
 v4:=Tryz.zeroValue4
 t5:=Tryz.underlying5
 a5:=Tryz.isAgg5
 z5:=Tryz.sizeOf5
 v5:=Tryz.zeroValue5
 t9:=Tryz.underlying9
 a9:=Tryz.isAgg9
 z9:=Tryz.sizeOf9
 v9:=Tryz.zeroValue9
 t20:=Tryz.underlying20
 a20:=Tryz.isAgg20
 z20:=Tryz.sizeOf20
 v20:=Tryz.zeroValue20
 t37:=Tryz.underlying236
 a37:=Tryz.isAgg236
 z37:=Tryz.sizeOf236
 v37:=Tryz.zeroValue236
 t46:=Tryz.underlying189
 a46:=Tryz.isAgg189
 z46:=Tryz.sizeOf189
 v46:=Tryz.zeroValue189
 t51:=Tryz.underlying230
 a51:=Tryz.isAgg230
 z51:=Tryz.sizeOf230
 v51:=Tryz.zeroValue230
 t53:=Tryz.underlying232
 a53:=Tryz.isAgg232
 z53:=Tryz.sizeOf232
 v53:=Tryz.zeroValue232
 t70:=Tryz.underlying300
 a70:=Tryz.isAgg300
 z70:=Tryz.sizeOf300
 v70:=Tryz.zeroValue300
 t72:=Tryz.underlying302
 a72:=Tryz.isAgg302
 z72:=Tryz.sizeOf302
 v72:=Tryz.zeroValue302
 t75:=Tryz.underlying305
 a75:=Tryz.isAgg305
 z75:=Tryz.sizeOf305
 v75:=Tryz.zeroValue305
 t76:=Tryz.underlying306
 a76:=Tryz.isAgg306
 z76:=Tryz.sizeOf306
 v76:=Tryz.zeroValue306
 t109:=Tryz.underlying297
 a109:=Tryz.isAgg297
 z109:=Tryz.sizeOf297
 v109:=Tryz.zeroValue297
 t127:=Tryz.underlying315
 a127:=Tryz.isAgg315
 z127:=Tryz.sizeOf315
 v127:=Tryz.zeroValue315
 t146:=Tryz.underlying313
 a146:=Tryz.isAgg313
 z146:=Tryz.sizeOf313
 v146:=Tryz.zeroValue313
 t148:=Tryz.underlying263
 a148:=Tryz.isAgg263
 z148:=Tryz.sizeOf263
 v148:=Tryz.zeroValue263
 t164:=Tryz.underlying317
 a164:=Tryz.isAgg317
 z164:=Tryz.sizeOf317
 v164:=Tryz.zeroValue317}
end Go.Proofs
namespace Go.Vt
open Go.RowKit Go.Proofs
theorem rpExtra :Builder.Extra Tryz.prog Tryz.lRp_ren where
 sizeBuilder:=by kernel_rfl
 liesBuilder:=by kernel_rfl
 t5:=by kernel_rfl
 a5:=fun w=>by kernel_rfl
 z5:=fun w=>by kernel_rfl
 v5:=fun w=>by kernel_rfl
 infoByte:=by kernel_rfl
 cellsByte:=by kernel_rfl
 sizeByte:=by kernel_rfl
 neB5:=by decide
theorem Zi5 (s:ByteArray)(c:Nat)(w:World)(hc:c<=9223372036854775807)(hlen:s.size*c<=140737488355328):
  Calls Tryz.prog 252 #[.string s, .int .i64 c] w fun e w'=>e= .returned (.string ⟨(Lib.repeatL s.data.toList c).toArray⟩)/\Below w.heap.size w w':=Any.strings_Repeat Tryz.lRp rpExtra s c w hc hlen
end Go.Vt
