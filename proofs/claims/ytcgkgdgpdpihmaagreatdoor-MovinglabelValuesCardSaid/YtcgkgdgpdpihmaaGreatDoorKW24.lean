/- For any moving label, any instant and any label, At, Domain and When return its values; Labels returns all labels, whose periods are disjoint and together the domain. Conditions: none. (part 24 of 27.) Conditions: those that each statement names. -/
import Derived.Shelf.SortM.Plain
import Derived.Shelf.SortM.SortNone
import Derived.Ground.SlgmProg
import Derived.Test.YtcgkgdgpdpihmaaGreatDoorProg
import Derived.Test.YtcgkgdgpdpihmaaGreatDoorKW9
import Derived.Test.YtcgkgdgpdpihmaaGreatDoorKW19
import Derived.Test.YtcgkgdgpdpihmaaGreatDoorKW20
import Derived.Test.YtcgkgdgpdpihmaaGreatDoorKW21
import Derived.Test.YtcgkgdgpdpihmaaGreatDoorKW23
set_option linter.unusedSimpArgs false
set_option linter.unusedVariables false
set_option maxHeartbeats 2000000
set_option maxRecDepth 100000
namespace Go.Vt
open Go.RowKit Go.Proofs
open Go.Proofs.Tryz (prog)
noncomputable def absQ (u:PU):GU Ri Int:=⟨ri u.In.From,ri u.In.To,u.In.OpenFrom,u.In.OpenTo,u.Label⟩
theorem hvaL (f g:Int)(t:Ri):Fv.va f t=Fv.va g t↔f=g:=Iff.rfl
theorem hrdL (f:Int)(t:Ri):Fv.red f t=f:=rfl
def bfI (i j:Za):Prop:=ri i.To<ri j.From\/(ri i.To=ri j.From/\(i.OpenTo=true\/j.OpenFrom=true))
theorem ZiR {a u:PU}{K K':Nat}(ha:IvOk K a.In)(hu:IvOk K' u.In):jnB a u=true↔jnBG (absQ a) (absQ u):=by
 have e:=Zb4 ha.b.o hu.a.o
 unfold jnB jnBG absQ
 dsimp only
 rw[Wq,Wq,decide_eq_true_eq,decide_eq_true_eq,e,Bool.not_eq_true',<-Bool.not_eq_true,Wq]
theorem ZlA (ys:List PU)(a:PU):lstP (ys++[a])=a:=by
 unfold lstP
 rw[Za3 (by simp only[Wp,List.length_singleton];omega)]
 simp only[Wp,List.length_singleton]
 rw[List.getElem_append_right (by omega)]
 simp
theorem Zl7 (ys:List PU)(a x:PU):(ys++[a]).set (((ys++[a]).length:Int)-1).toNat x=ys++[x]:=by
 simp
theorem ZoB {l:List PU}{K:Nat}(hk:∀u∈l,IvOk K u.In)(hv:∀u∈l,okI u.In)(hp:l.Pairwise (fun u w=>bfI u.In w.In)):∀i,i<=l.length->JnI ((l.take i).map absQ) ((jnL l i).map absQ)/\∀u∈jnL l i,IvOk K u.In
 |0,_=>⟨JnI.nil,(fun u hu=>by cases hu)⟩
 |i+1,hi=>by
  obtain⟨ih,ihk⟩:=ZoB hk hv hp i (by omega)
  have hg:=Zo (xs:=l) (i:=i) (by omega)
  have hm:gi l (i:Int)∈l:=Zy (by omega)
  have huk:=hk _ hm
  have huo:(absQ (gi l (i:Int))).ok:=hv _ hm
  have hb:∀w∈(l.take i).map absQ,w.bfr (absQ (gi l (i:Int))):=fun w hw=>by
   obtain⟨x,hx,rfl⟩:=List.mem_map.1 hw
   obtain⟨j,hj,rfl⟩:=List.mem_take_iff_getElem.1 hx
   rw[hg]
   exact List.pairwise_iff_getElem.1 hp j i (by omega) (by omega) (by omega)
  rw[Wn (by omega),List.map_append,jnL,<-hg]
  generalize gi l (i:Int)=u at*
  generalize jnL l i=out at*
  rcases ZaJ out with rfl|⟨ys,a,rfl⟩
  ·have e:jn1 [] u=[u]:=by unfold jn1;rw[if_neg (fun h=>by simp at h)];rfl
   rw[e]
   exact⟨ih.app hvaL hrdL huo hb (fun ys a h=>by simp at h),fun x hx=>by rw[Wo] at hx;rw[hx];exact huk⟩
  ·have hka:=ihk a (by simp)
   unfold jn1
   rw[ZlA]
   by_cases c:jnB a u=true
   ·rw[if_pos ⟨by simp,c⟩,Zl7,List.map_append]
    refine⟨ih.mrg hvaL hrdL huo hb (ys:=ys.map absQ) (a:=absQ a) (by simp) ((ZiR hka huk).1 c),fun x hx=>?_⟩
    rcases List.mem_append.1 hx with h1|h1
    ·exact ihk x (List.mem_append_left _ h1)
    ·rw[Wo] at h1
     rw[h1]
     exact⟨hka.a,huk.b⟩
   ·rw[if_neg (fun h=>c h.2),List.map_append]
    refine⟨ih.app hvaL hrdL huo hb (fun zs b h=>?_),fun x hx=>?_⟩
    ·rw[List.map_append] at h
     obtain⟨_,h2⟩:=Za6 h
     rw[<-h2]
     exact fun k=>c ((ZiR hka huk).2 k)
    ·rcases List.mem_append.1 hx with h1|h1
     ·exact ihk x h1
     ·rw[Wo] at h1;rw[h1];exact huk
structure CelB (p:List Za)(c:List Rl)(k:Nat):Prop where
 pw:(celS p c k).Pairwise bfI
 ok:∀i∈celS p c k,okI i
 up:k<c.length->∀i∈celS p c k,ri i.To<ri (gi c (k:Int))\/(ri i.To=ri (gi c (k:Int))/\i.OpenTo=true)
theorem ZiC {p:List Za}{n:Nat}{c:List Rl}(h:SrR n c):∀k,k<=c.length->CelB p c k
 |0,_=>⟨.nil,(fun i hi=>by cases hi),fun _ i hi=>by cases hi⟩
 |k+1,hk=>by
  have ih:=ZiC (p:=p) h k (by omega)
  have hup:=ih.up (by omega)
  have hI:(celI p c k (celS p c k)).Pairwise bfI/\(∀i∈celI p c k (celS p c k),okI i)/\∀i∈celI p c k (celS p c k),ri i.To<=ri (gi c (k:Int)):=by
   unfold celI
   split
   ·refine⟨List.pairwise_append.2 ⟨ih.pw,List.pairwise_singleton _ _,fun i hi j hj=>?_⟩,fun i hi=>?_,fun i hi=>?_⟩
    ·rw[List.mem_singleton.1 hj]
     rcases hup i hi with h1|⟨h1,h2⟩
     ·exact .inl h1
     ·exact .inr ⟨h1, .inl h2⟩
    ·rcases List.mem_append.1 hi with h1|h1
     ·exact ih.ok i h1
     ·rw[List.mem_singleton.1 h1];exact .inr ⟨rfl,rfl,rfl⟩
    ·rcases List.mem_append.1 hi with h1|h1
     ·rcases hup i h1 with h2|h2 <;> grind
     ·rw[List.mem_singleton.1 h1];show ri (gi c (k:Int))<=ri (gi c (k:Int));grind
   ·exact⟨ih.pw,ih.ok,fun i hi=>by rcases hup i hi with h2|h2 <;> grind⟩
  obtain⟨h1,h2,h3⟩:=hI
  have e:celS p c (k+1)=celJ p c k (celI p c k (celS p c k)):=rfl
  have hlt:k+1<c.length->ri (gi c (k:Int))<ri (gi c ((k+1:Nat):Int)):=fun h4=>h.at (Nat.lt_succ_self k) h4
  refine⟨?_, ?_,fun h4=>?_⟩ <;> rw[e] <;> unfold celJ
  ·split
   ·rename_i hc
    refine List.pairwise_append.2 ⟨h1,List.pairwise_singleton _ _,fun i hi j hj=>?_⟩
    rw[List.mem_singleton.1 hj]
    have:=h3 i hi
    show ri i.To<ri (gi c (k:Int))\/(ri i.To=ri (gi c (k:Int))/\(i.OpenTo=true\/true=true))
    grind
   ·exact h1
  ·split
   ·rename_i hc
    intro i hi
    rcases List.mem_append.1 hi with h5|h5
    ·exact h2 i h5
    ·rw[List.mem_singleton.1 h5];exact .inl (hlt hc.1)
   ·exact h2
  ·have h6:=hlt h4
   split
   ·intro i hi
    rcases List.mem_append.1 hi with h5|h5
    ·have:=h3 i h5;exact .inl (by grind)
    ·rw[List.mem_singleton.1 h5];exact .inr ⟨rfl,rfl⟩
   ·intro i hi
    have:=h3 i hi
    exact .inl (by grind)
theorem Zjb {l:List St}{ins cs:List Za}:∀i,i<=cs.length->((mvS l ins cs i).map (·.In)).Sublist (cs.take i)
 |0,_=>Wk _
 |i+1,hi=>by
  have ih:=Zjb (l:=l) (ins:=ins) i (by omega:i<=cs.length)
  rw[mvS,Wn (by omega),<-Zo (by omega)]
  unfold mv1
  split
  ·rw[List.map_append]
   exact ih.append (Wj _)
  ·exact ih.trans (List.sublist_append_left _ _)
theorem ZoI {l:List St}(hk:∀x∈l,StOk x):(celV l).Pairwise bfI/\∀i∈celV l,okI i:=by
 have hil:=ZeD l
 have hio:=Zcr hk
 have hno:=Zju hk
 have p3:CelIn (nrmS (insV l)) (enR (insV l)):=by
  have h1:=ZbW (insV l)
  have h2:=Zc8 (insV l)
  exact⟨by omega,by omega,fun i hi=>(hno i hi).mono (by decide),(Zc9 (fun i hi=>(hio i hi).mono (by decide))).b⟩
 have:=ZiC (p:=nrmS (insV l)) (ZjB p3) _ (Wl _)
 exact⟨this.pw,this.ok⟩
theorem Zi8 {l:List St}:∀u∈movU l,u.In∈celV l:=fun u hu=>Zd0 _ (Wl _) u hu
structure NfP (l:List PU):Prop where
 nf:NF (l.map absQ)
 k:∀u∈l,IvOk 3 u.In
 len:l.length<=160
theorem ZoG {l:List St}(hk:∀x∈l,StOk x):JnI ((movU l).map absQ) ((movV l).map absQ):=by
 have hc:=ZoI hk
 have hs:=Zjb (l:=l) (ins:=insV l) (cs:=celV l) _ (Wl _)
 rw[List.take_length] at hs
 have hpw:(movU l).Pairwise (fun u w=>bfI u.In w.In):=List.pairwise_map.1 (hc.1.sublist hs)
 have:=(ZoB (l:=movU l) (K:=3) (fun u hu=>Zem hk _ (Zi8 u hu)) (fun u hu=>hc.2 _ (Zi8 u hu)) hpw _ (Wl _)).1
 rw[List.take_length] at this
 exact this
theorem ZpK {l:List St}(hk:∀x∈l,StOk x):NfP (movV l):=⟨(ZoG hk).nf,ZoN hk,ZnX l⟩
theorem Zds {a:List Za}(hl:a.length<=1024)(hk:∀i∈a,IvOk B28 i):Sep (nrmS a)/\∀z,HoldP (nrmS a) z↔HoldP a z:=by
 obtain⟨h1,h2⟩:=ZeJ 1 (a:=a) (b:=[]) ⟨hl,Wm _,hk,fun i hi=>by cases hi⟩
 refine⟨h1,fun z=>?_⟩
 rw[nrmS,h2 z]
 unfold dcdP HoldP
 simp
theorem ZoC {K:Nat}{i:Za}(h:IvOk K i):(rvR i.From).ok/\(rvR i.To).ok:=⟨h.a.o,h.b.o⟩
theorem Zff {K:Nat}{l m:List Za}(h:Sep l)(k:Sep m)(hl:∀i∈l,IvOk K i)(hm:∀i∈m,IvOk K i)(H:∀t,HoldP l t↔HoldP m t):l=m:=h.eq k (fun i hi=>ZoC (hl i hi)) (fun i hi=>ZoC (hm i hi)) H
theorem Zee {K:Nat}{a:List Za}(h:∀i∈a,IvOk K i):∀i∈nrmS a,IvOk K i:=fun i hi=>by
 have:=ZgG (Pr:=RlB K) (fun i hi=>⟨(h i hi).a,(h i hi).b⟩) i hi
 exact⟨this.1,this.2⟩
theorem ZoZ {K:Nat}{op:Int}{a b:List Za}(ha:∀i∈a,IvOk K i)(hb:∀i∈b,IvOk K i):∀i∈cmbR op a b,IvOk K i:=fun i hi=>by
 have:=ZlW (Pr:=RlB K) (fun i hi=>⟨(ha i hi).a,(ha i hi).b⟩) (fun i hi=>⟨(hb i hi).a,(hb i hi).b⟩) i hi
 exact⟨this.1,this.2⟩
theorem Zo5 {K:Nat}(kp:Bool->Bool->Bool){a b:List Za}(ha:∀i∈a,IvOk K i)(hb:∀i∈b,IvOk K i):∀i∈swpR kp a b,IvOk K i:=fun i hi=>by
 have:=Zir (Pb:=fun x=>RlB K x.at_) kp (fun i hi=>⟨(ha i hi).a,(ha i hi).b⟩) (fun i hi=>⟨(hb i hi).a,(hb i hi).b⟩) i hi
 exact⟨this.1,this.2⟩
theorem Zmt {a:List Za}(ho:∀i∈a,okI i):Sep (swpR kpU a [])/\∀z,HoldP (swpR kpU a []) z↔HoldP a z:=by
 obtain⟨h1,h2,h3⟩:=Zht (kp:=kpU) rfl (is:=a) (js:=[]) (fun i hi=>Zrd (ho i hi)) (fun i hi=>by cases hi)
 refine⟨⟨h2,h3⟩,fun z=>?_⟩
 unfold HoldP
 rw[h1 z]
 unfold kpU
 simp
theorem ZgW {K:Nat}{a:List Za}(hK:K<=B28)(hl:a.length<=1024)(hk:∀i∈a,IvOk K i)(ho:∀i∈a,okI i):swpR kpU a []=nrmS a:=by
 have h1:=Zmt ho
 have h2:=Zds hl (fun i hi=>(hk i hi).mono hK)
 exact Zff h1.1 h2.1 (Zo5 kpU hk (fun i hi=>by cases hi)) (Zee hk) fun t=>(h1.2 t).trans (h2.2 t).symm
theorem SwOk.of {K:Nat}{a b:List Za}(hK:K<=KR)(hl:a.length+b.length<=32768)(hk:∀i∈a,IvOk K i)(hk2:∀i∈b,IvOk K i):SwOk a b:=
 ⟨by omega,fun i hi=>⟨⟨(hk i hi).a.mono hK⟩,⟨(hk i hi).b.mono hK⟩⟩,fun i hi=>⟨⟨(hk2 i hi).a.mono hK⟩,⟨(hk2 i hi).b.mono hK⟩⟩⟩
end Go.Vt
/-
 DERIVED: THE SHELF's CONTRACTS AT THIS DUMP, IN PLAIN WORDS (tools/lay-plain.mjs out of 'YtcgkgdgpdpihmaaGreatDoorLaySi.lean', which tools/lay-shelf.mjs wrote): THE SAME DECLARATIONS UNDER THE SAME NAMES: 'import', 'namespace', 'open', 'def', 'theorem' AND NOTHING ELSE: no command of the shelf's: FOR A HAND-IN. Each laying: the table of numbers ('.._ren') and one theorem, a field a fact of the dump's own or the kernel's comparison; each contract: ONE APPLICATION.
-/
namespace Go.Proofs
open Go.Shelf
def Tryz.lSi_ren :Go.Shelf.Ren:=⟨fun|5=>105|8=>148|7=>147|19=>193|20=>194|10=>184|11=>185|12=>186|13=>187|14=>188|15=>189|16=>190|17=>191|18=>192|30=>213|31=>214|32=>215|33=>216|34=>217|35=>199|40=>238|n=>n,fun|23=>65|25=>3|3=>3|32=>189|22=>65|0=>0|44=>230|46=>232|4=>4|36=>224|35=>223|41=>54|5=>5|9=>9|53=>246|57=>250|63=>276|64=>277|n=>n,fun|n=>n⟩
theorem Tryz.lSi :Go.Proofs.SlLaysM.n5 Tryz.prog Tryz.lSi_ren:={
 mixed:=by kernel_rfl
 f5:=⟨Tryz.f105.name,by decide,Tryz.func105.trans (congrArg some (by kernel_rfl))⟩
 f7:=⟨Tryz.f147.name,by decide,Tryz.func147.trans (congrArg some (by kernel_rfl))⟩
 f8:=Tryz.func148.trans (congrArg some (by kernel_rfl))
 f10:=⟨Tryz.f184.name,by decide,Tryz.func184.trans (congrArg some (by kernel_rfl))⟩
 f11:=⟨Tryz.f185.name,by decide,Tryz.func185.trans (congrArg some (by kernel_rfl))⟩
 f12:=⟨Tryz.f186.name,by decide,Tryz.func186.trans (congrArg some (by kernel_rfl))⟩
 f13:=⟨Tryz.f187.name,by decide,Tryz.func187.trans (congrArg some (by kernel_rfl))⟩
 f14:=⟨Tryz.f188.name,by decide,Tryz.func188.trans (congrArg some (by kernel_rfl))⟩
 f15:=⟨Tryz.f189.name,by decide,Tryz.func189.trans (congrArg some (by kernel_rfl))⟩
 f16:=⟨Tryz.f190.name,by decide,Tryz.func190.trans (congrArg some (by kernel_rfl))⟩
 f17:=⟨Tryz.f191.name,by decide,Tryz.func191.trans (congrArg some (by kernel_rfl))⟩
 f18:=⟨Tryz.f192.name,by decide,Tryz.func192.trans (congrArg some (by kernel_rfl))⟩
 f19:=Tryz.func193.trans (congrArg some (by kernel_rfl))
 f20:=Tryz.func194.trans (congrArg some (by kernel_rfl))
 f30:=⟨Tryz.f213.name,by decide,Tryz.func213.trans (congrArg some (by kernel_rfl))⟩
 f31:=Tryz.func214.trans (congrArg some (by kernel_rfl))
 f32:=Tryz.func215.trans (congrArg some (by kernel_rfl))
 f33:=⟨Tryz.f216.name,by decide,Tryz.func216.trans (congrArg some (by kernel_rfl))⟩
 f34:=⟨Tryz.f217.name,by decide,Tryz.func217.trans (congrArg some (by kernel_rfl))⟩
 f35:=⟨Tryz.f199.name,by decide,Tryz.func199.trans (congrArg some (by kernel_rfl))⟩
 f40:=⟨Tryz.f238.name,by decide,Tryz.func238.trans (congrArg some (by kernel_rfl))⟩
 t0:=Tryz.underlying0
 a0:=Tryz.isAgg0
 z0:=Tryz.sizeOf0
 v0:=Tryz.zeroValue0
 t3:=Tryz.underlying3
 a3:=Tryz.isAgg3
 z3:=Tryz.sizeOf3
 v3:=Tryz.zeroValue3
 t4:=Tryz.underlying4
 a4:=Tryz.isAgg4
 z4:=Tryz.sizeOf4
 v4:=Tryz.zeroValue4
 t5:=Tryz.underlying5
 a5:=Tryz.isAgg5
 z5:=Tryz.sizeOf5
 v5:=Tryz.zeroValue5
 t9:=Tryz.underlying9
 a9:=Tryz.isAgg9
 z9:=Tryz.sizeOf9
 v9:=Tryz.zeroValue9
 t22:=Tryz.underlying65
 a22:=Tryz.isAgg65
 z22:=Tryz.sizeOf65
 v22:=Tryz.zeroValue65
 t23:=Tryz.underlying65
 a23:=Tryz.isAgg65
 z23:=Tryz.sizeOf65
 v23:=Tryz.zeroValue65
 t25:=Tryz.underlying3
 a25:=Tryz.isAgg3
 z25:=Tryz.sizeOf3
 v25:=Tryz.zeroValue3
 t32:=Tryz.underlying189
 a32:=Tryz.isAgg189
 z32:=Tryz.sizeOf189
 v32:=Tryz.zeroValue189
 t35:=Tryz.underlying223
 a35:=Tryz.isAgg223
 z35:=Tryz.sizeOf223
 v35:=Tryz.zeroValue223
 t36:=Tryz.underlying224
 a36:=Tryz.isAgg224
 z36:=Tryz.sizeOf224
 v36:=Tryz.zeroValue224
 t41:=Tryz.underlying54
 a41:=Tryz.isAgg54
 z41:=Tryz.sizeOf54
 v41:=Tryz.zeroValue54
 t44:=Tryz.underlying230
 a44:=Tryz.isAgg230
 z44:=Tryz.sizeOf230
 v44:=Tryz.zeroValue230
 t46:=Tryz.underlying232
 a46:=Tryz.isAgg232
 z46:=Tryz.sizeOf232
 v46:=Tryz.zeroValue232
 t53:=Tryz.underlying246
 a53:=Tryz.isAgg246
 z53:=Tryz.sizeOf246
 v53:=Tryz.zeroValue246
 t57:=Tryz.underlying250
 a57:=Tryz.isAgg250
 z57:=Tryz.sizeOf250
 v57:=Tryz.zeroValue250
 t63:=Tryz.underlying276
 a63:=Tryz.isAgg276
 z63:=Tryz.sizeOf276
 v63:=Tryz.zeroValue276
 t64:=Tryz.underlying277
 a64:=Tryz.isAgg277
 z64:=Tryz.sizeOf277
 v64:=Tryz.zeroValue277}
end Go.Proofs
namespace Go.Vt
open Go.RowKit Go.Proofs
open Go.Proofs.Tryz (prog)
section
def leI (x y:Int):Bool:=decide (x<=y)
def srI (xs:List Int):List Int:=xs.mergeSort leI
theorem Zdo (xs:List Int):(srI xs).Perm xs:=List.mergeSort_perm _ _
theorem Zpf (xs:List Int):(srI xs).Pairwise (· <= ·):=by
 have:=List.pairwise_mergeSort (le:=leI) (fun a b c h1 h2=>by unfold leI at*;simp at*;omega) (fun a b=>by unfold leI;simp;omega) xs
 exact this.imp fun h=>Wa h
theorem ZhI (xs:List Int)(sp:List Value)(t:Nat)(h:t<xs.length):(row (eI .i64) xs sp)[t]? =some (.int .i64 xs[t]):=by
 have h1:=ZaC (enc:=eI .i64) xs sp t 0 h (by decide)
 rw[Nat.mul_one,Nat.add_zero] at h1
 rw[h1]
 rfl
theorem Zne (xs ys:List Int)(hs:ys.length=xs.length)(sp:List Value):Go.Sort.putCells (Value.int .i64) 0 ys.toArray (row (eI .i64) xs sp)=row (eI .i64) ys sp:=by
 have e1:=Zaj (enc:=eI .i64) xs sp
 have e2:=Zaj (enc:=eI .i64) ys sp
 apply Array.ext_getElem?
 intro t
 by_cases ht:t<(row (eI .i64) xs sp).size
 ·unfold Go.Sort.putCells
  rw[Array.getElem?_mapIdx,Array.getElem?_eq_getElem ht,Option.map_some,List.size_toArray]
  by_cases h:t<ys.length
  ·rw[if_pos (by omega),ZhI ys sp t h]
   simp[h]
  ·rw[if_neg (by omega)]
   have l1:=ZQ (enc:=eI .i64) xs
   have l2:=ZQ (enc:=eI .i64) ys
   have g1:(row (eI .i64) xs sp)[t]? =sp[t-xs.length]? :=by
    simp only[row,List.getElem?_toArray]
    rw[List.getElem?_append_right (by omega),l1,Nat.mul_one]
   have g2:(row (eI .i64) ys sp)[t]? =sp[t-xs.length]? :=by
    simp only[row,List.getElem?_toArray]
    rw[List.getElem?_append_right (by omega),l2,Nat.mul_one,hs]
   rw[g2,<-g1,Array.getElem?_eq_getElem ht]
 ·have h3:(Go.Sort.putCells (Value.int .i64) 0 ys.toArray (row (eI .i64) xs sp)).size=(row (eI .i64) xs sp).size:=by simp[Go.Sort.putCells]
  rw[Array.getElem?_eq_none (by omega),Array.getElem?_eq_none (by omega)]
abbrev SrtSI (xs:List Int)(s:SlS (eI .i64) 1 xs):Type:={s':SlS (eI .i64) 1 (srI xs) // vSl s'=vSl s}
theorem Zj9 (w0 w:World)(L L1:List Blk)(xs:List Int)(s:SlS (eI .i64) 1 xs)(T:TypeId)[hd:OwnS T s L L1](hl:xs.length<=1048576)(hw:Own w0 L w):
  Calls prog 105 [vSl s].toArray w (RetX w0 (SrtSI xs s) (fun _=> .tuple #[]) (fun s'=>mS T s'.1++L1)):=by
 have hw1:=hw.perm hd.out
 have hyl:=(Zdo xs).length_eq
 rcases s.cases T with⟨rfl,hv,hm⟩|⟨b,c,sp,h1,hv,hm,hne⟩
 ·suffices h:Calls prog 105 #[.slice none 0 0] w (RetX w0 (SrtSI [] s) (fun _=> .tuple #[]) (fun s'=>mS T s'.1++L1)) by
   rw[<-hv] at h
   exact h
  refine(AnyM.slices_Sort_int_none Tryz.lSi none 0 w).mono fun e w' ⟨he,hx⟩=>?_
  subst hx
  obtain⟨s',e1,e2⟩:=SlS.turn T (show([]:List Int)=srI [] by simp[srI]) s
  exact⟨⟨s',e1⟩,he,by show Own w0 (mS T s'++L1) w';rw[e2];exact hw1⟩
 ·suffices h:Calls prog 105 #[.slice (some ⟨b,0,none⟩) xs.length c] w (RetX w0 (SrtSI xs s) (fun _=> .tuple #[]) (fun s'=>mS T s'.1++L1)) by
   rw[<-hv] at h
   exact h
  rw[hm] at hw1
  have hb:w.heap[b]? =some (.cells (row (eI .i64) xs sp) T (0,0)):=(hw1.mem _ (.head _)).2
  have hH:Go.Sort.Holds (Value.int .i64) w b 0 xs.toArray:=fun j hj=>by
   rw[List.size_toArray] at hj
   obtain⟨h2,h3⟩:=Zgh hb j
   rw[Nat.zero_add]
   refine⟨?_,h3⟩
   rw[h2,ZhI xs sp j hj]
   simp[hj]
  refine(AnyM.slices_Sort_int Tryz.lSi b 0 c xs w hH (Z5 hb) (by omega)).mono fun e w' ⟨he,n,os,hw'⟩=>?_
  subst hw'
  have hw2:Own w0 (⟨b,row (eI .i64) xs sp,T⟩::L1) (Sort.ahead w n):=hw1.to (Zf4 w n)
  have ht:Turned b (row (eI .i64) (srI xs) sp) T (Sort.ahead w n) (Go.Sort.putRow (Value.int .i64) (Sort.ahead w n) b 0 (srI xs).toArray):=by
   refine⟨rfl,rfl,rfl,by simp[Go.Sort.putRow,Go.Sort.mapBlock],rfl,fun j hj=>?_, ?_⟩
   ·show((Sort.ahead w n).heap.modify b _)[j]? =_
    rw[Array.getElem?_modify,if_neg (fun h=>hj h.symm)]
   ·show((Sort.ahead w n).heap.modify b _)[b]? =_
    rw[Array.getElem?_modify,if_pos rfl]
    show Option.map _ w.heap[b]? =_
    rw[hb,Option.map_some]
    unfold Go.Sort.onCells
    simp only
    rw[Zne xs (srI xs) hyl sp]
  exact⟨⟨SlS.at_ b c sp (by rw[hyl];exact h1) (fun h0=>hne (List.length_eq_zero_iff.1 (by rw[<-hyl,h0];rfl))),by rw[hv];show Value.slice _ (srI xs).length c=_;rw[hyl]⟩,he,(hw2.turn (.here) ht).to (Zge _ os)⟩
instance Zwx (w0:World)(L L1:List Blk)(xs:List Int)(s:SlS (eI .i64) 1 xs)(T:TypeId)[hd:OwnS T s L L1]:SpecX prog w0 L 105 [vSl s] (SrtSI xs s) (fun _=> .tuple #[]) (fun s'=>mS T s'.1++L1) (xs.length<=1048576):=⟨fun hp w hw=>Zj9 w0 w L L1 xs s T hp hw⟩
instance ZtF :CallC prog 105:=⟨by kernel_rfl⟩
end
section
def lbS (us:List PU):List Int:=cmI' (srI (lbL us))
set_option maxHeartbeats 8000000 in
theorem Zh2 (v:Value)(us:List PU)(w:World)(hv:ArgS w v rP us)(hl:us.length<=1048576):
  Calls prog 58 [v].toArray w (RetM (SlS (eI .i64) 1 (lbS us)) (fun s=>vSl s) (fun s=>mS 3 s) w):=by
 obtain⟨p,cp,rfl⟩:=hv.form
 refine Zb Tryz.func58 rfl Tryz.ntmps58 rfl ?_
 repeat(refine wkB ?_;intros)
 refine Z1 (S:=SlS (eI .i64) 1 (lbL us)) (fun _=>True) (fun s=>[(3,vSl s)]) (fun s=>mS 3 s) ?_ (fun s _=>?_)
 ·refine Zn (S:=(_:Nat)×(o:List Int)×SlS (eI .i64) 1 o) (fun q=>q.1<=us.length/\q.2.1=mpN (fun u:PU=>u.Label) us q.1) (fun q=>[(3,vSl q.2.2),(6, .slice p us.length cp),(7, .int .i64 (us.length:Nat)),(8, .int .i64 (q.1:Nat))]) (fun q=>mS 3 q.2.2) (fun q=>us.length-q.1) ⟨0,[],SlS.no⟩ ⟨Wm _,rfl⟩ sbB suB (fun q hq=>?_)
  obtain⟨m,out,s⟩:=q
  obtain⟨hq,ho⟩:=hq
  dsimp only at hq ho⊢
  have hlen:out.length=m:=by rw[ho];exact Z6 _ us m
  have hend:m=us.length->out=lbL us:=fun h=>by rw[ho,h];rfl
  have hnxt:out++[(gi us (m:Int)).Label]=mpN (fun u:PU=>u.Label) us (m+1):=by rw[ho];rfl
  clear ho
  repeat(refine wkB ?_;intros)
  refine Zi rfl (fun h=>?_) (fun h=>?_)
  ·have hlt:m<us.length:=by have:=Wa h;omega
   obtain⟨bw,ow,rfl,hrow'⟩:=hv.opn (k:=20) hlt
   repeat(refine wkB ?_;intros)
   refine sU (k:=1) (enc:=eI .i64) (s:=s) rfl rfl ?_ ?_ ?_ ?_
   ·rfl
   ·rfl
   ·exact⟨by decide,by omega,by omega⟩
   intro s'
   repeat(first|(refine wkB ?_;intros)|(refine wnM ?_ ?_;(focus(exact⟨by omega,by omega⟩));intros))
   exact Zd ⟨m+1,_,s'⟩ ⟨hlt,hnxt⟩ sbB suB (by show us.length-(m+1)<us.length-m;omega)
  ·have hge:m=us.length:=by have:=Wb h;omega
   obtain⟨s',f1,f2⟩:=SlS.turn 3 (hend hge) s
   repeat(refine wkB ?_;intros)
   exact Zg s' trivial (by rw[f1];exact sbB) (by rw[f2];exact suB)
 have hl':(lbL us).length<=1048576:=by unfold lbL;rw[Z6];exact hl
 have hl2:(srI (lbL us)).length<=1048576:=by rw[(Zdo (lbL us)).length_eq];exact hl'
 repeat(first|(refine wkB ?_;intros)|(refine wnM ?_ ?_;(focus(exact hl'));intros))
 refine sZ rfl rfl hl' (fun r=>?_)
 obtain⟨r,hr⟩:=r
 simp only[<-hr]
 repeat(first|(refine wkB ?_;intros)|(refine wnM ?_ ?_;(focus(exact hl2));intros))
 refine sZ rfl rfl hl2 (fun r2=>?_)
 repeat(refine wkB ?_;intros)
 exact Zx rfl rfl (fun w hw=>⟨r2,rfl,hw.sub suB⟩)
instance ZuV (w0:World)(L:List Blk)(v:Value)(us:List PU)[h:LstC w0 L v PU rP us]:SpecR prog w0 L 58 [v] (SlS (eI .i64) 1 (lbS us)) (fun s=>vSl s) (fun s=>mS 3 s) (us.length<=1048576):=⟨fun hp w hw=>Zh2 v us w (h.out w hw) hp⟩
abbrev inL (us:List PU):List Za:=mpN (fun u:PU=>u.In) us us.length
set_option maxHeartbeats 8000000 in
theorem Ze6 (v:Value)(us:List PU)(w:World)(hv:ArgS w v rP us)(hl:us.length<=1048576):
  Calls prog 20 [v].toArray w (RetM (SlS rI 20 (inL us)) (fun s=>vSl s) (fun s=>mS 37 s) w):=by
 obtain⟨p,cp,rfl⟩:=hv.form
 refine Zb Tryz.func20 rfl Tryz.ntmps20 rfl ?_
 repeat(refine wkB ?_;intros)
 refine Z1 (S:=SlS rI 20 (inL us)) (fun _=>True) (fun s=>[(3,vSl s)]) (fun s=>mS 37 s) ?_ (fun s _=>?_)
 ·refine Zn (S:=(_:Nat)×(o:List Za)×SlS rI 20 o) (fun q=>q.1<=us.length/\q.2.1=mpN (fun u:PU=>u.In) us q.1) (fun q=>[(0, .slice p us.length cp),(3,vSl q.2.2),(4, .int .i64 (q.1:Nat))]) (fun q=>mS 37 q.2.2) (fun q=>us.length-q.1) ⟨0,[],SlS.no⟩ ⟨Wm _,rfl⟩ sbB suB (fun q hq=>?_)
  obtain⟨m,out,s⟩:=q
  obtain⟨hq,ho⟩:=hq
  dsimp only at hq ho⊢
  have hlen:out.length=m:=by rw[ho];exact Z6 _ us m
  have hend:m=us.length->out=inL us:=fun h=>by rw[ho,h]
  have hnxt:out++[(gi us (m:Int)).In]=mpN (fun u:PU=>u.In) us (m+1):=by rw[ho];rfl
  clear ho
  repeat(refine wkB ?_;intros)
  refine Zi rfl (fun h=>?_) (fun h=>?_)
  ·have hlt:m<us.length:=by have:=Wa h;omega
   obtain⟨bw,ow,rfl,hrow'⟩:=hv.opn (k:=20) hlt
   repeat(refine wkB ?_;intros)
   refine sU (k:=20) (enc:=rI) (s:=s) rfl rfl ?_ ?_ ?_ ?_
   ·rfl
   ·rfl
   ·exact⟨by decide,by omega,by omega⟩
   intro s'
   repeat(first|(refine wkB ?_;intros)|(refine wnM ?_ ?_;(focus(exact⟨by omega,by omega⟩));intros))
   exact Zd ⟨m+1,_,s'⟩ ⟨hlt,hnxt⟩ sbB suB (by show us.length-(m+1)<us.length-m;omega)
  ·have hge:m=us.length:=by have:=Wb h;omega
   obtain⟨s',f1,f2⟩:=SlS.turn 37 (hend hge) s
   repeat(refine wkB ?_;intros)
   exact Zg s' trivial (by rw[f1];exact sbB) (by rw[f2];exact suB)
 repeat(refine wkB ?_;intros)
 exact Zx rfl rfl (fun w hw=>⟨s,rfl,hw.sub suB⟩)
instance ZpY (w0:World)(L:List Blk)(v:Value)(us:List PU)[h:LstC w0 L v PU rP us]:SpecR prog w0 L 20 [v] (SlS rI 20 (inL us)) (fun s=>vSl s) (fun s=>mS 37 s) (us.length<=1048576):=⟨fun hp w hw=>Ze6 v us w (h.out w hw) hp⟩
set_option maxHeartbeats 8000000 in
theorem Zkt (v:Value)(us:List PU)(x:Int)(w:World)(hv:ArgS w v rP us)(hl:us.length<=1024)(hk:∀i∈whL us x us.length,IvOk B28 i):
  Calls prog 43 [v, .int .i64 x].toArray w (RetM (SlS rI 20 (nrmS (whL us x us.length))) (fun s=>vSl s) (fun s=>mS 37 s) w):=by
 obtain⟨p,cp,rfl⟩:=hv.form
 have hwl:=ZbR us x us.length
 refine Zb Tryz.func43 rfl Tryz.ntmps43 rfl ?_
 repeat(refine wkB ?_;intros)
 refine Z1 (S:=SlS rI 20 (whL us x us.length)) (fun _=>True) (fun s=>[(5,vSl s)]) (fun s=>mS 37 s) ?_ (fun s _=>?_)
 ·refine Zn (S:=(_:Nat)×(o:List Za)×SlS rI 20 o) (fun q=>q.1<=us.length/\q.2.1=whL us x q.1) (fun q=>[(0, .slice p us.length cp),(1, .int .i64 x),(5,vSl q.2.2),(6, .int .i64 (q.1:Nat))]) (fun q=>mS 37 q.2.2) (fun q=>us.length-q.1) ⟨0,[],SlS.no⟩ ⟨Wm _,rfl⟩ sbB suB (fun q hq=>?_)
  obtain⟨m,out,s⟩:=q
  obtain⟨hq,ho⟩:=hq
  dsimp only at hq ho⊢
  have hlen:out.length<=m:=by rw[ho];exact ZbR us x m
  have hend:m=us.length->out=whL us x us.length:=fun h=>by rw[ho,h]
  have hnxt:(if(gi us (m:Int)).Label=x then out++[(gi us (m:Int)).In] else out)=whL us x (m+1):=by rw[ho];rfl
  clear ho
  repeat(refine wkB ?_;intros)
  refine Zi rfl (fun h=>?_) (fun h=>?_)
  ·have hlt:m<us.length:=by have:=Wa h;omega
   obtain⟨bw,ow,rfl,hrow'⟩:=hv.opn (k:=20) hlt
   repeat(refine wkB ?_;intros)
   by_cases c:(gi us (m:Int)).Label=x
   ·simp only[Wc c]
    rw[if_pos c] at hnxt
    repeat(refine wkB ?_;intros)
    refine sU (k:=20) (enc:=rI) (s:=s) rfl rfl ?_ ?_ ?_ ?_
    ·rfl
    ·rfl
    ·exact⟨by decide,by omega,by omega⟩
    intro s'
    repeat(first|(refine wkB ?_;intros)|(refine wnM ?_ ?_;(focus(exact⟨by omega,by omega⟩));intros))
    exact Zd ⟨m+1,_,s'⟩ ⟨hlt,hnxt⟩ sbB suB (by show us.length-(m+1)<us.length-m;omega)
   ·simp only[We c]
    rw[if_neg c] at hnxt
    repeat(first|(refine wkB ?_;intros)|(refine wnM ?_ ?_;(focus(exact⟨by omega,by omega⟩));intros))
    exact Zd ⟨m+1,_,s⟩ ⟨hlt,hnxt⟩ sbB suB (by show us.length-(m+1)<us.length-m;omega)
  ·have hge:m=us.length:=by have:=Wb h;omega
   obtain⟨s',f1,f2⟩:=SlS.turn 37 (hend hge) s
   repeat(refine wkB ?_;intros)
   exact Zg s' trivial (by rw[f1];exact sbB) (by rw[f2];exact suB)
 repeat(first|(refine wkB ?_;intros)|(refine wnM ?_ ?_;(focus(exact⟨by omega,hk⟩));intros))
 rename_i r
 exact Zx rfl rfl (fun w hw=>⟨r,rfl,hw.sub suB⟩)
instance ZvG (w0:World)(L:List Blk)(v:Value)(us:List PU)(x:Int)[h:LstC w0 L v PU rP us]:SpecR prog w0 L 43 [v, .int .i64 x] (SlS rI 20 (nrmS (whL us x us.length))) (fun s=>vSl s) (fun s=>mS 37 s) (us.length<=1024/\∀i∈whL us x us.length,IvOk B28 i):=⟨fun hp w hw=>Zkt v us x w (h.out w hw) hp.1 hp.2⟩
noncomputable def atL (us:List PU)(t:Rl):Option Int:=(us.find? (fun u=>inB u.In t)).map (·.Label)
set_option maxHeartbeats 8000000 in
theorem Znk (v:Value)(us:List PU)(t:Zh)(w:World)(hv:ArgS w v rP us)(hl:us.length<=1048576)(hk:∀u∈us,IvOk B28 u.In)(ht:RtB t):
  Calls prog 24 [v,vR t].toArray w (Ret (.tuple #[.int .i64 ((atL us t).getD 0), .bool (atL us t).isSome]) w):=by
 have hav:=ArgC.mk hv
 obtain⟨p,cp,rfl⟩:=hv.form
 refine Zb Tryz.func24 rfl Tryz.ntmps24 rfl ?_
 repeat(refine wkB ?_;intros)
 rename_i b3
 refine Zn (S:=Nat) (fun i=>i<=us.length/\(us.drop i).find? (fun u=>inB u.In t)=us.find? (fun u=>inB u.In t)) (fun i=>[(0, .slice p us.length cp),(3, .pointer (some ⟨b3,0,none⟩)),(6, .int .i64 (i:Nat))]) (fun _=>[⟨b3,Ze (Zf t),35⟩]) (fun i=>us.length-i) 0 ⟨Wm _,rfl⟩ sbB slB (fun i hi=>?_)
 obtain⟨hi,hd⟩:=hi
 repeat(refine wkB ?_;intros)
 refine Zi rfl (fun h=>?_) (fun h=>?_)
 ·have hlt:i<us.length:=by have:=Wa h;omega
  obtain⟨bw,ow,rfl,hrow'⟩:=hv.opn (k:=20) hlt
  have q1:IvOk B28 (gi us (i:Int)).In/\RtB t:=⟨hk _ (Zy (by omega)),ht⟩
  rw[List.drop_eq_getElem_cons hlt,List.find?_cons,<-Zo hlt] at hd
  repeat(refine wkB ?_;intros)
  (refine jD 7 7 (h:=?_);(repeat(first|refine wkH ?_|(refine tC rfl rfl ?_ ?_;focus(exact q1))));refine Zm ?_;(repeat(refine Z0 ?_;intro _));refine Zp ?_)
  repeat(refine wkB ?_;intros)
  cases c:inB (gi us (i:Int)).In t with
  |true=>
   rw[c] at hd
   have e:atL us t=some (gi us (i:Int)).Label:=by unfold atL;rw[<-hd];rfl
   rw[e]
   repeat(refine wkB ?_;intros)
   exact ZG rfl (Zw rfl) (Zw rfl) (fun w hw=>ZS hw)
  |false=>
   rw[c] at hd
   repeat(first|(refine wkB ?_;intros)|(refine wnM ?_ ?_;(focus(exact⟨by omega,by omega⟩));intros))
   exact Zd (i+1) ⟨hlt,hd⟩ sbB slB (by omega)
 ·have hge:i=us.length:=by have:=Wb h;omega
  rw[hge,List.drop_length] at hd
  have e:atL us t=none:=by unfold atL;rw[<-hd];rfl
  rw[e]
  repeat(refine wkB ?_;intros)
  exact ZG rfl (Zw rfl) (Zw rfl) (fun w hw=>ZS hw)
instance Zzc (w0:World)(L:List Blk)(v:Value)(us:List PU)(t:Zh)[h:LstC w0 L v PU rP us]:SpecM prog w0 L 24 [v,vR t] (.tuple #[.int .i64 ((atL us t).getD 0), .bool (atL us t).isSome]) (us.length<=1048576/\(∀u∈us,IvOk B28 u.In)/\RtB t):=⟨fun hp w hw=>Znk v us t w (h.out w hw) hp.1 hp.2.1 hp.2.2⟩
end
section
theorem NfP.ok {l:List PU}(h:NfP l):∀u∈l,okI u.In:=fun u hu=>h.nf.ok (absQ u) (List.mem_map_of_mem hu)
theorem NfP.bf {l:List PU}(h:NfP l){i j:Nat}(hij:i<j)(hj:j<l.length):bfI (gi l (i:Int)).In (gi l (j:Int)).In:=by
 have:=(List.pairwise_map.1 h.nf.pw)
 have:=List.pairwise_iff_getElem.1 this i j (by omega) hj hij
 rw[Zo hj,Zo (by omega)]
 exact this.bf
theorem NfP.one {l:List PU}(h:NfP l){u w:PU}(hu:u∈l)(hw:w∈l){t:Ri}(h1:memI u.In t)(h2:memI w.In t):u=w:=by
 rcases ZhB (List.pairwise_map.1 h.nf.pw) u hu w hw with e|e|e
 ·exact e
 ·exact(e.bf.dis (t:=t) h1 h2).elim
 ·exact(e.bf.dis (t:=t) h2 h1).elim
theorem ZlV {i:Za}(h:okI i):∃t,memI i t:=GU.ok.pt (u:=absI i) h
theorem ZcA (l:List PU){i:Nat}(h:i<l.length):gi (mpN toU l l.length) (i:Int)=toU (gi l (i:Int)):=by
 rw[Zbr,Zo (by rw[Ws];exact h),Zo h,List.getElem_map]
theorem Zd5 (l:List PU):(mpN toU l l.length).length=l.length:=Z6 toU l l.length
theorem Zqy {l:List PU}(h:NfP l)(t:Rl):∃c,Cut (mpN toU l l.length) t c:=by
 have hm:∀n,n<=l.length->∃c,c<=n/\(∀j:Nat,j<c->ri (gi l (j:Int)).In.To<ri t)/\∀j:Nat,c<=j->j<n->ri t<=ri (gi l (j:Int)).In.To:=fun n=>by
  induction n with
  |zero=>exact fun _=>⟨0,Wl _,fun j hj=>by omega,fun j h1 h2=>by omega⟩
  |succ n ih=>
   intro hn
   obtain⟨c,c1,c2,c3⟩:=ih (by omega)
   by_cases c0:ri (gi l (n:Int)).In.To<ri t
   ·refine⟨n+1,Wl _,fun j hj=>?_,fun j h1 h2=>by omega⟩
    rcases(by omega:j<n\/j=n) with h1|rfl
    ·have hb:=h.bf h1 (by omega)
     have ho:=h.ok (gi l (n:Int)) (Zy (by omega))
     unfold bfI at hb
     unfold okI at ho
     grind
    ·exact c0
   ·refine⟨c,by omega,c2,fun j h1 h2=>?_⟩
    rcases(by omega:j<n\/j=n) with h3|rfl
    ·exact c3 j h1 h3
    ·grind
 obtain⟨c,c1,c2,c3⟩:=hm l.length (Wl _)
 refine⟨c,⟨by rw[Zd5];exact c1,fun j hj=>?_,fun j h1 h2=>?_⟩⟩
 ·rw[ZcA l (by omega)];exact c2 j hj
 ·rw[Zd5] at h2
  rw[ZcA l h2];exact c3 j h1 h2
theorem ZqK {l:List PU}(h:NfP l)(t:Rl):AtR (mpN toU l l.length) (ri t) (atL l t):=by
 refine⟨?_⟩
 unfold atL
 cases hf:l.find? (fun u=>inB u.In t) with
 |none=>
  refine .inr ⟨fun j hj=>?_,rfl⟩
  rw[Zd5] at hj
  rw[ZcA l hj]
  have:=List.find?_eq_none.1 hf (gi l (j:Int)) (Zy (by omega))
  exact fun k=>this (Zco.2 k)
 |some u=>
  obtain⟨h1,av,bs,e,h2⟩:=List.find?_eq_some_iff_append.1 hf
  have hk:av.length<l.length:=by rw[e];simp
  have hg:gi l (av.length:Int)=u:=by
   rw[Zo hk]
   simp[e]
  refine .inl ⟨av.length,by rw[Zd5];exact hk, ?_,fun j hj=>?_,fun j hj=>?_, ?_⟩
  ·rw[ZcA l hk,hg];exact Zco.1 h1
  ·rw[ZcA l (by omega)]
   have h3:gi l (j:Int)∈av:=by
    have:gi l (j:Int)=av[j]:=by
     rw[Zo (by omega)]
     simp[e,hj]
    rw[this]
    exact List.getElem_mem _
   have:=h2 _ h3
   exact fun k=>by
    rw[Zco.2 (show memI (gi l (j:Int)).In (ri t) from k)] at this
    simp at this
  ·rw[ZcA l (by omega)]
   have hm:=Zco.1 h1
   unfold memI at hm
   rcases(by omega:j<av.length\/j=av.length) with h3|rfl
   ·have hb:=h.bf h3 hk
    have ho:=h.ok (gi l (j:Int)) (Zy (by omega))
    rw[hg] at hb
    unfold bfI at hb
    unfold okI at ho
    show ri (gi l (j:Int)).In.From<=ri t
    grind
   ·rw[hg]
    show ri u.In.From<=ri t
    grind
  ·rw[ZcA l hk,hg];rfl
theorem Zjc (us:List PU)(x:Int){i:Za}:∀m,m<=us.length->(i∈whL us x m↔∃u∈us.take m,u.Label=x/\i=u.In)
 |0,_=>by simp[whL]
 |m+1,hm=>by
  have ih:=Zjc us x (i:=i) m (by omega)
  rw[Wn (by omega),<-Zo (by omega),whL]
  simp only[Wv,Wo]
  split
  ·rename_i hc
   rw[Wv,Wo,ih]
   constructor
   ·rintro(⟨u,h1,h2⟩|h1)
    ·exact⟨u, .inl h1,h2⟩
    ·exact⟨_, .inr rfl,hc,h1⟩
   ·rintro⟨u,h1|h1,h2⟩
    ·exact .inl ⟨u,h1,h2⟩
    ·rw[h1] at h2;exact .inr h2.2
  ·rename_i hc
   rw[ih]
   constructor
   ·rintro⟨u,h1,h2⟩;exact⟨u, .inl h1,h2⟩
   ·rintro⟨u,h1|h1,h2⟩
    ·exact⟨u,h1,h2⟩
    ·rw[h1] at h2;exact(hc h2.1).elim
theorem Zd4 {us:List PU}{x:Int}{i:Za}:i∈whL us x us.length↔∃u∈us,u.Label=x/\i=u.In:=by
 rw[Zjc us x _ (Wl _),List.take_length]
theorem ZmI {us:List PU}{x:Int}{z:Ri}:HoldP (whL us x us.length) z↔∃u∈us,u.Label=x/\memI u.In z:=by
 unfold HoldP
 constructor
 ·rintro⟨i,h1,h2⟩
  obtain⟨u,h3,h4,rfl⟩:=Zd4.1 h1
  exact⟨u,h3,h4,h2⟩
 ·rintro⟨u,h1,h2,h3⟩
  exact⟨_,Zd4.2 ⟨u,h1,h2,rfl⟩,h3⟩
theorem ZdW {l:List PU}(h:NfP l)(x:Int):(∀i∈whL l x l.length,IvOk 3 i)/\∀i∈whL l x l.length,okI i:=by
 constructor
 ·intro i hi
  obtain⟨u,h1,_,rfl⟩:=Zd4.1 hi
  exact h.k u h1
 ·intro i hi
  obtain⟨u,h1,_,rfl⟩:=Zd4.1 hi
  exact h.ok u h1
theorem Zfp {l:List PU}(h:NfP l)(x:Int):swpR kpU (whL l x l.length) []=nrmS (whL l x l.length):=by
 have h1:=ZdW h x
 have h2:=ZbR l x l.length
 have h3:=h.len
 exact ZgW (by decide) (by omega) h1.1 h1.2
theorem ZjC {l:List PU}(h:NfP l)(x:Int):SwOk (whL l x l.length) []:=by
 have h1:=ZdW h x
 have h2:=ZbR l x l.length
 have h3:=h.len
 exact SwOk.of (K:=3) (by decide) (by simp;omega) h1.1 (fun i hi=>by cases hi)
theorem ZkK (l:List PU):pIv l=inL l:=by
 unfold pIv
 rw[Zbr,Zbr,List.map_map,inL,Zbr]
 rfl
theorem Znu {l:List PU}{z:Ri}:HoldP (inL l) z↔∃u∈l,memI u.In z:=by
 unfold HoldP inL
 rw[Zbr]
 constructor
 ·rintro⟨i,h1,h2⟩
  obtain⟨u,h3,rfl⟩:=List.mem_map.1 h1
  exact⟨u,h3,h2⟩
 ·rintro⟨u,h1,h2⟩
  exact⟨_,List.mem_map.2 ⟨u,h1,rfl⟩,h2⟩
theorem ZeS {l:List PU}(h:NfP l):(∀i∈inL l,IvOk 3 i)/\(∀i∈inL l,okI i)/\(inL l).length=l.length:=by
 unfold inL
 refine⟨fun i hi=>?_,fun i hi=>?_,Z6 _ _ _⟩
 ·rw[Zbr] at hi
  obtain⟨u,h1,rfl⟩:=List.mem_map.1 hi
  exact h.k u h1
 ·rw[Zbr] at hi
  obtain⟨u,h1,rfl⟩:=List.mem_map.1 hi
  exact h.ok u h1
theorem Zly {l:List PU}(h:NfP l):pDom l=nrmS (inL l):=by
 have h1:=ZeS h
 have h3:=h.len
 unfold pDom
 rw[ZkK]
 exact ZgW (by decide) (by omega) h1.1 h1.2.1
theorem Zrv {l:List PU}(h:NfP l):SwOk (pIv l) []:=by
 have h1:=ZeS h
 have h3:=h.len
 rw[ZkK]
 exact SwOk.of (K:=3) (by decide) (by simp only[Wx];omega) h1.1 (fun i hi=>by cases hi)
noncomputable def whS (l:List PU)(ys:List Int):List Za:=(l.filter (fun u=>decide (u.Label∈ys))).map (·.In)
theorem ZmE {l:List PU}{ys:List Int}{z:Ri}:HoldP (whS l ys) z↔∃u∈l,u.Label∈ys/\memI u.In z:=by
 unfold HoldP whS
 constructor
 ·rintro⟨i,h1,h2⟩
  obtain⟨u,h3,rfl⟩:=List.mem_map.1 h1
  obtain⟨h4,h5⟩:=List.mem_filter.1 h3
  exact⟨u,h4,Wa h5,h2⟩
 ·rintro⟨u,h1,h2,h3⟩
  exact⟨u.In,List.mem_map.2 ⟨u,List.mem_filter.2 ⟨h1,Wc h2⟩,rfl⟩,h3⟩
theorem Zqp {l:List PU}(h:NfP l)(ys:List Int):(∀i∈whS l ys,IvOk 3 i)/\(whS l ys).length<=160:=by
 unfold whS
 constructor
 ·intro i hi
  obtain⟨u,h3,rfl⟩:=List.mem_map.1 hi
  exact h.k u (List.mem_filter.1 h3).1
 ·rw[Ws]
  exact Wi (List.length_filter_le _ _) h.len
noncomputable def smL (l:List PU)(ys:List Int):List Za:=nrmS (whS l ys)
structure SmO (l:List PU)(ys:List Int)(p:List Za):Prop where
 s:Sep p
 k:∀i∈p,IvOk 3 i
 n:p.length<=640
 h:∀z,HoldP p z↔∃u∈l,u.Label∈ys/\memI u.In z
theorem ZcO {l:List PU}(h:NfP l)(ys:List Int):SmO l ys (smL l ys):=by
 have h1:=Zqp h ys
 have h2:=Zds (a:=whS l ys) (by omega) (fun i hi=>(h1.1 i hi).mono (by decide))
 have h3:=ZbW (whS l ys)
 exact⟨h2.1,Zee h1.1,by unfold smL;omega,fun z=>(h2.2 z).trans ZmE⟩
theorem ZdI {l:List PU}(h:NfP l)(x:Int):SmO l [x] (nrmS (whL l x l.length)):=by
 have h1:=ZdW h x
 have h4:=ZbR l x l.length
 have h5:=h.len
 have h2:=Zds (a:=whL l x l.length) (by omega) (fun i hi=>(h1.1 i hi).mono (by decide))
 have h3:=ZbW (whL l x l.length)
 refine⟨h2.1,Zee h1.1,by omega,fun z=>(h2.2 z).trans (ZmI.trans ?_)⟩
 simp
theorem Zo6 {l:List PU}(h:NfP l):smL l []=[]:=by
 refine Zff (ZcO h []).s Sep.nil (ZcO h []).k (fun i hi=>by cases hi) fun t=>?_
 rw[(ZcO h []).h]
 constructor
 ·rintro⟨u, -,h1, -⟩;cases h1
 ·rintro⟨u,h1, -⟩;cases h1
theorem Zri {l:List PU}(h:NfP l)(ys:List Int)(x:Int):cmbR 1 (smL l ys) (nrmS (whL l x l.length))=smL l (ys++[x]):=by
 have a:=ZcO h ys
 have b:=ZdI h x
 have c:=ZcO h (ys++[x])
 obtain⟨h1,h2⟩:=ZeJ 1 (a:=smL l ys) (b:=nrmS (whL l x l.length)) ⟨by have:=a.n;omega,by have:=b.n;omega,fun i hi=>(a.k i hi).mono (by decide),fun i hi=>(b.k i hi).mono (by decide)⟩
 refine Zff h1 c.s (ZoZ a.k b.k) c.k fun t=>?_
 rw[h2,c.h]
 unfold dcdP
 rw[if_pos rfl,a.h,b.h]
 constructor
 ·rintro(⟨u,g1,g2,g3⟩|⟨u,g1,g2,g3⟩)
  ·exact⟨u,g1,List.mem_append_left _ g2,g3⟩
  ·exact⟨u,g1,List.mem_append_right _ g2,g3⟩
 ·rintro⟨u,g1,g2,g3⟩
  rcases List.mem_append.1 g2 with g|g
  ·exact .inl ⟨u,g1,g,g3⟩
  ·exact .inr ⟨u,g1,g,g3⟩
theorem ZpF {p:List Za}(h:Sep p)(k:∀z,¬HoldP p z):p=[]:=by
 rcases p with _|⟨i,p⟩
 ·rfl
 ·obtain⟨t,ht⟩:=ZlV (Zb8.2 (h.v i (.head _)))
  exact(k t ⟨i, .head _,ht⟩).elim
theorem ZoF {l:List PU}(h:NfP l){ys:List Int}{x:Int}(hx:x∉ys):cmbR 2 (smL l ys) (nrmS (whL l x l.length))=[]:=by
 have a:=ZcO h ys
 have b:=ZdI h x
 obtain⟨h1,h2⟩:=ZeJ 2 (a:=smL l ys) (b:=nrmS (whL l x l.length)) ⟨by have:=a.n;omega,by have:=b.n;omega,fun i hi=>(a.k i hi).mono (by decide),fun i hi=>(b.k i hi).mono (by decide)⟩
 refine ZpF h1 fun z hz=>?_
 rw[h2] at hz
 unfold dcdP at hz
 rw[if_neg (by decide),if_pos rfl,a.h,b.h] at hz
 obtain⟨⟨u,u1,u2,u3⟩,⟨w,w1,w2,w3⟩⟩:=hz
 have e:=h.one u1 w1 u3 w3
 subst e
 rw[Wo] at w2
 exact hx (w2▸u2)
theorem ZpL {l:List PU}(h:NfP l){x:Int}(hx:∃u∈l,u.Label=x):0<(nrmS (whL l x l.length)).length:=by
 obtain⟨u,h1,h2⟩:=hx
 obtain⟨t,ht⟩:=ZlV (h.ok u h1)
 obtain⟨i,hi,_⟩:=((ZdI h x).h t).2 ⟨u,h1,by simp[h2],ht⟩
 exact List.length_pos_of_mem hi
theorem ZjE {l:List PU}{z:Int}:z∈lbS l↔∃u∈l,u.Label=z:=by
 unfold lbS cmI'
 rw[ZfB _ (Wl _),List.take_length,(Zdo (lbL l)).mem_iff]
 unfold lbL
 rw[Zbr,List.mem_map]
theorem Zpl (l:List PU):(lbS l).Pairwise (· < ·):=ZiZ (Zpf (lbL l)) _ (Wl _)
theorem ZpO (l:List PU):(lbS l).length<=l.length:=by
 unfold lbS cmI'
 have h1:=Zjn (srI (lbL l)) (srI (lbL l)).length
 have h2:=(Zdo (lbL l)).length_eq
 have h3:(lbL l).length=l.length:=Z6 _ l l.length
 omega
theorem ZlB (l:List PU){i j:Nat}(hij:i<j)(hj:j<(lbS l).length):gi (lbS l) (i:Int)<gi (lbS l) (j:Int):=by
 rw[Zo hj,Zo (by omega)]
 exact List.pairwise_iff_getElem.1 (Zpl l) i j (by omega) hj hij
theorem ZpV (l:List PU){i:Nat}(hi:i<(lbS l).length):gi (lbS l) (i:Int)∉(lbS l).take i:=fun h=>by
 obtain⟨j,hj,e⟩:=List.mem_take_iff_getElem.1 h
 have:=ZlB l (i:=j) (j:=i) (by omega) hi
 rw[Zo (by omega),e] at this
 omega
theorem Zo2 {l:List PU}(h:NfP l):smL l (lbS l)=nrmS (inL l):=by
 have a:=ZcO h (lbS l)
 have h1:=ZeS h
 have h5:=h.len
 have h2:=Zds (a:=inL l) (by omega) (fun i hi=>(h1.1 i hi).mono (by decide))
 refine Zff a.s h2.1 a.k (Zee h1.1) fun t=>?_
 rw[a.h,h2.2,Znu]
 exact⟨fun⟨u,g1,_,g3⟩=>⟨u,g1,g3⟩,fun⟨u,g1,g3⟩=>⟨u,g1,ZjE.2 ⟨u,g1,rfl⟩,g3⟩⟩
theorem Zmo {l:List PU}{i:Nat}(hi:i<(lbS l).length):(lbS l).take i++[gi (lbS l) (i:Int)]=(lbS l).take (i+1):=by
 rw[Wn hi,Zo hi]
end
section
def icb (x:ZM):Bool:=if x.Mag=ByteArray.empty then !x.Neg else !decide (x.Mag[0]? =some 0)
theorem ZmD {l:List UInt8}(h:l[0]? ≠some 0):Top l.reverse:=by
 intro b hb
 rw[List.getLast?_reverse] at hb
 intro h0
 subst h0
 refine h ?_
 cases l with
 |nil=>cases hb
 |cons x r=>simpa using hb
theorem bget (s:ByteArray)(i:Nat):s[i]? =s.data.toList[i]? :=by
 by_cases h:i<s.size
 ·have h':i<s.data.toList.length:=h
  rw[getElem?_pos s i h,getElem?_pos s.data.toList i h']
  rfl
 ·have h':¬i<s.data.toList.length:=h
  rw[getElem?_neg s i h,getElem?_neg s.data.toList i h']
theorem Zda {x:ZM}:icb x=true↔∃a:Int,x=I a:=by
 obtain⟨n,s⟩:=x
 unfold icb
 simp only
 constructor
 ·intro h
  have hc:Can s:=by
   split at h
   ·rename_i h0
    subst h0
    exact ZiJ 0
   ·rename_i h0
    simp only[Bool.not_eq_true',decide_eq_false_iff_not] at h
    exact ZmD (by rw[<-bget];exact h)
  have hm:=Zm0 hc
  refine⟨if n=true then-(vmag s:Int) else(vmag s:Int), ?_⟩
  unfold I
  cases n
  ·simp only[Bool.false_eq_true,if_false,Int.natAbs_natCast,hm]
   rw[We (by omega)]
  ·simp only[if_true,Int.natAbs_neg,Int.natAbs_natCast,hm]
   congr 1
   have hne:vmag s≠0:=fun h0=>by
    rw[h0] at hm
    split at h
    ·cases h
    ·rename_i h1
     exact h1 (hm.symm.trans Zdj)
   simp
   omega
 ·rintro⟨a,h⟩
  unfold I at h
  injection h with h1 h2
  subst h1
  subst h2
  split
  ·rename_i h0
   have:=Zad.1 h0
   simp
   omega
  ·rename_i h0
   simp only[Bool.not_eq_true',decide_eq_false_iff_not]
   intro h1
   have hc:=ZiJ a.natAbs
   rw[bget] at h1
   cases hl:(mag a.natAbs).data.toList with
   |nil=>rw[hl] at h1;cases h1
   |cons y r=>
    rw[hl] at h1
    simp only[List.getElem?_cons_zero,Option.some.injEq] at h1
    unfold Can Top at hc
    rw[hl] at hc
    exact hc y (by simp) h1
theorem Zn7 (a:Int):icb (I a)=true:=Zda.2 ⟨a,rfl⟩
instance Zs7 (x:ZM):SpecC prog 218 [.agg (Zq x)] (.int .i64 (if icb x=true then 0 else 5)) True:=⟨fun _ w=>by
 refine Zb Tryz.func218 rfl Tryz.ntmps218 rfl ?_
 repeat(refine wkB ?_;intros)
 by_cases h:x.Mag=ByteArray.empty
 ·have e:icb x= !x.Neg:=by unfold icb;rw[if_pos h]
  have hd:=Wc (show x.Mag=⟨#[]⟩ from h)
  rw[e]
  simp only[hd]
  repeat(refine wkB ?_;intros)
  rcases hN:x.Neg with _|_
  ·repeat(refine wkB ?_;intros)
   simp only[hd,Bool.not_true]
   repeat(refine wkB ?_;intros)
   exact rtT rfl rfl
  ·repeat(refine wkB ?_;intros)
   exact rtT rfl rfl
 ·have e:icb x= !decide (x.Mag[0]? =some 0):=by unfold icb;rw[if_neg h]
  have hd:=We (show¬x.Mag=⟨#[]⟩ from h)
  rw[e]
  simp only[hd]
  repeat(refine wkB ?_;intros)
  simp only[hd,Bool.not_false]
  repeat(refine wkB ?_;intros)
  obtain⟨u,hu⟩:∃u,x.Mag[0]? =some u:=by
   rw[bget]
   cases hl:x.Mag.data.toList with
   |nil=>
    refine absurd ?_ h
    have h2:x.Mag.data=#[]:=by rw[<-Array.toArray_toList (xs:=x.Mag.data),hl]
    cases hx:x.Mag with
    |mk d=>
     rw[hx] at h2
     simp only at h2
     subst h2
     rfl
   |cons y r=>exact⟨y,rfl⟩
  refine jq (ZbK rfl rfl (by omega) (show x.Mag[(0:Int).toNat]? =some u from hu)) rfl rfl ?_
  repeat(refine wkB ?_;intros)
  have hd:decide (((u.toNat:Nat):Int)=0)=decide (x.Mag[0]? =some 0):=by
   rw[hu,decide_eq_decide]
   simp only[Option.some.injEq]
   constructor
   ·intro h0
    exact UInt8.toNat_inj.1 (by simpa using h0)
   ·intro h0
    subst h0
    rfl
  rw[hd]
  rcases hq:decide (x.Mag[0]? =some 0) with _|_
  ·repeat(refine wkB ?_;intros)
   exact rtT rfl rfl
  ·repeat(refine wkB ?_;intros)
   exact rtT rfl rfl⟩
def rcb (x:ZR):Bool:=icb x.Num&&(icb x.Den&&(decide (x.Den=I 0)||(!decide (Lib.compareInt (ival x.Den) 1<=0)&&decide ((Int.gcd (ival x.Num) (ival x.Den):Int)=1))))
where ival (x:ZM):Int:=if x.Neg=true then-(vmag x.Mag:Int) else vmag x.Mag
theorem Zc5 (a:Int):rcb.ival (I a)=a:=by
 unfold rcb.ival I
 simp only[ZbP,decide_eq_true_eq]
 split <;> omega
theorem Zpr {x:ZR}:rcb x=true↔∃q:Rat,x=Q q:=by
 obtain⟨n,d⟩:=x
 unfold rcb
 simp only[Wq,Bool.or_eq_true,Bool.not_eq_true',decide_eq_true_eq,decide_eq_false_iff_not]
 constructor
 ·rintro⟨h1,h2,h3⟩
  obtain⟨a,rfl⟩:=Zda.1 h1
  obtain⟨b,rfl⟩:=Zda.1 h2
  rw[Zc5,Zc5,Zch] at h3
  rcases h3 with rfl|⟨h3,h4⟩
  ·exact⟨(a:Rat),(Zov a)⟩
  ·have hb:1<b:=by
    unfold Lib.compareInt at h3
    split at h3
    ·omega
    ·split at h3 <;> omega
   have hc:Nat.Coprime a.natAbs b.natAbs:=by
    have:Int.gcd a b=1:=by omega
    exact this
   refine⟨⟨a,b.natAbs,by omega,hc⟩, ?_⟩
   unfold Q dn
   simp only
   rw[if_neg (by omega)]
   congr 2
   omega
 ·rintro⟨q,h⟩
  unfold Q at h
  injection h with h1 h2
  subst h1
  subst h2
  refine⟨Zn7 _,Zn7 _, ?_⟩
  rw[Zc5,Zc5,Zch]
  have hp:=q.den_pos
  by_cases hd:q.den=1
  ·exact .inl (ZfC.2 hd)
  ·have e:dn q=q.den:=by unfold dn;rw[if_neg hd]
   refine .inr ⟨?_, ?_⟩
   ·rw[e]
    unfold Lib.compareInt
    rw[if_neg (by omega),if_pos (by omega)]
    omega
   ·rw[e]
    have hc:=q.reduced
    have h0:Int.gcd q.num (q.den:Int)=1:=hc
    omega
theorem Zsk (q:Rat):rcb (Q q)=true:=Zpr.2 ⟨q,rfl⟩
theorem Zqz {n d:ZM}:rcb ⟨n,d⟩=(icb n&&(icb d&&(decide (d=I 0)||(!decide (Lib.compareInt (rcb.ival d) 1<=0)&&decide ((Int.gcd (rcb.ival n) (rcb.ival d):Int)=1))))):=rfl
instance Zkd (x:ZR):SpecC prog 196 [.agg (Zl x)] (.int .i64 (if rcb x=true then 0 else 5)) (x.Num.Mag.size<=LIM/\x.Den.Mag.size<=LIM):=⟨fun hp w=>by
 obtain⟨p1,p2⟩:=hp
 refine Zb Tryz.func196 rfl Tryz.ntmps196 rfl ?_
 repeat(refine wkB ?_;intros)
 rcases hn:icb x.Num with _|_
 ·rw[show rcb x=false by unfold rcb;rw[hn];rfl]
  repeat(refine wkB ?_;intros)
  exact rtT rfl rfl
 repeat(refine wkB ?_;intros)
 rcases hd:icb x.Den with _|_
 ·rw[show rcb x=false by unfold rcb;rw[hn,hd];rfl]
  repeat(refine wkB ?_;intros)
  exact rtT rfl rfl
 obtain⟨a,ha⟩:=Zda.1 hn
 obtain⟨b,hb⟩:=Zda.1 hd
 obtain⟨n,d⟩:=x
 simp only at ha hb p1 p2 hn hd⊢
 subst ha
 subst hb
 rw[Zqz,hn,hd,Zc5,Zc5,Bool.true_and,Bool.true_and]
 have hz:decide (I b=I 0)=decide (b=0):=by rw[decide_eq_decide];exact Zch
 rw[hz]
 repeat(refine wkB ?_;intros)
 by_cases hb:b=0
 ·simp only[Wc hb]
  repeat(refine wkB ?_;intros)
  exact rtT rfl rfl
 ·simp only[We hb]
  repeat(refine wkB ?_;intros)
  refine jD 14 14 (h:=?_)
  (repeat(refine wkH ?_))
  rcases hc:decide (Lib.compareInt b 1<=0) with _|_
  ·(repeat(first|refine wkH ?_|(refine tC rfl rfl ?_ ?_;focus(first|exact trivial|exact⟨p1,p2⟩))))
   refine Zm ?_
   refine Zp ?_
   repeat(refine wkB ?_;intros)
   rcases hg:decide (((Int.gcd a b:Nat):Int)=1) with _|_
   ·repeat(refine wkB ?_;intros)
    exact rtT rfl rfl
   ·repeat(refine wkB ?_;intros)
    exact rtT rfl rfl
  ·(repeat(refine wkH ?_))
   refine Zm ?_
   refine Zp ?_
   repeat(refine wkB ?_;intros)
   exact rtT rfl rfl⟩
instance (priority :=high) ZtV (q:Rat):SpecC prog 196 [vQ q] (.int .i64 0) (M q<=LQ):=⟨fun hp w=>by
 have h:=(Zkd (Q q)).out ⟨?_, ?_⟩ w
 ·rw[Zsk] at h
  exact h
 ·have:=Wi (Zbd q) hp
  exact Wi this (by decide)
 ·show(mag (dn q).natAbs).size<=LIM
  have h1:=Wi (Za1 q) hp
  unfold dn
  split
  ·decide
  ·exact Wi h1 (by decide)⟩
end
end Go.Vt
