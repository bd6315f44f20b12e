/- that a label follows another one where the units say so (part 21 of 25.) Conditions: those that each statement names. -/
import Derived.Test.YtcgkgdgpdpihmaaGreatDoorProg
import Derived.Test.YtcgkgdgpdpihmaaGreatDoorCards
import Derived.Test.YtcgkgdgpdpihmaaGreatDoorTie
import Derived.WalkKit
import Derived.ProofKit
import Derived.OpenShut
import Derived.Deep.DeepHandedRow
import Derived.Deep.DeepLaidRun
import Derived.Deep.SlicePairs
import Derived.Carry
import Derived.Lib.LaidU8
import Derived.Test.YtcgkgdgpdpihmaaGreatDoorKF9
import Derived.Test.YtcgkgdgpdpihmaaGreatDoorKF11
import Derived.Test.YtcgkgdgpdpihmaaGreatDoorKF20
set_option linter.unusedSimpArgs false
set_option linter.unusedVariables false
set_option maxHeartbeats 2000000
set_option maxRecDepth 100000
set_option linter.unusedSectionVars false
namespace Go.Vt
open Go.RowKit Go.Proofs
open Go.Proofs.Tryz (prog)
theorem Zm0 {P:Program}{w0:World}{n:Nat}{Q:Exit->Act->World->Prop}{E:Env}{L:List Blk}{S:Type}{id id':Nat}(I:S->Prop)(Es:S->Env)(Ls:S->List Blk){x y:Code}(h1:J P w0 n x (Exit.inBlock id (Exit.inBlock id' (MidQ w0 n I Es Ls (fun _ _=>True) Q))) E L)(h2:∀s,I s->J P w0 n y Q (Es s) (Ls s)):J P w0 n x (Exit.inBlock id (Exit.inBlock id' (Then P y Q))) E L:=⟨fun a w ha hw=>wp_mono (h1.out a w ha hw) (ZN (ZN (ZV h2)))⟩
abbrev St :=Z6
abbrev rSt :=Zam
instance ZjP :EncC rSt 13:=⟨fun _=>CsC.size,fun _=>CsC.one⟩
instance : Inhabited St:=⟨ZcJ⟩
structure StOk (x:St):Prop where
 a:WSOk x.In
 l:0<=x.Label/\x.Label<=255
noncomputable def inS (l:List St):Nat->List Za
 |0=>[]
 |m+1=>inS l m++[ivS (gi l (m:Int)).In]
theorem ZeZ (l:List St):∀m,(inS l m).length=m
 |0=>rfl
 |m+1=>by rw[inS,Wp,ZeZ l m];rfl
theorem Zkx {l:List St}(h:∀x∈l,StOk x):∀m,m<=l.length->∀i∈inS l m,IvOk 3 i
 |0,_,i,hi=>by cases hi
 |m+1,hm,i,hi=>by
  rw[inS,Wv,Wo] at hi
  rcases hi with hi|rfl
  ·exact Zkx h m (by omega) i hi
  ·exact Zp9 (h _ (ZB (by omega))).a
noncomputable def cndS (ins:List Za)(c:Za)(k:Nat):Bool:=spB [gi ins (k:Int)] c.From c.To&&(!decide (c.From=c.To)||inB (gi ins (k:Int)) c.From)
noncomputable def pkS (ins:List Za)(c:Za):Nat->Option Nat
 |0=>none
 |m+1=>if cndS ins c m=true then some m else pkS ins c m
noncomputable def mv1 (l:List St)(ins:List Za)(c:Za)(out:List PU):List PU:=match pkS ins c ins.length with
 |some k=>out++[⟨c,(gi l (k:Int)).Label % 5⟩]
 |none=>out
noncomputable def mvS (l:List St)(ins cs:List Za):Nat->List PU
 |0=>[]
 |i+1=>mv1 l ins (gi cs (i:Int)) (mvS l ins cs i)
theorem Zni (l:List St)(ins:List Za)(c:Za)(out:List PU):(mv1 l ins c out).length<=out.length+1:=by
 unfold mv1
 split <;> simp
theorem ZdH (l:List St)(ins cs:List Za):∀i,(mvS l ins cs i).length<=i
 |0=>Wl _
 |i+1=>by
  have h1:=ZdH l ins cs i
  have h2:=Zni l ins (gi cs (i:Int)) (mvS l ins cs i)
  rw[mvS]
  omega
noncomputable def insV (l:List St):List Za:=inS l (min l.length 8)
noncomputable def celV (l:List St):List Za:=celR (nrmS (insV l)) (enR (insV l))
noncomputable def movU (l:List St):List PU:=mvS l (insV l) (celV l) (celV l).length
noncomputable def movV (l:List St):List PU:=jnL (movU l) (movU l).length
theorem ZgQ (l:List St):(insV l).length<=8/\(insV l).length<=l.length:=by
 unfold insV
 rw[ZeZ]
 omega
theorem ZgY (l:List St):(celV l).length<=160:=by
 have h1:=(ZgQ l).1
 have h2:=Zgc (insV l)
 have h3:=ZdP (insV l)
 have h4:=ZlH (nrmS (insV l)) (enR (insV l))
 unfold celV
 omega
theorem Zf2 (l:List St):(movV l).length<=160:=by
 have h1:=ZgY l
 have h2:=ZdH l (insV l) (celV l) (celV l).length
 have h3:=Ze6 (movU l) (movU l).length
 unfold movV
 have h4:(movU l).length=(mvS l (insV l) (celV l) (celV l).length).length:=rfl
 omega
theorem ZcU {l:List St}(h:∀x∈l,StOk x):∀i∈insV l,IvOk 3 i:=Zkx h _ (Nat.min_le_left _ _)
theorem Znb {l:List St}(h:∀x∈l,StOk x):∀i∈celV l,IvOk 3 i:=fun i hi=>by
 have h1:∀i∈insV l,RlB 3 i.From/\RlB 3 i.To:=fun i hi=>⟨(ZcU h i hi).a,(ZcU h i hi).b⟩
 have:=Zok (Pr:=RlB 3) (ZkX h1) (Zi6 h1) i hi
 exact⟨this.1,this.2⟩
theorem ZnG {l:List St}(h:∀x∈l,StOk x):∀i∈nrmS (insV l),IvOk 3 i:=fun i hi=>by
 have h1:∀i∈insV l,RlB 3 i.From/\RlB 3 i.To:=fun i hi=>⟨(ZcU h i hi).a,(ZcU h i hi).b⟩
 have:=ZkX (Pr:=RlB 3) h1 i hi
 exact⟨this.1,this.2⟩
set_option maxHeartbeats 32000000 in
theorem Zhs (v:Value)(l:List St)(w:World)(hv:ArgS w v rSt l)(hl:l.length<=9223372036854775807)(hk:∀x∈l,StOk x):
  Calls prog 17 [v].toArray w (RetM (SlS rP 21 (movV l)) (fun q=>vSl q) (fun q=>mS 46 q) w):=by
 obtain⟨p,cp,rfl⟩:=hv.form
 refine Zb Tryz.func17 rfl Tryz.ntmps17 rfl ?_
 repeat(refine wkB ?_;intros)
 refine Zaw (S:=SlS rI 20 (insV l)) (fun _=>True) (fun q=>[(0, .slice p l.length cp),(3,vSl q)]) (fun q=>mS 37 q) ?_ (fun q _=>?_)
 ·refine Zp (S:=(_:Nat)×(o:List Za)×SlS rI 20 o) (fun q=>q.1<=min l.length 8/\q.2.1=inS l q.1) (fun q=>[(0, .slice p l.length cp),(3,vSl q.2.2),(4, .int .i64 (q.1:Nat))]) (fun q=>mS 37 q.2.2) (fun q=>8-q.1) ⟨0,[],SlS.no⟩ ⟨Wm _,rfl⟩ sbB suB (fun q hq=>?_)
  obtain⟨i,out,o⟩:=q
  obtain⟨hq,ho⟩:=hq
  dsimp only at hq ho⊢
  have hln:out.length=i:=by rw[ho];exact ZeZ l i
  have hend:i=min l.length 8->out=insV l:=fun h=>by rw[ho,h];rfl
  have hnxt:out++[ivS (gi l (i:Int)).In]=inS l (i+1):=by rw[ho];rfl
  clear ho
  repeat(refine wkB ?_;intros)
  by_cases c1:i<l.length
  ·simp only[Wc (show(i:Int)<(l.length:Nat) by omega)]
   repeat(refine wkB ?_;intros)
   refine Zi rfl (fun h=>?_) (fun h=>?_)
   ·have c2:i<8:=by have:=Wa h;omega
    have hne:l≠[]:=fun h0=>by rw[h0] at c1;simp at c1
    obtain⟨bw,ow,cw,hvw,hcw,hrow⟩:=hv.blk (k:=12) hne []
    injection hvw with x1 x2 x3
    subst x1 x3
    have hrow':∀L,RowC w L bw ow St rSt l:=fun L=>⟨fun w' hw'=>hrow.out w' (hw'.sub (Wk _))⟩
    have hki:=(hk (gi l (i:Int)) (ZB (by omega))).a
    repeat(first|(refine wkB ?_;intros)|(refine wnM ?_ ?_;(focus(exact hki));intros))
    refine sU (k:=20) (enc:=rI) (s:=o) rfl rfl ?_ ?_ ?_ ?_
    ·rfl
    ·rfl
    ·exact⟨by decide,by omega,by omega⟩
    intro s'
    repeat(first|(refine wkB ?_;intros)|(refine wnM ?_ ?_;(focus(exact⟨by omega,by omega⟩));intros))
    exact Zf ⟨i+1,_,s'⟩ ⟨by show i+1<=min l.length 8;omega,hnxt⟩ sbB suB (by show 8-(i+1)<8-i;omega)
   ·have hge:i=min l.length 8:=by have:=Wb h;omega
    obtain⟨s',f1,f2⟩:=SlS.turn 37 (hend hge) o
    repeat(refine wkB ?_;intros)
    exact Zh s' trivial (by rw[f1];exact sbB) (by rw[f2];exact suB)
  ·have hge:i=min l.length 8:=by omega
   obtain⟨s',f1,f2⟩:=SlS.turn 37 (hend hge) o
   simp only[We (show¬(i:Int)<(l.length:Nat) by omega)]
   repeat(refine wkB ?_;intros)
   exact Zh s' trivial (by rw[f1];exact sbB) (by rw[f2];exact suB)
 have hil:=ZgQ l
 have hio:=ZcU hk
 have hno:=ZnG hk
 have p1:(insV l).length<=1024/\∀i∈insV l,IvOk B28 i:=⟨by omega,fun i hi=>(hio i hi).mono (by decide)⟩
 have p2:(insV l).length<=65536/\∀i∈insV l,IvOk B28 i:=⟨by omega,p1.2⟩
 have p3:CelIn (nrmS (insV l)) (enR (insV l)):=by
  have h1:=Zgc (insV l)
  have h2:=ZdP (insV l)
  exact⟨by omega,by omega,fun i hi=>(hno i hi).mono (by decide),(Zep p1.2).b⟩
 have hco:=Znb hk
 have hcl:=ZgY l
 have hfin:movV l=jnL (mvS l (insV l) (celV l) (celV l).length) (mvS l (insV l) (celV l) (celV l).length).length:=rfl
 rw[hfin]
 have hcv:celV l=celR (nrmS (insV l)) (enR (insV l)):=rfl
 rw[hcv] at hco hcl⊢
 clear hcv hfin
 generalize insV l=ins at*
 repeat(first|(refine wkB ?_;intros)|(refine wnM ?_ ?_;(focus(first|exact p1|exact p2|exact p3));intros))
 rename_i s3 s2 sc
 generalize celR (nrmS ins) (enR ins)=cs at*
 refine Zaw (S:=SlS rP 21 (mvS l ins cs cs.length)) (fun _=>True) (fun o=>[(6,vSl o)]) (fun o=>mS 46 o) ?_ (fun o _=>?_)
 ·refine Zp (S:=(_:Nat)×(o:List PU)×SlS rP 21 o) (fun k=>k.1<=cs.length/\k.2.1=mvS l ins cs k.1) (fun k=>[(0, .slice p l.length cp),(3,vSl q),(5,vSl sc),(6,vSl k.2.2),(7, .int .i64 (k.1:Nat))]) (fun k=>mS 46 k.2.2++(mS 37 sc++mS 37 q)) (fun k=>cs.length-k.1) ⟨0,[],SlS.no⟩ ⟨Wm _,rfl⟩ sbB suB (fun k hk'=>?_)
  obtain⟨i,out,o⟩:=k
  obtain⟨hik,ho⟩:=hk'
  dsimp only at hik ho⊢
  have hln:out.length<=i:=by rw[ho];exact ZdH l ins cs i
  have hend:i=cs.length->out=mvS l ins cs cs.length:=fun h=>by rw[ho,h]
  have hnxt:mv1 l ins (gi cs (i:Int)) out=mvS l ins cs (i+1):=by rw[ho];rfl
  clear ho
  repeat(refine wkB ?_;intros)
  refine Zi rfl (fun h=>?_) (fun h=>?_)
  ·have hlt:i<cs.length:=by have:=Wa h;omega
   have hcI:=(hco (gi cs (i:Int)) (ZB (by omega))).mono (K':=B28) (by decide)
   rcases sc.cases 37 with⟨z0,z1,z2⟩|⟨bc,cc,spc,hcc,z1,z2,zne⟩
   ·rw[z0] at hlt
    cases hlt
   repeat(refine wkB ?_;intros)
   refine Zm0 (S:=SlS rP 21 (mv1 l ins (gi cs (i:Int)) out)) (fun _=>True) (fun o=>[(0, .slice p l.length cp),(3,vSl q),(5,vSl sc),(6,vSl o),(7, .int .i64 (i:Nat))]) (fun o=>mS 46 o++(mS 37 sc++mS 37 q)) ?_ (fun o' _=>?_)
   ·refine Zp (S:=Nat) (fun m=>m<=ins.length/\pkS ins (gi cs (i:Int)) ins.length=pkS ins (gi cs (i:Int)) m) (fun m=>[(0, .slice p l.length cp),(3,vSl q),(5,vSl sc),(6,vSl o),(7, .int .i64 (i:Nat)),(8, .int .i64 ((m:Int)-1))]) (fun _=>mS 46 o++(mS 37 sc++mS 37 q)) (fun m=>m) ins.length ⟨Wl _,rfl⟩ sbB suB (fun m hm=>?_)
    obtain⟨hm,hpk⟩:=hm
    repeat(refine wkB ?_;intros)
    refine Zi rfl (fun h=>?_) (fun h=>?_)
    ·obtain⟨m,rfl⟩:∃m',m=m'+1:=⟨m-1,by have:=Wa h;omega⟩
     have e1:((m+1:Nat):Int)-1=(m:Int):=by omega
     have hml:m<l.length:=by omega
     obtain⟨bw,ow,rfl,hrow'⟩:=hv.opn (k:=12) hml
     have hlb:=(hk (gi l (m:Int)) (ZB (by omega))).l
     have hiI:=(hio (gi ins (m:Int)) (ZB (by omega))).mono (K':=B28) (by decide)
     rcases q.cases 37 with⟨y0,y1,y2⟩|⟨bq,cq,sp,hcq,y1,y2,yne⟩
     ·rw[y0] at hm
      cases hm
     have hS:∀L [h:AtC w L bq (row rI ins sp) 37],LstC w L (.slice (some ⟨bq,0+((m:Int)).toNat*20,none⟩) (((m:Int)+1-m)).toNat ((cq:Int)-m).toNat) Za rI [gi ins (m:Int)]:=fun L h=>⟨fun w' hw'=>by
      obtain⟨fz,hb⟩:=h.out w' hw'
      have h1:=(Zbu (c:=cq) hb hcq.1).take (m+1) (by omega)
      have h2:=h1.drop (s:=20) m (by omega)
      have h3:dropA (some ⟨bq,0,none⟩) cq m 20=some ⟨bq,0+((m:Int)).toNat*20,none⟩:=by
       unfold dropA
       rw[if_neg (by omega)]
       simp[Addr.add]
       intro h0
       omega
      have h4:(ins.take (m+1)).drop m=[gi ins (m:Int)]:=by
       rw[List.drop_take,Zw (by omega)]
       have:m+1-m=1:=by omega
       rw[this,List.take_one,List.head?_drop,List.getElem?_eq_getElem (by omega)]
       rfl
      have h5:((m:Int)+1-m).toNat=m+1-m:=by omega
      have h6:((cq:Int)-m).toNat=cq-m:=by omega
      rw[h3,h4] at h2
      rw[h5,h6]
      exact h2⟩
     have q1:[gi ins (m:Int)].length<=1048576/\(∀i∈[gi ins (m:Int)],IvOk B28 i)/\RtB (gi cs (i:Int)).From/\RtB (gi cs (i:Int)).To:=⟨by simp,fun i hi=>by rw[Wo] at hi;rw[hi];exact hiI,hcI.a,hcI.b⟩
     have q2:IvOk B28 (gi ins (m:Int))/\RtB (gi cs (i:Int)).From:=⟨hiI,hcI.a⟩
     simp only[e1,y1,y2,z1,z2,Wf,Wg]
     repeat(refine wkB ?_;intros)
     refine jD 41 41 (h:=?_)
     (repeat(first|refine wkH ?_|(refine tC rfl rfl ?_ ?_;focus(exact q1))))
     cases g1:spB [gi ins (m:Int)] (gi cs (i:Int)).From (gi cs (i:Int)).To with
     |false=>
      (repeat(refine wkH ?_))
      refine Zo ?_
      refine Zr ?_
      repeat(refine wkB ?_;intros)
      have hcf:cndS ins (gi cs (i:Int)) m=false:=by unfold cndS;rw[g1];rfl
      have hp:pkS ins (gi cs (i:Int)) (m+1)=pkS ins (gi cs (i:Int)) m:=by rw[pkS,hcf];rfl
      repeat(first|(refine wkB ?_;intros)|(refine wnM ?_ ?_;(focus(exact⟨by omega,by omega⟩));intros))
      exact Zf m ⟨by omega,by rw[hpk,hp]⟩ (by(try simp only[y1,z1]);exact sbB) (by(try simp only[y2,z2,Wf,Wg]);exact suB) (by omega)
     |true=>
      (repeat(refine wkH ?_))
      by_cases g2:(gi cs (i:Int)).From=(gi cs (i:Int)).To
      ·simp only[Wc g2,Bool.not_true]
       (repeat(first|refine wkH ?_|(refine tC rfl rfl ?_ ?_;focus(exact q2))))
       refine Zo ?_
       refine Zr ?_
       cases g3:inB (gi ins (m:Int)) (gi cs (i:Int)).From with
       |false=>
        repeat(refine wkB ?_;intros)
        have hcf:cndS ins (gi cs (i:Int)) m=false:=by unfold cndS;rw[g1,Wc g2,g3];rfl
        have hp:pkS ins (gi cs (i:Int)) (m+1)=pkS ins (gi cs (i:Int)) m:=by rw[pkS,hcf];rfl
        repeat(first|(refine wkB ?_;intros)|(refine wnM ?_ ?_;(focus(exact⟨by omega,by omega⟩));intros))
        exact Zf m ⟨by omega,by rw[hpk,hp]⟩ (by(try simp only[y1,z1]);exact sbB) (by(try simp only[y2,z2,Wf,Wg]);exact suB) (by omega)
       |true=>
        have hct:cndS ins (gi cs (i:Int)) m=true:=by unfold cndS;rw[g1,Wc g2,g3];rfl
        have hp:pkS ins (gi cs (i:Int)) ins.length=some m:=by rw[hpk,pkS,hct];rfl
        have hci:out++[⟨gi cs (i:Int),(gi l (m:Int)).Label % 5⟩]=mv1 l ins (gi cs (i:Int)) out:=by unfold mv1;rw[hp]
        repeat(refine wkB ?_;intros)
        (refine ZE (.v [0,1,2,3,4,5,6,7,8,9,10,11,12] (.e1 13 (.e1 14 (.e1 15 (.fin))))) ([⟨bc,row rI cs spc,37⟩]) (h:=?_);refine wkX ?_)
        (repeat(refine wkH ?_))
        repeat(refine wkT ?_;intros)
        refine eU (k:=21) (enc:=rP) (s:=o) rfl rfl ?_ ?_ ?_ ?_
        ·rfl
        ·rfl
        ·exact⟨by decide,by omega,by omega⟩
        intro s0
        obtain⟨s',f1,f2⟩:=SlS.turn 46 hci s0
        repeat(refine wkT ?_;intros)
        repeat(refine wkB ?_;intros)
        exact Zh s' trivial (by simp only[y1,z1,f1];exact sbB) (by simp only[y2,z2,f2,Wf,Wg];exact suB)
      ·simp only[We g2,Bool.not_false]
       (repeat(refine wkH ?_))
       refine Zo ?_
       refine Zr ?_
       have hct:cndS ins (gi cs (i:Int)) m=true:=by unfold cndS;rw[g1,We g2];rfl
       have hp:pkS ins (gi cs (i:Int)) ins.length=some m:=by rw[hpk,pkS,hct];rfl
       have hci:out++[⟨gi cs (i:Int),(gi l (m:Int)).Label % 5⟩]=mv1 l ins (gi cs (i:Int)) out:=by unfold mv1;rw[hp]
       repeat(refine wkB ?_;intros)
       (refine ZE (.v [0,1,2,3,4,5,6,7,8,9,10,11,12] (.e1 13 (.e1 14 (.e1 15 (.fin))))) ([⟨bc,row rI cs spc,37⟩]) (h:=?_);refine wkX ?_)
       (repeat(refine wkH ?_))
       repeat(refine wkT ?_;intros)
       refine eU (k:=21) (enc:=rP) (s:=o) rfl rfl ?_ ?_ ?_ ?_
       ·rfl
       ·rfl
       ·exact⟨by decide,by omega,by omega⟩
       intro s0
       obtain⟨s',f1,f2⟩:=SlS.turn 46 hci s0
       repeat(refine wkT ?_;intros)
       repeat(refine wkB ?_;intros)
       exact Zh s' trivial (by simp only[y1,z1,f1];exact sbB) (by simp only[y2,z2,f2,Wf,Wg];exact suB)
    ·have hm0:m=0:=by have:=Wb h;omega
     have hci:out=mv1 l ins (gi cs (i:Int)) out:=by unfold mv1;rw[hpk,hm0];rfl
     obtain⟨s',f1,f2⟩:=SlS.turn 46 hci o
     repeat(refine wkB ?_;intros)
     exact Zh s' trivial (by rw[f1];exact sbB) (by rw[f2];exact suB)
   ·repeat(first|(refine wkB ?_;intros)|(refine wnM ?_ ?_;(focus(exact⟨by omega,by omega⟩));intros))
    exact Zf ⟨i+1,_,o'⟩ ⟨hlt,hnxt⟩ sbB suB (by show cs.length-(i+1)<cs.length-i;omega)
  ·have hge:i=cs.length:=by have:=Wb h;omega
   obtain⟨s',f1,f2⟩:=SlS.turn 46 (hend hge) o
   repeat(refine wkB ?_;intros)
   exact Zh s' trivial (by rw[f1];exact sbB) (by rw[f2];exact suB)
 have hul:(mvS l ins cs cs.length).length<=1048576:=by have:=ZdH l ins cs cs.length;omega
 repeat(first|(refine wkB ?_;intros)|(refine wnM ?_ ?_;(focus(exact hul));intros))
 rename_i r
 exact Zz rfl rfl (fun w hw=>⟨r,rfl,hw.sub suB⟩)
instance ZsS (w0:World)(L:List Blk)(v:Value)(l:List St)[h:LstC w0 L v St rSt l]:SpecR prog w0 L 17 [v] (SlS rP 21 (movV l)) (fun q=>vSl q) (fun q=>mS 46 q) (l.length<=9223372036854775807/\∀x∈l,StOk x):=⟨fun hp w hw=>Zhs v l w (h.out w hw) hp.1 hp.2⟩
end Go.Vt
namespace Go.Proofs.YtcgkgdgpdpihmaaGreatDoor
open Go.ChangeShapes Go.WideShapes Go.ChangeAt Go.RowKit Go.Deep Go.Vt
theorem rown :ownKnob Tryz.prog.godebug=none:=by kernel_rfl
theorem rlaidOut :laidOutB Tryz.prog=true:=by kernel_rfl
theorem runder23 :Tryz.prog.underlying 23=some (.slice 44):=by kernel_rfl
theorem rc44 :Tryz.prog.cellsOf 44=13:=by kernel_rfl
theorem rc42 :Tryz.prog.cellsOf 42=12:=by kernel_rfl
theorem rc40 :Tryz.prog.cellsOf 40=5:=by kernel_rfl
theorem ru5 :Tryz.prog.underlying 5=some (.int .u8):=by kernel_rfl
theorem ru4 :Tryz.prog.underlying 4=some .bool:=by kernel_rfl
theorem rc5 :Tryz.prog.cellsOf 5=1:=by kernel_rfl
theorem rc4 :Tryz.prog.cellsOf 4=1:=by kernel_rfl
theorem ru40 :∃f0 f1 f2 f3 f4,Tryz.prog.underlying 40=some (.struct #[f0,f1,f2,f3,f4])/\f0.type=5/\f1.type=5/\f2.type=5/\f3.type=5/\f4.type=4/\f0.offset=0/\f1.offset=1/\f2.offset=2/\f3.offset=3/\f4.offset=4:=⟨_,_,_,_,_,Tryz.underlying40,rfl,rfl,rfl,rfl,rfl,rfl,rfl,rfl,rfl,rfl⟩
theorem ru42 :∃f0 f1 f2 f3,Tryz.prog.underlying 42=some (.struct #[f0,f1,f2,f3])/\f0.type=40/\f1.type=40/\f2.type=4/\f3.type=4/\f0.offset=0/\f1.offset=5/\f2.offset=10/\f3.offset=11:=⟨_,_,_,_,Tryz.underlying42,rfl,rfl,rfl,rfl,rfl,rfl,rfl,rfl⟩
theorem ru44 :∃f0 f1,Tryz.prog.underlying 44=some (.struct #[f0,f1])/\f0.type=42/\f1.type=5/\f0.offset=0/\f1.offset=12:=⟨_,_,Tryz.underlying44,rfl,rfl,rfl,rfl⟩
theorem Zc0 {n:Int}(h:(Lit.int .u8 n).wf=true):0<=n/\n<=255:=by
 simp only[Lit.wf,Bool.and_eq_true,decide_eq_true_eq] at h
 exact⟨h.1,h.2⟩
section
variable {H : Type} {eH : TypeId × Value -> H} {W : World} {base : Nat} {sp : Nat -> Bool} {held : Bool}
theorem Zfe (n:Nat)(cs:List Value)(y:DataW H×List MemPlace)(h:DataW.trod eH Tryz.prog W base sp held n 40 cs=some y):∃x:WI,cs=(ZG x).toList/\WIOk x:=by
 obtain⟨f0,f1,f2,f3,f4,he,t0,t1,t2,t3,t4,o0,o1,o2,o3,o4⟩:=ru40
 obtain⟨xs,k,hk,hxy,hlen,hxl,hf⟩:=DataW.trod_struct he h
 rw[rc40] at hlen
 match xs,hxl,cs,hlen with
 |[y0,y1,y2,y3,y4],_,[v0,v1,v2,v3,v4],_=>
  have g0:=hf 0 f0 rfl
  have g1:=hf 1 f1 rfl
  have g2:=hf 2 f2 rfl
  have g3:=hf 3 f3 rfl
  have g4:=hf 4 f4 rfl
  simp[o0,o1,o2,o3,o4,t0,t1,t2,t3,t4,rc5,rc4] at g0 g1 g2 g3 g4
  obtain⟨n0,p0,_,q0⟩:=DataW.trod_int ru5 g0
  obtain⟨n1,p1,_,q1⟩:=DataW.trod_int ru5 g1
  obtain⟨n2,p2,_,q2⟩:=DataW.trod_int ru5 g2
  obtain⟨n3,p3,_,q3⟩:=DataW.trod_int ru5 g3
  obtain⟨n4,p4,_⟩:=DataW.trod_bool ru4 g4
  simp only[List.cons.injEq,and_true] at p0 p1 p2 p3 p4
  subst p0 p1 p2 p3 p4
  exact⟨⟨n0,n1,n2,n3,n4⟩,rfl,⟨Zc0 q0,Zc0 q1,Zc0 q2,Zc0 q3⟩⟩
theorem ZjD (n:Nat)(cs:List Value)(y:DataW H×List MemPlace)(h:DataW.trod eH Tryz.prog W base sp held n 42 cs=some y):∃x:WS,cs=(ZR x).toList/\WSOk x:=by
 obtain⟨f0,f1,f2,f3,he,t0,t1,t2,t3,o0,o1,o2,o3⟩:=ru42
 obtain⟨xs,k,hk,hxy,hlen,hxl,hf⟩:=DataW.trod_struct he h
 rw[rc42] at hlen
 match xs,hxl,cs,hlen with
 |[y0,y1,y2,y3],_,[v0,v1,v2,v3,v4,v5,v6,v7,v8,v9,v10,v11],_=>
  have g0:=hf 0 f0 rfl
  have g1:=hf 1 f1 rfl
  have g2:=hf 2 f2 rfl
  have g3:=hf 3 f3 rfl
  simp[o0,o1,o2,o3,t0,t1,t2,t3,rc40,rc4] at g0 g1 g2 g3
  obtain⟨a,p0,q0⟩:=Zfe _ _ _ g0
  obtain⟨b,p1,q1⟩:=Zfe _ _ _ g1
  obtain⟨n2,p2,_⟩:=DataW.trod_bool ru4 g2
  obtain⟨n3,p3,_⟩:=DataW.trod_bool ru4 g3
  refine⟨⟨a,b,n2,n3⟩, ?_,⟨q0,q1⟩⟩
  show [v0,v1,v2,v3,v4]++([v5,v6,v7,v8,v9]++([v10]++[v11]))=_
  rw[p0,p1,p2,p3]
  rfl
theorem Zna (n:Nat)(cs:List Value)(y:DataW H×List MemPlace)(h:DataW.trod eH Tryz.prog W base sp held n 44 cs=some y):∃x:St,cs=(rSt x).toList/\StOk x:=by
 obtain⟨f0,f1,he,t0,t1,o0,o1⟩:=ru44
 obtain⟨xs,k,hk,hxy,hlen,hxl,hf⟩:=DataW.trod_struct he h
 rw[rc44] at hlen
 match xs,hxl,cs,hlen with
 |[y0,y1],_,[v0,v1,v2,v3,v4,v5,v6,v7,v8,v9,v10,v11,v12],_=>
  have g0:=hf 0 f0 rfl
  have g1:=hf 1 f1 rfl
  simp[o0,o1,t0,t1,rc42,rc5] at g0 g1
  obtain⟨a,p0,q0⟩:=ZjD _ _ _ g0
  obtain⟨n1,p1,_,q1⟩:=DataW.trod_int ru5 g1
  refine⟨⟨a,n1⟩, ?_,⟨q0,Zc0 q1⟩⟩
  show [v0,v1,v2,v3,v4,v5,v6,v7,v8,v9,v10,v11]++[v12]=_
  rw[p0,p1]
  rfl
theorem Zf3 {fuel:Nat}{v:Value}{x:DataW H×List MemPlace}(hs:∃a l c,v= .slice a l c)(h:DataW.trod eH Tryz.prog W base sp held fuel 23 v.cells.toList=some x):
  ∃xs:List St,ArgS W v rSt xs/\(∀x∈xs,StOk x)/\xs.length<=9223372036854775807:=by
 obtain⟨a0,l0,c0,rfl⟩:=hs
 rcases open_slice runder23 h with⟨h0,_⟩|⟨a,len,cap,m,n,D,Pl,hcs,hb,hl,hm,hmm,hx,hcl⟩
 ·simp[Value.cells] at h0
  obtain⟨rfl,rfl,rfl⟩:=h0
  exact⟨[],⟨.inl ⟨rfl,rfl⟩⟩,(fun x hx=>by cases hx),by simp⟩
 ·simp[Value.cells] at hcs
  obtain⟨rfl,rfl,rfl⟩:=hcs
  have hlm:l0<=m:=by rw[hmm];split <;> omega
  have each:∀i,i<l0->∃z:St,(∃cs',W.cells? base (a.add (i*13)) 13=some cs'/\cs'=(rSt z).toList)/\StOk z:=fun i hi=>by
   obtain⟨cs',c1,c2⟩:=hcl i (by omega)
   rw[rc44] at c1
   obtain⟨z,z1,z2⟩:=Zna _ _ _ c2
   exact⟨z,⟨cs',c1,z1⟩,z2⟩
  obtain⟨q,hq⟩:=choose_lt each
  refine⟨(List.range l0).map q,⟨.inr ⟨a,c0,by simp,by simpa using hl,fun i f k' u hi hk hu=>?_⟩⟩,fun z hz=>?_, ?_⟩
  ·simp only[List.length_map,List.length_range] at hi
   obtain rfl:k'=13:=by rw[<-hk default,ZjP.size]
   simp only[List.getElem_map,List.getElem_range] at hu
   obtain⟨cs',c1,c2⟩:=(hq i hi).1
   obtain⟨_,hlen,hcell⟩:=World.cells?_some c1
   have hf:f<13:=by
    have:=(Array.getElem?_eq_some_iff.1 hu).1
    rw[ZjP.size] at this
    exact this
   have h1:=hcell f (by omega)
   rw[add_add] at h1
   rw[h1]
   subst c2
   simpa using hu
  ·obtain⟨i,hi,rfl⟩:=List.mem_map.1 hz
   exact(hq i (List.mem_range.1 hi)).2
  ·simp only[List.length_map,List.length_range]
   have:(maxLen:Nat)=9223372036854775807:=by decide
   omega
end
def cAcc :Array Value:=#[.int .u8 128, .int .u8 191, .int .u8 160, .int .u8 191, .int .u8 128, .int .u8 159, .int .u8 144, .int .u8 191, .int .u8 128, .int .u8 143, .int .u8 0, .int .u8 0, .int .u8 0, .int .u8 0, .int .u8 0, .int .u8 0, .int .u8 0, .int .u8 0, .int .u8 0, .int .u8 0, .int .u8 0, .int .u8 0, .int .u8 0, .int .u8 0, .int .u8 0, .int .u8 0, .int .u8 0, .int .u8 0, .int .u8 0, .int .u8 0, .int .u8 0, .int .u8 0]
def cFirst :Array Value:=(Pinned.utf8FirstZ.map fun(n:Nat)=>Value.int .u8 (n:Int)).toArray
def putCells (cs:Array Value):Obj->Obj
 | .cells _ t frozen=> .cells cs t frozen
 |o=>o
noncomputable def laidWorld (os:Os):World:=
 {World.holding Tryz.prog os ⟨#[],#[],[]⟩ with heap:=((World.holding Tryz.prog os ⟨#[],#[],[]⟩).heap.modify 2 (putCells cFirst)).modify 3 (putCells cAcc)}
theorem Zmd (os:Os)(args:Array Value):laidMet Tryz.prog Rows.movinglabelFollowsRow.laid ((laidWorld os).forCall (fun _ _=>0) ⟨#[],args,[]⟩).memory:=
 laidMet_of_run3 8 (by kernel_rfl) (by kernel_rfl) (by kernel_rfl)
end Go.Proofs.YtcgkgdgpdpihmaaGreatDoor
namespace Go.Vt
open Go.RowKit Go.Proofs
open Go.Proofs.Tryz (prog)
section
set_option maxHeartbeats 8000000 in
theorem Zg9 (v1 v2:Value)(l m:List PU)(w:World)(h1:ArgS w v1 rP l)(h2:ArgS w v2 rP m)(hl:l.length<=1048576/\m.length<=1048576):
  Calls prog 22 [v1,v2].toArray w (Ret (.bool (decide (l=m))) w):=by
 have hav1:=ArgC.mk h1
 have hav2:=ArgC.mk h2
 have A1:=h1
 have A2:=h2
 obtain⟨p,cp,rfl⟩:=h1.form
 obtain⟨q,cq',rfl⟩:=h2.form
 refine Zb Tryz.func22 rfl Tryz.ntmps22 rfl ?_
 repeat(refine wkB ?_;intros)
 by_cases hlen:l.length=m.length
 ·simp only[Wc (show((l.length:Nat):Int)=((m.length:Nat):Int) by omega),Bool.not_true]
  repeat(refine wkB ?_;intros)
  refine Zp (S:=Nat) (fun k=>k<=l.length/\∀j:Nat,j<k->gi l (j:Int)=gi m (j:Int)) (fun k=>[(0, .slice p l.length cp),(1, .slice q m.length cq'),(5, .int .i64 (k:Nat))]) (fun _=>[]) (fun k=>l.length-k) 0 ⟨Wm _,fun j hj=>by omega⟩ sbB slB (fun k hk=>?_)
  obtain⟨hk,hsame⟩:=hk
  repeat(refine wkB ?_;intros)
  refine Zi rfl (fun h=>?_) (fun h=>?_)
  ·have hlt:k<l.length:=by have:=Wa h;omega
   have hne:l≠[]:=fun h0=>by rw[h0] at hlt;simp at hlt
   have hne2:m≠[]:=fun h0=>by rw[h0] at hlen;rw[hlen] at hlt;simp at hlt
   obtain⟨bw,ow,cw,hvw,hcw,hrow⟩:=A1.blk (k:=20) hne []
   obtain⟨bw',ow',cw',hvw',hcw',hrow2⟩:=A2.blk (k:=20) hne2 []
   injection hvw with x1 x2 x3
   injection hvw' with y1 y2 y3
   subst x1 x3
   subst y1 y3
   have hr1:∀L,RowC w L bw ow PU rP l:=fun L=>⟨fun w' hw'=>hrow.out w' (hw'.sub (Wk _))⟩
   have hr2:∀L,RowC w L bw' ow' PU rP m:=fun L=>⟨fun w' hw'=>hrow2.out w' (hw'.sub (Wk _))⟩
   repeat(refine wkB ?_;intros)
   refine jD 9 9 (h:=?_)
   (repeat(refine wkH ?_))
   refine Zo ?_
   refine Zr ?_
   by_cases he:gi l (k:Int)=gi m (k:Int)
   ·simp only[Wc he,Bool.not_true]
    repeat(first|(refine wkB ?_;intros)|(refine wnM ?_ ?_;(focus(exact⟨by omega,by omega⟩));intros))
    refine Zf (k+1) ⟨hlt,fun j hj=>?_⟩ sbB slB (by omega)
    rcases(by omega:j<k\/j=k) with h1|rfl
    ·exact hsame j h1
    ·exact he
   ·simp only[We he,Bool.not_false]
    repeat(refine wkB ?_;intros)
    rw[We (show¬l=m from fun h0=>he (by rw[h0]))]
    exact rtT rfl rfl
  ·have hge:k=l.length:=by have:=Wb h;omega
   subst hge
   have he:l=m:=List.ext_getElem hlen fun j h1 h2=>by
    have:=hsame j h1
    rwa [Zw h1,Zw h2] at this
   repeat(refine wkB ?_;intros)
   rw[Wc he]
   exact rtT rfl rfl
 ·simp only[We (show¬((l.length:Nat):Int)=((m.length:Nat):Int) by omega),Bool.not_false]
  repeat(refine wkB ?_;intros)
  rw[We (show¬l=m from fun h0=>hlen (by rw[h0]))]
  exact rtT rfl rfl
instance Zr7 (w0:World)(L:List Blk)(v1 v2:Value)(l m:List PU)[h1:LstC w0 L v1 PU rP l][h2:LstC w0 L v2 PU rP m]:SpecM prog w0 L 22 [v1,v2] (.bool (decide (l=m))) (l.length<=1048576/\m.length<=1048576):=⟨fun hp w hw=>Zg9 v1 v2 l m w (h1.out w hw) (h2.out w hw) hp⟩
set_option maxHeartbeats 8000000 in
theorem Zhx (v1 v2:Value)(l m:List PU)(w:World)(h1:ArgS w v1 rP l)(h2:ArgS w v2 rP m)(hl:l.length<=1048576/\m.length<=1048576):
  Calls prog 79 [v1,v2].toArray w (Ret (.bool (decide (l=m))) w):=by
 have hav1:=ArgC.mk h1
 have hav2:=ArgC.mk h2
 have A1:=h1
 have A2:=h2
 obtain⟨p,cp,rfl⟩:=h1.form
 obtain⟨q,cq',rfl⟩:=h2.form
 refine Zb Tryz.func79 rfl Tryz.ntmps79 rfl ?_
 repeat(refine wkB ?_;intros)
 by_cases hlen:l.length=m.length
 ·simp only[Wc (show((l.length:Nat):Int)=((m.length:Nat):Int) by omega),Bool.not_true]
  repeat(refine wkB ?_;intros)
  refine Zp (S:=Nat) (fun k=>k<=l.length/\∀j:Nat,j<k->gi l (j:Int)=gi m (j:Int)) (fun k=>[(0, .slice p l.length cp),(1, .slice q m.length cq'),(12, .int .i64 (l.length:Nat)),(13, .int .i64 (k:Nat))]) (fun _=>[]) (fun k=>l.length-k) 0 ⟨Wm _,fun j hj=>by omega⟩ sbB slB (fun k hk=>?_)
  obtain⟨hk,hsame⟩:=hk
  repeat(refine wkB ?_;intros)
  refine Zi rfl (fun h=>?_) (fun h=>?_)
  ·have hlt:k<l.length:=by have:=Wa h;omega
   have hne:l≠[]:=fun h0=>by rw[h0] at hlt;simp at hlt
   have hne2:m≠[]:=fun h0=>by rw[h0] at hlen;rw[hlen] at hlt;simp at hlt
   obtain⟨bw,ow,cw,hvw,hcw,hrow⟩:=A1.blk (k:=20) hne []
   obtain⟨bw',ow',cw',hvw',hcw',hrow2⟩:=A2.blk (k:=20) hne2 []
   injection hvw with x1 x2 x3
   injection hvw' with y1 y2 y3
   subst x1 x3
   subst y1 y3
   have hr1:∀L,RowC w L bw ow PU rP l:=fun L=>⟨fun w' hw'=>hrow.out w' (hw'.sub (Wk _))⟩
   have hr2:∀L,RowC w L bw' ow' PU rP m:=fun L=>⟨fun w' hw'=>hrow2.out w' (hw'.sub (Wk _))⟩
   repeat(refine wkB ?_;intros)
   refine jD 9 9 (h:=?_)
   (repeat(refine wkH ?_))
   refine Zo ?_
   refine Zr ?_
   by_cases he:gi l (k:Int)=gi m (k:Int)
   ·simp only[Wc he,Bool.not_true]
    repeat(first|(refine wkB ?_;intros)|(refine wnM ?_ ?_;(focus(exact⟨by omega,by omega⟩));intros))
    refine Zf (k+1) ⟨hlt,fun j hj=>?_⟩ sbB slB (by omega)
    rcases(by omega:j<k\/j=k) with h1|rfl
    ·exact hsame j h1
    ·exact he
   ·simp only[We he,Bool.not_false]
    repeat(refine wkB ?_;intros)
    rw[We (show¬l=m from fun h0=>he (by rw[h0]))]
    exact rtT rfl rfl
  ·have hge:k=l.length:=by have:=Wb h;omega
   subst hge
   have he:l=m:=List.ext_getElem hlen fun j h1 h2=>by
    have:=hsame j h1
    rwa [Zw h1,Zw h2] at this
   repeat(refine wkB ?_;intros)
   rw[Wc he]
   exact rtT rfl rfl
 ·simp only[We (show¬((l.length:Nat):Int)=((m.length:Nat):Int) by omega),Bool.not_false]
  repeat(refine wkB ?_;intros)
  rw[We (show¬l=m from fun h0=>hlen (by rw[h0]))]
  exact rtT rfl rfl
instance ZsY (w0:World)(L:List Blk)(v1 v2:Value)(l m:List PU)[h1:LstC w0 L v1 PU rP l][h2:LstC w0 L v2 PU rP m]:SpecM prog w0 L 79 [v1,v2] (.bool (decide (l=m))) (l.length<=1048576/\m.length<=1048576):=⟨fun hp w hw=>Zhx v1 v2 l m w (h1.out w hw) (h2.out w hw) hp⟩
theorem ZhC (v1 v2:Value)(l m:List PU)(w:World)(h1:ArgS w v1 rP l)(h2:ArgS w v2 rP m)(hl:l.length<=1048576/\m.length<=1048576):
  Calls prog 27 [v1,v2].toArray w (Ret (.bool (decide (l=m))) w):=by
 have hL1:=fun L=>h1.lst L
 have hL2:=fun L=>h2.lst L
 refine Zb Tryz.func27 rfl Tryz.ntmps27 rfl ?_
 repeat(first|(refine wkB ?_;intros)|(refine wnM ?_ ?_;(focus(exact hl));intros))
 exact rtT rfl rfl
instance ZrK (w0:World)(L:List Blk)(v1 v2:Value)(l m:List PU)[h1:LstC w0 L v1 PU rP l][h2:LstC w0 L v2 PU rP m]:SpecM prog w0 L 27 [v1,v2] (.bool (decide (l=m))) (l.length<=1048576/\m.length<=1048576):=⟨fun hp w hw=>ZhC v1 v2 l m w (h1.out w hw) (h2.out w hw) hp⟩
end
section
def flB (a b:PU)(x y:Int):Bool:= !decide (a.In.From=a.In.To)&&(!decide (b.In.From=b.In.To)&&(decide (a.In.To=b.In.From)&&(!(a.In.OpenTo&&b.In.OpenFrom)&&(decide (a.Label=x)&&decide (b.Label=y)))))
theorem Zay {a b:PU}{x y:Int}:flB a b x y=true↔True/\¬a.In.From=a.In.To/\¬b.In.From=b.In.To/\a.In.To=b.In.From/\¬(a.In.OpenTo=true/\b.In.OpenFrom=true)/\a.Label=x/\b.Label=y:=by
 unfold flB
 simp only[Wq,Bool.not_eq_true',decide_eq_true_eq,decide_eq_false_iff_not,true_and,<-Bool.not_eq_true]
def flL (l:List PU)(x y:Int):Nat->List Rl
 |0=>[]
 |i+1=>if flB (gi l (i:Int)) (gi l ((i+1:Nat):Int)) x y=true then flL l x y i++[(gi l ((i+1:Nat):Int)).In.From] else flL l x y i
theorem ZeO (l:List PU)(x y:Int):∀i,(flL l x y i).length<=i
 |0=>Wl _
 |i+1=>by
  have h1:=ZeO l x y i
  rw[flL]
  split
  ·rw[Wp];simp;exact h1
  ·omega
instance ZwF (u:PU):SpecC prog 78 [vPU u] (.bool (!decide (u.In.From=u.In.To))) True:=⟨fun _ w=>by
 refine Zb Tryz.func78 rfl Tryz.ntmps78 rfl ?_
 repeat(refine wkB ?_;intros)
 exact rtT rfl rfl⟩
set_option maxHeartbeats 16000000 in
theorem Zg0 (v:Value)(l:List PU)(x y:Int)(w:World)(hv:ArgS w v rP l)(hl:l.length<=1048576):
  Calls prog 26 [v, .int .i64 x, .int .i64 y].toArray w (RetM (SlS Zq 9 (flL l x y (l.length-1))) (fun q=>vSl q) (fun q=>mS 35 q) w):=by
 obtain⟨p,cp,rfl⟩:=hv.form
 refine Zb Tryz.func26 rfl Tryz.ntmps26 rfl ?_
 repeat(refine wkB ?_;intros)
 refine Zaw (S:=SlS Zq 9 (flL l x y (l.length-1))) (fun _=>True) (fun q=>[(7,vSl q)]) (fun q=>mS 35 q) ?_ (fun q _=>?_)
 ·refine Zp (S:=(_:Nat)×(o:List Rl)×SlS Zq 9 o) (fun q=>q.1<=l.length-1/\q.2.1=flL l x y q.1) (fun q=>[(0, .slice p l.length cp),(1, .int .i64 x),(2, .int .i64 y),(7,vSl q.2.2),(8, .int .i64 ((q.1+1:Nat):Int))]) (fun q=>mS 35 q.2.2) (fun q=>l.length-q.1) ⟨0,[],SlS.no⟩ ⟨Wm _,rfl⟩ sbB suB (fun q hq=>?_)
  obtain⟨i,out,o⟩:=q
  obtain⟨hq,ho⟩:=hq
  dsimp only at hq ho⊢
  have hln:out.length<=i:=by rw[ho];exact ZeO l x y i
  have hend:i=l.length-1->out=flL l x y (l.length-1):=fun h=>by rw[ho,h]
  have hnxt:(if flB (gi l (i:Int)) (gi l ((i+1:Nat):Int)) x y=true then out++[(gi l ((i+1:Nat):Int)).In.From] else out)=flL l x y (i+1):=by rw[ho];rfl
  clear ho
  have e2:((i+1:Nat):Int)-1=(i:Int):=by omega
  have e3:((i+1:Nat):Int)+1=((i+1+1:Nat):Int):=by omega
  repeat(refine wkB ?_;intros)
  refine Zi rfl (fun h=>?_) (fun h=>?_)
  ·have hlt:i+1<l.length:=by have:=Wa h;omega
   obtain⟨bw,ow,rfl,hrow'⟩:=hv.opn (k:=20) hlt
   repeat(refine wkB ?_;intros)
   (refine ZbJ [0,1,2,3,4,5,6,7,8] [9,10] [11,12] (([]:List Blk)) (h:=?_);refine wkI ?_)
   (repeat(refine wkH ?_))
   repeat(refine wkT ?_;intros)
   repeat(refine wkB ?_;intros)
   simp only[e2]
   repeat(refine wkB ?_;intros)
   by_cases c1:(gi l (i:Int)).In.From=(gi l (i:Int)).In.To
   ·simp only[Wc c1,Bool.not_true]
    repeat(refine wkB ?_;intros)
    have hf:flB (gi l (i:Int)) (gi l ((i+1:Nat):Int)) x y=false:=Bool.eq_false_iff.2 fun g=>by
     obtain⟨g0,g1,g2,g3,g4,g5,g6⟩:=Zay.1 g
     first|exact g0 c0|exact g1 c1|exact g2 c2|exact c3 g3|exact g4 ⟨c4,c4b⟩|exact c5 g5|exact c6 g6
    rw[hf] at hnxt
    simp only[Bool.false_eq_true,if_false] at hnxt
    repeat(first|(refine wkB ?_;intros)|(refine wnM ?_ ?_;(focus(exact⟨by omega,by omega⟩));intros))
    simp only[e3]
    exact Zf ⟨i+1,_,o⟩ ⟨by show i+1<=l.length-1;omega,hnxt⟩ sbB suB (by show l.length-(i+1)<l.length-i;omega)
   ·simp only[We c1,Bool.not_false]
    repeat(refine wkB ?_;intros)
    by_cases c2:(gi l ((i+1:Nat):Int)).In.From=(gi l ((i+1:Nat):Int)).In.To
    ·simp only[Wc c2,Bool.not_true]
     repeat(refine wkB ?_;intros)
     have hf:flB (gi l (i:Int)) (gi l ((i+1:Nat):Int)) x y=false:=Bool.eq_false_iff.2 fun g=>by
      obtain⟨g0,g1,g2,g3,g4,g5,g6⟩:=Zay.1 g
      first|exact g0 c0|exact g1 c1|exact g2 c2|exact c3 g3|exact g4 ⟨c4,c4b⟩|exact c5 g5|exact c6 g6
     rw[hf] at hnxt
     simp only[Bool.false_eq_true,if_false] at hnxt
     repeat(first|(refine wkB ?_;intros)|(refine wnM ?_ ?_;(focus(exact⟨by omega,by omega⟩));intros))
     simp only[e3]
     exact Zf ⟨i+1,_,o⟩ ⟨by show i+1<=l.length-1;omega,hnxt⟩ sbB suB (by show l.length-(i+1)<l.length-i;omega)
    ·simp only[We c2,Bool.not_false]
     repeat(refine wkB ?_;intros)
     by_cases c3:(gi l (i:Int)).In.To=(gi l ((i+1:Nat):Int)).In.From
     ·simp only[Wc c3]
      repeat(refine wkB ?_;intros)
      cases c4:(gi l (i:Int)).In.OpenTo with
      |false=>
       repeat(refine wkB ?_;intros)
       by_cases c5:(gi l (i:Int)).Label=x
       ·simp only[Wc c5]
        repeat(refine wkB ?_;intros)
        by_cases c6:(gi l ((i+1:Nat):Int)).Label=y
        ·simp only[Wc c6]
         repeat(refine wkB ?_;intros)
         have hf:flB (gi l (i:Int)) (gi l ((i+1:Nat):Int)) x y=true:=Zay.2 ⟨trivial,c1,c2,c3,(fun g=>by first|exact Bool.noConfusion (g.1.symm.trans c4)|exact Bool.noConfusion (g.2.symm.trans c4b)),c5,c6⟩
         rw[hf] at hnxt
         simp only[if_true] at hnxt
         repeat(refine wkB ?_;intros)
         refine sU (k:=9) (enc:=Zq) (s:=o) rfl rfl ?_ ?_ ?_ ?_
         ·rfl
         ·rfl
         ·exact⟨by decide,by omega,by omega⟩
         intro s'
         repeat(first|(refine wkB ?_;intros)|(refine wnM ?_ ?_;(focus(exact⟨by omega,by omega⟩));intros))
         simp only[e3]
         exact Zf ⟨i+1,_,s'⟩ ⟨by show i+1<=l.length-1;omega,hnxt⟩ sbB suB (by show l.length-(i+1)<l.length-i;omega)
        ·simp only[We c6]
         repeat(refine wkB ?_;intros)
         have hf:flB (gi l (i:Int)) (gi l ((i+1:Nat):Int)) x y=false:=Bool.eq_false_iff.2 fun g=>by
          obtain⟨g0,g1,g2,g3,g4,g5,g6⟩:=Zay.1 g
          first|exact g0 c0|exact g1 c1|exact g2 c2|exact c3 g3|exact g4 ⟨c4,c4b⟩|exact c5 g5|exact c6 g6
         rw[hf] at hnxt
         simp only[Bool.false_eq_true,if_false] at hnxt
         repeat(first|(refine wkB ?_;intros)|(refine wnM ?_ ?_;(focus(exact⟨by omega,by omega⟩));intros))
         simp only[e3]
         exact Zf ⟨i+1,_,o⟩ ⟨by show i+1<=l.length-1;omega,hnxt⟩ sbB suB (by show l.length-(i+1)<l.length-i;omega)
       ·simp only[We c5]
        repeat(refine wkB ?_;intros)
        have hf:flB (gi l (i:Int)) (gi l ((i+1:Nat):Int)) x y=false:=Bool.eq_false_iff.2 fun g=>by
         obtain⟨g0,g1,g2,g3,g4,g5,g6⟩:=Zay.1 g
         first|exact g0 c0|exact g1 c1|exact g2 c2|exact c3 g3|exact g4 ⟨c4,c4b⟩|exact c5 g5|exact c6 g6
        rw[hf] at hnxt
        simp only[Bool.false_eq_true,if_false] at hnxt
        repeat(first|(refine wkB ?_;intros)|(refine wnM ?_ ?_;(focus(exact⟨by omega,by omega⟩));intros))
        simp only[e3]
        exact Zf ⟨i+1,_,o⟩ ⟨by show i+1<=l.length-1;omega,hnxt⟩ sbB suB (by show l.length-(i+1)<l.length-i;omega)
      |true=>
       repeat(refine wkB ?_;intros)
       cases c4b:(gi l ((i+1:Nat):Int)).In.OpenFrom with
       |false=>
        repeat(refine wkB ?_;intros)
        by_cases c5:(gi l (i:Int)).Label=x
        ·simp only[Wc c5]
         repeat(refine wkB ?_;intros)
         by_cases c6:(gi l ((i+1:Nat):Int)).Label=y
         ·simp only[Wc c6]
          repeat(refine wkB ?_;intros)
          have hf:flB (gi l (i:Int)) (gi l ((i+1:Nat):Int)) x y=true:=Zay.2 ⟨trivial,c1,c2,c3,(fun g=>by first|exact Bool.noConfusion (g.1.symm.trans c4)|exact Bool.noConfusion (g.2.symm.trans c4b)),c5,c6⟩
          rw[hf] at hnxt
          simp only[if_true] at hnxt
          repeat(refine wkB ?_;intros)
          refine sU (k:=9) (enc:=Zq) (s:=o) rfl rfl ?_ ?_ ?_ ?_
          ·rfl
          ·rfl
          ·exact⟨by decide,by omega,by omega⟩
          intro s'
          repeat(first|(refine wkB ?_;intros)|(refine wnM ?_ ?_;(focus(exact⟨by omega,by omega⟩));intros))
          simp only[e3]
          exact Zf ⟨i+1,_,s'⟩ ⟨by show i+1<=l.length-1;omega,hnxt⟩ sbB suB (by show l.length-(i+1)<l.length-i;omega)
         ·simp only[We c6]
          repeat(refine wkB ?_;intros)
          have hf:flB (gi l (i:Int)) (gi l ((i+1:Nat):Int)) x y=false:=Bool.eq_false_iff.2 fun g=>by
           obtain⟨g0,g1,g2,g3,g4,g5,g6⟩:=Zay.1 g
           first|exact g0 c0|exact g1 c1|exact g2 c2|exact c3 g3|exact g4 ⟨c4,c4b⟩|exact c5 g5|exact c6 g6
          rw[hf] at hnxt
          simp only[Bool.false_eq_true,if_false] at hnxt
          repeat(first|(refine wkB ?_;intros)|(refine wnM ?_ ?_;(focus(exact⟨by omega,by omega⟩));intros))
          simp only[e3]
          exact Zf ⟨i+1,_,o⟩ ⟨by show i+1<=l.length-1;omega,hnxt⟩ sbB suB (by show l.length-(i+1)<l.length-i;omega)
        ·simp only[We c5]
         repeat(refine wkB ?_;intros)
         have hf:flB (gi l (i:Int)) (gi l ((i+1:Nat):Int)) x y=false:=Bool.eq_false_iff.2 fun g=>by
          obtain⟨g0,g1,g2,g3,g4,g5,g6⟩:=Zay.1 g
          first|exact g0 c0|exact g1 c1|exact g2 c2|exact c3 g3|exact g4 ⟨c4,c4b⟩|exact c5 g5|exact c6 g6
         rw[hf] at hnxt
         simp only[Bool.false_eq_true,if_false] at hnxt
         repeat(first|(refine wkB ?_;intros)|(refine wnM ?_ ?_;(focus(exact⟨by omega,by omega⟩));intros))
         simp only[e3]
         exact Zf ⟨i+1,_,o⟩ ⟨by show i+1<=l.length-1;omega,hnxt⟩ sbB suB (by show l.length-(i+1)<l.length-i;omega)
       |true=>
        repeat(refine wkB ?_;intros)
        have hf:flB (gi l (i:Int)) (gi l ((i+1:Nat):Int)) x y=false:=Bool.eq_false_iff.2 fun g=>by
         obtain⟨g0,g1,g2,g3,g4,g5,g6⟩:=Zay.1 g
         first|exact g0 c0|exact g1 c1|exact g2 c2|exact c3 g3|exact g4 ⟨c4,c4b⟩|exact c5 g5|exact c6 g6
        rw[hf] at hnxt
        simp only[Bool.false_eq_true,if_false] at hnxt
        repeat(first|(refine wkB ?_;intros)|(refine wnM ?_ ?_;(focus(exact⟨by omega,by omega⟩));intros))
        simp only[e3]
        exact Zf ⟨i+1,_,o⟩ ⟨by show i+1<=l.length-1;omega,hnxt⟩ sbB suB (by show l.length-(i+1)<l.length-i;omega)
     ·simp only[We c3]
      repeat(refine wkB ?_;intros)
      have hf:flB (gi l (i:Int)) (gi l ((i+1:Nat):Int)) x y=false:=Bool.eq_false_iff.2 fun g=>by
       obtain⟨g0,g1,g2,g3,g4,g5,g6⟩:=Zay.1 g
       first|exact g0 c0|exact g1 c1|exact g2 c2|exact c3 g3|exact g4 ⟨c4,c4b⟩|exact c5 g5|exact c6 g6
      rw[hf] at hnxt
      simp only[Bool.false_eq_true,if_false] at hnxt
      repeat(first|(refine wkB ?_;intros)|(refine wnM ?_ ?_;(focus(exact⟨by omega,by omega⟩));intros))
      simp only[e3]
      exact Zf ⟨i+1,_,o⟩ ⟨by show i+1<=l.length-1;omega,hnxt⟩ sbB suB (by show l.length-(i+1)<l.length-i;omega)
  ·have hge:i=l.length-1:=by have:=Wb h;omega
   obtain⟨s',f1,f2⟩:=SlS.turn 35 (hend hge) o
   repeat(refine wkB ?_;intros)
   exact Zh s' trivial (by rw[f1];exact sbB) (by rw[f2];exact suB)
 ·repeat(refine wkB ?_;intros)
  exact Zz rfl rfl (fun w hw=>⟨q,rfl,hw.sub suB⟩)
instance Zqf (w0:World)(L:List Blk)(v:Value)(l:List PU)(x y:Int)[h:LstC w0 L v PU rP l]:SpecR prog w0 L 26 [v, .int .i64 x, .int .i64 y] (SlS Zq 9 (flL l x y (l.length-1))) (fun q=>vSl q) (fun q=>mS 35 q) (l.length<=1048576):=⟨fun hp w hw=>Zg0 v l x y w (h.out w hw) hp⟩
end
section
def NB (l:List PU):Prop:=∀j:Nat,j+1<l.length->jnB (gi l (j:Int)) (gi l ((j+1:Nat):Int))=false
theorem Zqy {a b u:PU}:jnB a (jnP b u)=jnB a b:=rfl
theorem ZoU {out:List PU}{u:PU}(h:NB out):NB (jn1 out u):=by
 unfold jn1
 split
 ·rename_i hc
  have hk:((out.length:Int)-1).toNat=out.length-1:=by omega
  have hl:lstP out=gi out ((out.length-1:Nat):Int):=by
   unfold lstP
   congr 1
   omega
  intro j hj
  rw[List.length_set] at hj
  have h1:=h j hj
  rw[hk]
  have e1:gi (out.set (out.length-1) (jnP (lstP out) u)) (j:Int)=gi out (j:Int):=by
   rw[Zw (by rw[List.length_set];omega),Zw (by omega),List.getElem_set_ne (by omega)]
  rw[e1]
  by_cases e:j+1=out.length-1
  ·have e2:gi (out.set (out.length-1) (jnP (lstP out) u)) ((j+1:Nat):Int)=jnP (lstP out) u:=by
    rw[Zw (by rw[List.length_set];omega)]
    simp[e]
   rw[e2,Zqy,hl,<-e]
   exact h1
  ·have e2:gi (out.set (out.length-1) (jnP (lstP out) u)) ((j+1:Nat):Int)=gi out ((j+1:Nat):Int):=by
    rw[Zw (by rw[List.length_set];omega),Zw hj,List.getElem_set_ne (by omega)]
   rw[e2]
   exact h1
 ·rename_i hc
  intro j hj
  rw[Wp,List.length_singleton] at hj
  have e1:gi (out++[u]) (j:Int)=gi out (j:Int):=by
   rw[Zw (by simp;omega),Zw (by omega),List.getElem_append_left (by omega)]
  rw[e1]
  by_cases e:j+1<out.length
  ·have e2:gi (out++[u]) ((j+1:Nat):Int)=gi out ((j+1:Nat):Int):=by
    rw[Zw (by simp;omega),Zw e,List.getElem_append_left e]
   rw[e2]
   exact h j e
  ·have e3:j+1=out.length:=by omega
   have e2:gi (out++[u]) ((j+1:Nat):Int)=u:=by
    rw[Zw (by simp;omega)]
    simp[e3]
   have hl:lstP out=gi out (j:Int):=by
    unfold lstP
    congr 1
    omega
   rw[e2,<-hl]
   exact Bool.eq_false_iff.2 fun h0=>hc ⟨by omega,h0⟩
theorem Zj2 (l:List PU):∀i,NB (jnL l i)
 |0=>fun j hj=>by cases hj
 |i+1=>ZoU (Zj2 l i)
def wnB (a b:PU)(x y:Int):Bool:= !decide (x=y)&&flB a b x y
theorem ZaN {a b:PU}{x y:Int}:wnB a b x y=true↔¬x=y/\¬a.In.From=a.In.To/\¬b.In.From=b.In.To/\a.In.To=b.In.From/\¬(a.In.OpenTo=true/\b.In.OpenFrom=true)/\a.Label=x/\b.Label=y:=by
 have h:=Zay (a:=a) (b:=b) (x:=x) (y:=y)
 rw[true_and] at h
 unfold wnB
 rw[Wq,h,Bool.not_eq_true',decide_eq_false_iff_not]
def wnL (l:List PU)(x y:Int):Nat->List Rl
 |0=>[]
 |i+1=>if wnB (gi l (i:Int)) (gi l ((i+1:Nat):Int)) x y=true then wnL l x y i++[(gi l ((i+1:Nat):Int)).In.From] else wnL l x y i
theorem ZhM (l:List PU)(x y:Int):∀i,(wnL l x y i).length<=i
 |0=>Wl _
 |i+1=>by
  have h1:=ZhM l x y i
  rw[wnL]
  split
  ·rw[Wp];simp;exact h1
  ·omega
theorem Zmz {l:List PU}{x y:Int}(h:NB l):∀i,i<=l.length-1->wnL l x y i=flL l x y i
 |0,_=>rfl
 |i+1,hi=>by
  have h1:=h i (by omega)
  have e:wnB (gi l (i:Int)) (gi l ((i+1:Nat):Int)) x y=flB (gi l (i:Int)) (gi l ((i+1:Nat):Int)) x y:=by
   unfold wnB
   cases hf:flB (gi l (i:Int)) (gi l ((i+1:Nat):Int)) x y with
   |false=>rw[Bool.and_false]
   |true=>
    obtain⟨-, -, -,g3,g4,g5,g6⟩:=Zay.1 hf
    have hxy:¬x=y:=fun hxy=>by
     unfold jnB at h1
     rw[Wc (show(gi l (i:Int)).Label=(gi l ((i+1:Nat):Int)).Label by rw[g5,g6,hxy]),Wc g3] at h1
     simp only[Bool.true_and,Bool.not_eq_false'] at h1
     rw[Wq] at h1
     exact g4 h1
    rw[We hxy]
    rfl
  rw[wnL,flL,e,Zmz h i (by omega)]
end
section
def cmL (xs:List Int):Nat->List Int
 |0=>[]
 |j+1=>if 0<j/\gi xs (j:Int)=gi xs ((j-1:Nat):Int) then cmL xs j else cmL xs j++[gi xs (j:Int)]
def cmI' (xs:List Int):List Int:=cmL xs xs.length
theorem Zik (xs:List Int):∀j,0<j->cmL xs j≠[]
 |0,h=>absurd h (Nat.lt_irrefl _)
 |j+1,_=>by
  rw[cmL]
  split
  ·rename_i h;exact Zik xs j h.1
  ·simp
theorem Znn {xs:List Int}{z:Int}:∀j,j<=xs.length->(z∈cmL xs j↔z∈xs.take j)
 |0,_=>by simp[cmL]
 |j+1,h=>by
  have ih:=Znn (xs:=xs) (z:=z) j (by omega)
  have ht:xs.take (j+1)=xs.take j++[gi xs (j:Int)]:=by rw[Wn h,Zw h]
  rw[cmL,ht]
  split
  ·rename_i hc
   rw[ih,Wv]
   constructor
   ·exact .inl
   ·rintro(h1|h1)
    ·exact h1
    ·rw[Wo] at h1
     rw[h1,hc.2,Zw (by omega)]
     exact List.mem_take_iff_getElem.2 ⟨j-1,by omega,rfl⟩
  ·rw[Wv,Wv,ih]
structure CmQ (xs:List Int)(k i:Nat)(ys:List Int):Prop where
 ki:k<i
 k0:0<k
 im:i<=xs.length
 len:ys.length=xs.length
 tk:ys.take k=cmL xs i
 eq:∀j:Nat,i-1<=j->j<xs.length->gi ys (j:Int)=gi xs (j:Int)
theorem CmQ.skip {xs ys:List Int}{k i:Nat}(h:CmQ xs k i ys)(hi:i<xs.length)(he:gi xs (i:Int)=gi xs ((i-1:Nat):Int)):CmQ xs k (i+1) ys:=
 ⟨by have:=h.ki;omega,h.k0,hi,h.len,by rw[cmL,if_pos ⟨by have:=h.ki;omega,he⟩];exact h.tk,fun j h1 h2=>h.eq j (by omega) h2⟩
theorem CmQ.keep {xs ys:List Int}{k i:Nat}(h:CmQ xs k i ys)(hi:i<xs.length)(he:gi xs (i:Int)≠gi xs ((i-1:Nat):Int)):CmQ xs (k+1) (i+1) (ys.set k (gi xs (i:Int))):=by
 have hk:=h.ki
 have hl:=h.len
 refine⟨by omega,by omega,hi,by rw[List.length_set];exact hl, ?_,fun j h1 h2=>?_⟩
 ·rw[cmL,if_neg (fun hc=>he hc.2),<-h.tk,Wn (by rw[List.length_set];omega),List.take_set_of_le (Wl k)]
  simp
 ·rw[Zw (by rw[List.length_set];omega),List.getElem_set_ne (by omega),<-Zw (by omega)]
  exact h.eq j (by omega) h2
theorem ZdR {xs:List Int}:∀{m:Nat},m<=xs.length->(∀j:Nat,0<j->j<m->gi xs (j:Int)≠gi xs ((j-1:Nat):Int))->cmL xs m=xs.take m
 |0,_,_=>rfl
 |m+1,hm,h=>by
  rw[cmL,if_neg (fun hc=>h m hc.1 (Nat.lt_succ_self m) hc.2),ZdR (by omega) (fun j h1 h2=>h j h1 (by omega)),Wn hm,Zw hm]
theorem CmQ.start {xs:List Int}{k:Nat}(hk:0<k)(hm:k<xs.length)(he:gi xs (k:Int)=gi xs ((k-1:Nat):Int))(h:∀j:Nat,0<j->j<k->gi xs (j:Int)≠gi xs ((j-1:Nat):Int)):CmQ xs k (k+1) xs:=
 ⟨Nat.lt_succ_self _,hk,hm,rfl,by rw[cmL,if_pos ⟨hk,he⟩,ZdR (Nat.le_of_lt hm) h],fun _ _ _=>rfl⟩
set_option maxHeartbeats 8000000 in
theorem ZfC (w0 w:World)(L L1:List Blk)(xs:List Int)(s:SlS (eI .i64) 1 xs)[hd:OwnS 3 s L L1](hl:xs.length<=1048576)(hw:Own w0 L w):
  Calls prog 85 [vSl s].toArray w (RetX w0 (SlS (eI .i64) 1 (cmI' xs)) (fun s=>vSl s) (fun s=>mS 3 s++L1)):=by
 have hw1:=hw.perm hd.out
 refine Zas Tryz.func85 rfl Tryz.ntmps85 rfl hw1 ?_
 repeat(refine wkB ?_;intros)
 by_cases h2:xs.length<2
 ·simp only[Wc (show(xs.length:Int)<2 by omega)]
  have e:cmI' xs=xs:=by
   unfold cmI'
   rw[ZdR (Wl _) (fun j h1 h3=>by omega),List.take_length]
  obtain⟨s',e1,e2⟩:=SlS.turn 3 e.symm s
  repeat(refine wkB ?_;intros)
  exact Zz rfl rfl (fun w hw=>⟨s',by show Ending.returned (vSl s)=Ending.returned (vSl s');rw[e1],by show Own w0 (mS _ s'++L1) w;rw[e2];exact hw⟩)
 simp only[We (show¬(xs.length:Int)<2 by omega)]
 rcases s.cases 3 with⟨x0, -, -⟩|⟨bs,c,sp,h1,hv,hmS,hne⟩
 ·rw[x0] at h2
  simp at h2
 simp only[hv,hmS,Wf,Wg]
 repeat(refine wkB ?_;intros)
 refine Zp (S:=Nat) (fun m=>m+1<=xs.length/\∀j:Nat,0<j->j<m+1->gi xs (j:Int)≠gi xs ((j-1:Nat):Int)) (fun m=>[(0, .slice (some ⟨bs,0,none⟩) xs.length c),(3, .int .i64 ((m+1:Nat)))]) (fun _=>⟨bs,row (eI .i64) xs sp,3⟩::L1) (fun m=>xs.length-m) 0 ⟨by omega,fun j h1 h2=>by omega⟩ sbB slB (fun m hm=>?_)
 obtain⟨hm,hall⟩:=hm
 repeat(refine wkB ?_;intros)
 refine Zi rfl (fun h=>?_) (fun h=>?_)
 ·have hlt:m+1<xs.length:=by have:=Wa h;omega
  have e1:((m+1:Nat):Int)-1=(m:Int):=by omega
  repeat(refine wkB ?_;intros)
  refine jD 10 10 (h:=?_)
  (repeat(refine wkH ?_))
  simp only[e1]
  (repeat(refine wkH ?_))
  refine Zo ?_
  refine Zr ?_
  by_cases hq:gi xs ((m+1:Nat):Int)=gi xs (m:Int)
  ·simp only[Wc hq]
   have hst:=CmQ.start (k:=m+1) (Nat.succ_pos m) hlt hq hall
   repeat(first|(refine wkB ?_;intros)|(refine wnM ?_ ?_;(focus(exact⟨by omega,by omega⟩));intros))
   refine Zp (S:=Nat×Nat×List Int) (fun q=>CmQ xs q.1 q.2.1 q.2.2/\m+1<q.2.1) (fun q=>[(0, .slice (some ⟨bs,0,none⟩) xs.length c),(3, .int .i64 (q.1:Nat)),(4, .slice (some ⟨bs,(m+1)*1,none⟩) (xs.length-(m+1)) (c-(m+1))),(5, .int .i64 ((q.2.1-(m+1):Nat)))]) (fun q=>⟨bs,row (eI .i64) q.2.2 sp,3⟩::L1) (fun q=>xs.length-q.2.1) (m+1,m+2,xs) ⟨hst,Nat.lt_succ_self _⟩ (by rw[show m+2-(m+1)=1 by omega];exact sbB) slB (fun q hq2=>?_)
   obtain⟨k,i,ys⟩:=q
   obtain⟨hq2,hmi⟩:=hq2
   have hki:=hq2.ki
   have him:=hq2.im
   have hyl:=hq2.len
   have hk0:=hq2.k0
   simp only at hq2 hki him hyl hk0 hmi⊢
   obtain⟨d,rfl⟩:∃d,i=m+1+(d+1):=⟨i-(m+1)-1,by omega⟩
   rw[show m+1+(d+1)-(m+1)=d+1 by omega]
   repeat(refine wkB ?_;intros)
   refine Zi rfl (fun h3=>?_) (fun h3=>?_)
   ·have hlt3:m+1+(d+1)<xs.length:=by have:=Wa h3;omega
    have e4:((d+1:Nat):Int)-1=(d:Int):=by omega
    have g1:=hq2.eq (m+1+(d+1)) (by omega) hlt3
    have g2:=hq2.eq (m+1+d) (by omega) (by omega)
    have e5:(m+1)*1+((d+1:Nat):Int).toNat*1=0+((m+1+(d+1):Nat):Int).toNat*1:=by omega
    have e6:(m+1)*1+((d:Nat):Int).toNat*1=0+((m+1+d:Nat):Int).toNat*1:=by omega
    repeat(refine wkB ?_;intros)
    refine jD 10 10 (h:=?_)
    (repeat(refine wkH ?_))
    simp only[e5]
    (repeat(refine wkH ?_))
    simp only[e4]
    (repeat(refine wkH ?_))
    simp only[e6]
    (repeat(refine wkH ?_))
    refine Zo ?_
    refine Zr ?_
    rw[g1,g2]
    have e7:((m+1+(d+1)-1:Nat):Int)=((m+1+d:Nat):Int):=by omega
    by_cases hq3:gi xs ((m+1+(d+1):Nat):Int)=gi xs ((m+1+d:Nat):Int)
    ·simp only[Wc hq3,Bool.not_true]
     repeat(first|(refine wkB ?_;intros)|(refine wnM ?_ ?_;(focus(exact⟨by omega,by omega⟩));intros))
     exact Zf (k,m+1+(d+1)+1,ys) ⟨hq2.skip hlt3 (by rw[e7];exact hq3),by simp only;omega⟩ (by simp only;rw[show m+1+(d+1)+1-(m+1)=d+1+1 by omega];exact sbB) slB (by show xs.length-(m+1+(d+1)+1)<xs.length-(m+1+(d+1));omega)
    ·simp only[We hq3,Bool.not_false]
     repeat(refine wkB ?_;intros)
     simp only[e5]
     repeat(first|(refine wkB ?_;intros)|(refine wnM ?_ ?_;(focus(exact⟨by omega,by omega⟩));intros))
     rw[g1]
     have hkk:=hq2.keep hlt3 (by rw[e7];exact hq3)
     exact Zf (k+1,m+1+(d+1)+1,ys.set k (gi xs ((m+1+(d+1):Nat):Int))) ⟨hkk,by simp only;omega⟩ (by simp only;rw[show m+1+(d+1)+1-(m+1)=d+1+1 by omega];exact sbB) slB (by show xs.length-(m+1+(d+1)+1)<xs.length-(m+1+(d+1));omega)
   ·have hge:m+1+(d+1)=xs.length:=by have:=Wb h3;omega
    have htk:ys.take k=cmI' xs:=by rw[hq2.tk,hge];rfl
    have hfl:(cmI' xs).length=k:=by rw[<-htk,Wt];omega
    repeat(first|(refine wkB ?_;intros)|(refine wnM ?_ ?_;(focus(exact⟨by omega,by omega,by omega⟩));intros))
    refine sClr (enc:=eI .i64) (k:=1) (i:=k) (ys:=ys) (z:= .int .i64 0) (zc:=#[.int .i64 0]) (hz:=⟨by kernel_rfl,rfl⟩) rfl (by omega) (by omega) rfl (EncC.one (enc:=eI .i64) (0:Int)) (fun zs hzs=>?_)
    repeat(first|(refine wkB ?_;intros)|(refine wnM ?_ ?_;(focus(exact⟨by omega,by omega,by omega⟩));intros))
    refine Zz rfl rfl (fun w hw=>⟨SlS.at_ bs c (zs++sp) ?_ ?_, ?_, ?_⟩)
    ·rw[hfl]
     refine⟨by omega, ?_⟩
     rw[Wp,hzs,h1.2]
     omega
    ·exact Zik xs xs.length (by omega)
    ·show Ending.returned _=Ending.returned (.slice (some ⟨bs,0,none⟩) (cmI' xs).length c)
     rw[hfl]
    ·show Own w0 (⟨bs,row (eI .i64) (cmI' xs) (zs++sp),_⟩::L1) w
     rw[<-htk]
     exact hw
  ·simp only[We hq]
   repeat(first|(refine wkB ?_;intros)|(refine wnM ?_ ?_;(focus(exact⟨by omega,by omega⟩));intros))
   exact Zf (m+1) ⟨by omega,fun j h1 h2=>by
    by_cases e:j=m+1
    ·subst e;exact hq
    ·exact hall j h1 (by omega)⟩ sbB slB (by omega)
 ·have hge:m+1=xs.length:=by have:=Wb h;omega
  have e:cmI' xs=xs:=by
   unfold cmI'
   rw[ZdR (Wl _) (fun j h1 h3=>hall j h1 (by omega)),List.take_length]
  obtain⟨s',e1,e2⟩:=SlS.turn 3 e.symm s
  repeat(refine wkB ?_;intros)
  exact Zz rfl rfl (fun w hw=>⟨s',by show Ending.returned _=Ending.returned (vSl s');rw[e1,hv],by show Own w0 (mS _ s'++L1) w;rw[e2,hmS];exact hw⟩)
end
end Go.Vt
