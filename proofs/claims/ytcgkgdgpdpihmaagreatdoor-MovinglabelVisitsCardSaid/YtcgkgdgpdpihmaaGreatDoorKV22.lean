/- For any moving label and any length, Visits returns the labels of the units without repetitions, and Longer the units that last at least so long. Conditions: none. (part 22 of 27.) Conditions: those that each statement names. -/
import Derived.Test.YtcgkgdgpdpihmaaGreatDoorProg
import Derived.Test.YtcgkgdgpdpihmaaGreatDoorCards
import Derived.Test.YtcgkgdgpdpihmaaGreatDoorTie
import Derived.WalkKit
import Derived.ProofKit
import Derived.OpenShut
import Derived.Deep.DeepHandedRow
import Derived.Deep.DeepLaidRun
import Derived.Deep.SlicePairs
import Derived.Carry
import Derived.Lib.LaidU8
import Derived.Test.YtcgkgdgpdpihmaaGreatDoorKV9
import Derived.Test.YtcgkgdgpdpihmaaGreatDoorKV11
import Derived.Test.YtcgkgdgpdpihmaaGreatDoorKV15
import Derived.Test.YtcgkgdgpdpihmaaGreatDoorKV21
set_option linter.unusedSimpArgs false
set_option linter.unusedVariables false
set_option maxHeartbeats 2000000
set_option maxRecDepth 100000
set_option linter.unusedSectionVars false
namespace Go.Vt
open Go.RowKit Go.Proofs
open Go.Proofs.Tryz (prog)
theorem Zoh {P:Program}{w0:World}{n:Nat}{Q:Exit->Act->World->Prop}{E:Env}{L:List Blk}{S:Type}{id id':Nat}(I:S->Prop)(Es:S->Env)(Ls:S->List Blk){x y:Code}(h1:J P w0 n x (Exit.inBlock id (Exit.inBlock id' (MidQ w0 n I Es Ls (fun _ _=>True) Q))) E L)(h2:∀s,I s->J P w0 n y Q (Es s) (Ls s)):J P w0 n x (Exit.inBlock id (Exit.inBlock id' (Then P y Q))) E L:=⟨fun a w ha hw=>wp_mono (h1.out a w ha hw) (ZQ (ZQ (ZL h2)))⟩
abbrev St :=Z8
abbrev rSt :=Zar
instance Zj7 :EncC rSt 13:=⟨fun _=>CsC.size,fun _=>CsC.one⟩
instance : Inhabited St:=⟨Zc0⟩
structure StOk (x:St):Prop where
 a:WSOk x.In
 l:0<=x.Label/\x.Label<=255
noncomputable def inS (l:List St):Nat->List Za
 |0=>[]
 |m+1=>inS l m++[ivS (gi l (m:Int)).In]
theorem Zfv (l:List St):∀m,(inS l m).length=m
 |0=>rfl
 |m+1=>by rw[inS,Wp,Zfv l m];rfl
theorem ZkN {l:List St}(h:∀x∈l,StOk x):∀m,m<=l.length->∀i∈inS l m,IvOk 3 i
 |0,_,i,hi=>by cases hi
 |m+1,hm,i,hi=>by
  rw[inS,Wv,Wo] at hi
  rcases hi with hi|rfl
  ·exact ZkN h m (by omega) i hi
  ·exact ZsK (h _ (Zz (by omega))).a
noncomputable def cndS (ins:List Za)(c:Za)(k:Nat):Bool:=spB [gi ins (k:Int)] c.From c.To&&(!decide (c.From=c.To)||inB (gi ins (k:Int)) c.From)
noncomputable def pkS (ins:List Za)(c:Za):Nat->Option Nat
 |0=>none
 |m+1=>if cndS ins c m=true then some m else pkS ins c m
noncomputable def mv1 (l:List St)(ins:List Za)(c:Za)(out:List PU):List PU:=match pkS ins c ins.length with
 |some k=>out++[⟨c,(gi l (k:Int)).Label % 5⟩]
 |none=>out
noncomputable def mvS (l:List St)(ins cs:List Za):Nat->List PU
 |0=>[]
 |i+1=>mv1 l ins (gi cs (i:Int)) (mvS l ins cs i)
theorem Zn8 (l:List St)(ins:List Za)(c:Za)(out:List PU):(mv1 l ins c out).length<=out.length+1:=by
 unfold mv1
 split <;> simp
theorem ZdY (l:List St)(ins cs:List Za):∀i,(mvS l ins cs i).length<=i
 |0=>Wl _
 |i+1=>by
  have h1:=ZdY l ins cs i
  have h2:=Zn8 l ins (gi cs (i:Int)) (mvS l ins cs i)
  rw[mvS]
  omega
noncomputable def insV (l:List St):List Za:=inS l (min l.length 8)
noncomputable def celV (l:List St):List Za:=celR (nrmS (insV l)) (enR (insV l))
noncomputable def movU (l:List St):List PU:=mvS l (insV l) (celV l) (celV l).length
noncomputable def movV (l:List St):List PU:=jnL (movU l) (movU l).length
theorem Zeg (l:List St):(insV l).length<=8/\(insV l).length<=l.length:=by
 unfold insV
 rw[Zfv]
 omega
theorem ZgW (l:List St):(celV l).length<=160:=by
 have h1:=(Zeg l).1
 have h2:=Zef (insV l)
 have h3:=Zc7 (insV l)
 have h4:=Zml (nrmS (insV l)) (enR (insV l))
 unfold celV
 omega
theorem Zmq (l:List St):(movV l).length<=160:=by
 have h1:=ZgW l
 have h2:=ZdY l (insV l) (celV l) (celV l).length
 have h3:=Ze9 (movU l) (movU l).length
 unfold movV
 have h4:(movU l).length=(mvS l (insV l) (celV l) (celV l).length).length:=rfl
 omega
theorem Zck {l:List St}(h:∀x∈l,StOk x):∀i∈insV l,IvOk 3 i:=ZkN h _ (Nat.min_le_left _ _)
theorem Ze3 {l:List St}(h:∀x∈l,StOk x):∀i∈celV l,IvOk 3 i:=fun i hi=>by
 have h1:∀i∈insV l,RlB 3 i.From/\RlB 3 i.To:=fun i hi=>⟨(Zck h i hi).a,(Zck h i hi).b⟩
 have:=ZpL (Pr:=RlB 3) (Zk4 h1) (Zjt h1) i hi
 exact⟨this.1,this.2⟩
theorem Zh9 {l:List St}(h:∀x∈l,StOk x):∀i∈nrmS (insV l),IvOk 3 i:=fun i hi=>by
 have h1:∀i∈insV l,RlB 3 i.From/\RlB 3 i.To:=fun i hi=>⟨(Zck h i hi).a,(Zck h i hi).b⟩
 have:=Zk4 (Pr:=RlB 3) h1 i hi
 exact⟨this.1,this.2⟩
set_option maxHeartbeats 32000000 in
theorem Zhw (v:Value)(l:List St)(w:World)(hv:ArgS w v rSt l)(hl:l.length<=9223372036854775807)(hk:∀x∈l,StOk x):
  Calls prog 17 [v].toArray w (RetM (SlS rP 21 (movV l)) (fun q=>vSl q) (fun q=>mS 46 q) w):=by
 obtain⟨p,cp,rfl⟩:=hv.form
 refine Zb Tryz.func17 rfl Tryz.ntmps17 rfl ?_
 repeat(refine wkB ?_;intros)
 refine Z0 (S:=SlS rI 20 (insV l)) (fun _=>True) (fun q=>[(0, .slice p l.length cp),(3,vSl q)]) (fun q=>mS 37 q) ?_ (fun q _=>?_)
 ·refine Zq (S:=(_:Nat)×(o:List Za)×SlS rI 20 o) (fun q=>q.1<=min l.length 8/\q.2.1=inS l q.1) (fun q=>[(0, .slice p l.length cp),(3,vSl q.2.2),(4, .int .i64 (q.1:Nat))]) (fun q=>mS 37 q.2.2) (fun q=>8-q.1) ⟨0,[],SlS.no⟩ ⟨Wm _,rfl⟩ sbB suB (fun q hq=>?_)
  obtain⟨i,out,o⟩:=q
  obtain⟨hq,ho⟩:=hq
  dsimp only at hq ho⊢
  have hln:out.length=i:=by rw[ho];exact Zfv l i
  have hend:i=min l.length 8->out=insV l:=fun h=>by rw[ho,h];rfl
  have hnxt:out++[ivS (gi l (i:Int)).In]=inS l (i+1):=by rw[ho];rfl
  clear ho
  repeat(refine wkB ?_;intros)
  by_cases c1:i<l.length
  ·simp only[Wc (show(i:Int)<(l.length:Nat) by omega)]
   repeat(refine wkB ?_;intros)
   refine Zi rfl (fun h=>?_) (fun h=>?_)
   ·have c2:i<8:=by have:=Wa h;omega
    have hne:l≠[]:=fun h0=>by rw[h0] at c1;simp at c1
    obtain⟨bw,ow,cw,hvw,hcw,hrow⟩:=hv.blk (k:=12) hne []
    injection hvw with x1 x2 x3
    subst x1 x3
    have hrow':∀L,RowC w L bw ow St rSt l:=fun L=>⟨fun w' hw'=>hrow.out w' (hw'.sub (Wk _))⟩
    have hki:=(hk (gi l (i:Int)) (Zz (by omega))).a
    repeat(first|(refine wkB ?_;intros)|(refine wnM ?_ ?_;(focus(exact hki));intros))
    refine sU (k:=20) (enc:=rI) (s:=o) rfl rfl ?_ ?_ ?_ ?_
    ·rfl
    ·rfl
    ·exact⟨by decide,by omega,by omega⟩
    intro s'
    repeat(first|(refine wkB ?_;intros)|(refine wnM ?_ ?_;(focus(exact⟨by omega,by omega⟩));intros))
    exact Ze ⟨i+1,_,s'⟩ ⟨by show i+1<=min l.length 8;omega,hnxt⟩ sbB suB (by show 8-(i+1)<8-i;omega)
   ·have hge:i=min l.length 8:=by have:=Wb h;omega
    obtain⟨s',f1,f2⟩:=SlS.turn 37 (hend hge) o
    repeat(refine wkB ?_;intros)
    exact Zd s' trivial (by rw[f1];exact sbB) (by rw[f2];exact suB)
  ·have hge:i=min l.length 8:=by omega
   obtain⟨s',f1,f2⟩:=SlS.turn 37 (hend hge) o
   simp only[We (show¬(i:Int)<(l.length:Nat) by omega)]
   repeat(refine wkB ?_;intros)
   exact Zd s' trivial (by rw[f1];exact sbB) (by rw[f2];exact suB)
 have hil:=Zeg l
 have hio:=Zck hk
 have hno:=Zh9 hk
 have p1:(insV l).length<=1024/\∀i∈insV l,IvOk B28 i:=⟨by omega,fun i hi=>(hio i hi).mono (by decide)⟩
 have p2:(insV l).length<=65536/\∀i∈insV l,IvOk B28 i:=⟨by omega,p1.2⟩
 have p3:CelIn (nrmS (insV l)) (enR (insV l)):=by
  have h1:=Zef (insV l)
  have h2:=Zc7 (insV l)
  exact⟨by omega,by omega,fun i hi=>(hno i hi).mono (by decide),(ZdB p1.2).b⟩
 have hco:=Ze3 hk
 have hcl:=ZgW l
 have hfin:movV l=jnL (mvS l (insV l) (celV l) (celV l).length) (mvS l (insV l) (celV l) (celV l).length).length:=rfl
 rw[hfin]
 have hcv:celV l=celR (nrmS (insV l)) (enR (insV l)):=rfl
 rw[hcv] at hco hcl⊢
 clear hcv hfin
 generalize insV l=ins at*
 repeat(first|(refine wkB ?_;intros)|(refine wnM ?_ ?_;(focus(first|exact p1|exact p2|exact p3));intros))
 rename_i s3 s2 sc
 generalize celR (nrmS ins) (enR ins)=cs at*
 refine Z0 (S:=SlS rP 21 (mvS l ins cs cs.length)) (fun _=>True) (fun o=>[(6,vSl o)]) (fun o=>mS 46 o) ?_ (fun o _=>?_)
 ·refine Zq (S:=(_:Nat)×(o:List PU)×SlS rP 21 o) (fun k=>k.1<=cs.length/\k.2.1=mvS l ins cs k.1) (fun k=>[(0, .slice p l.length cp),(3,vSl q),(5,vSl sc),(6,vSl k.2.2),(7, .int .i64 (k.1:Nat))]) (fun k=>mS 46 k.2.2++(mS 37 sc++mS 37 q)) (fun k=>cs.length-k.1) ⟨0,[],SlS.no⟩ ⟨Wm _,rfl⟩ sbB suB (fun k hk'=>?_)
  obtain⟨i,out,o⟩:=k
  obtain⟨hik,ho⟩:=hk'
  dsimp only at hik ho⊢
  have hln:out.length<=i:=by rw[ho];exact ZdY l ins cs i
  have hend:i=cs.length->out=mvS l ins cs cs.length:=fun h=>by rw[ho,h]
  have hnxt:mv1 l ins (gi cs (i:Int)) out=mvS l ins cs (i+1):=by rw[ho];rfl
  clear ho
  repeat(refine wkB ?_;intros)
  refine Zi rfl (fun h=>?_) (fun h=>?_)
  ·have hlt:i<cs.length:=by have:=Wa h;omega
   have hcI:=(hco (gi cs (i:Int)) (Zz (by omega))).mono (K':=B28) (by decide)
   rcases sc.cases 37 with⟨z0,z1,z2⟩|⟨bc,cc,spc,hcc,z1,z2,zne⟩
   ·rw[z0] at hlt
    cases hlt
   repeat(refine wkB ?_;intros)
   refine Zoh (S:=SlS rP 21 (mv1 l ins (gi cs (i:Int)) out)) (fun _=>True) (fun o=>[(0, .slice p l.length cp),(3,vSl q),(5,vSl sc),(6,vSl o),(7, .int .i64 (i:Nat))]) (fun o=>mS 46 o++(mS 37 sc++mS 37 q)) ?_ (fun o' _=>?_)
   ·refine Zq (S:=Nat) (fun m=>m<=ins.length/\pkS ins (gi cs (i:Int)) ins.length=pkS ins (gi cs (i:Int)) m) (fun m=>[(0, .slice p l.length cp),(3,vSl q),(5,vSl sc),(6,vSl o),(7, .int .i64 (i:Nat)),(8, .int .i64 ((m:Int)-1))]) (fun _=>mS 46 o++(mS 37 sc++mS 37 q)) (fun m=>m) ins.length ⟨Wl _,rfl⟩ sbB suB (fun m hm=>?_)
    obtain⟨hm,hpk⟩:=hm
    repeat(refine wkB ?_;intros)
    refine Zi rfl (fun h=>?_) (fun h=>?_)
    ·obtain⟨m,rfl⟩:∃m',m=m'+1:=⟨m-1,by have:=Wa h;omega⟩
     have e1:((m+1:Nat):Int)-1=(m:Int):=by omega
     have hml:m<l.length:=by omega
     obtain⟨bw,ow,rfl,hrow'⟩:=hv.opn (k:=12) hml
     have hlb:=(hk (gi l (m:Int)) (Zz (by omega))).l
     have hiI:=(hio (gi ins (m:Int)) (Zz (by omega))).mono (K':=B28) (by decide)
     rcases q.cases 37 with⟨y0,y1,y2⟩|⟨bq,cq,sp,hcq,y1,y2,yne⟩
     ·rw[y0] at hm
      cases hm
     have hS:∀L [h:AtC w L bq (row rI ins sp) 37],LstC w L (.slice (some ⟨bq,0+((m:Int)).toNat*20,none⟩) (((m:Int)+1-m)).toNat ((cq:Int)-m).toNat) Za rI [gi ins (m:Int)]:=fun L h=>⟨fun w' hw'=>by
      obtain⟨fz,hb⟩:=h.out w' hw'
      have h1:=(Zbz (c:=cq) hb hcq.1).take (m+1) (by omega)
      have h2:=h1.drop (s:=20) m (by omega)
      have h3:dropA (some ⟨bq,0,none⟩) cq m 20=some ⟨bq,0+((m:Int)).toNat*20,none⟩:=by
       unfold dropA
       rw[if_neg (by omega)]
       simp[Addr.add]
       intro h0
       omega
      have h4:(ins.take (m+1)).drop m=[gi ins (m:Int)]:=by
       rw[List.drop_take,Zv (by omega)]
       have:m+1-m=1:=by omega
       rw[this,List.take_one,List.head?_drop,List.getElem?_eq_getElem (by omega)]
       rfl
      have h5:((m:Int)+1-m).toNat=m+1-m:=by omega
      have h6:((cq:Int)-m).toNat=cq-m:=by omega
      rw[h3,h4] at h2
      rw[h5,h6]
      exact h2⟩
     have q1:[gi ins (m:Int)].length<=1048576/\(∀i∈[gi ins (m:Int)],IvOk B28 i)/\RtB (gi cs (i:Int)).From/\RtB (gi cs (i:Int)).To:=⟨by simp,fun i hi=>by rw[Wo] at hi;rw[hi];exact hiI,hcI.a,hcI.b⟩
     have q2:IvOk B28 (gi ins (m:Int))/\RtB (gi cs (i:Int)).From:=⟨hiI,hcI.a⟩
     simp only[e1,y1,y2,z1,z2,Wf,Wg]
     repeat(refine wkB ?_;intros)
     refine jD 41 41 (h:=?_)
     (repeat(first|refine wkH ?_|(refine tC rfl rfl ?_ ?_;focus(exact q1))))
     cases g1:spB [gi ins (m:Int)] (gi cs (i:Int)).From (gi cs (i:Int)).To with
     |false=>
      (repeat(refine wkH ?_))
      refine Zo ?_
      refine Zr ?_
      repeat(refine wkB ?_;intros)
      have hcf:cndS ins (gi cs (i:Int)) m=false:=by unfold cndS;rw[g1];rfl
      have hp:pkS ins (gi cs (i:Int)) (m+1)=pkS ins (gi cs (i:Int)) m:=by rw[pkS,hcf];rfl
      repeat(first|(refine wkB ?_;intros)|(refine wnM ?_ ?_;(focus(exact⟨by omega,by omega⟩));intros))
      exact Ze m ⟨by omega,by rw[hpk,hp]⟩ (by(try simp only[y1,z1]);exact sbB) (by(try simp only[y2,z2,Wf,Wg]);exact suB) (by omega)
     |true=>
      (repeat(refine wkH ?_))
      by_cases g2:(gi cs (i:Int)).From=(gi cs (i:Int)).To
      ·simp only[Wc g2,Bool.not_true]
       (repeat(first|refine wkH ?_|(refine tC rfl rfl ?_ ?_;focus(exact q2))))
       refine Zo ?_
       refine Zr ?_
       cases g3:inB (gi ins (m:Int)) (gi cs (i:Int)).From with
       |false=>
        repeat(refine wkB ?_;intros)
        have hcf:cndS ins (gi cs (i:Int)) m=false:=by unfold cndS;rw[g1,Wc g2,g3];rfl
        have hp:pkS ins (gi cs (i:Int)) (m+1)=pkS ins (gi cs (i:Int)) m:=by rw[pkS,hcf];rfl
        repeat(first|(refine wkB ?_;intros)|(refine wnM ?_ ?_;(focus(exact⟨by omega,by omega⟩));intros))
        exact Ze m ⟨by omega,by rw[hpk,hp]⟩ (by(try simp only[y1,z1]);exact sbB) (by(try simp only[y2,z2,Wf,Wg]);exact suB) (by omega)
       |true=>
        have hct:cndS ins (gi cs (i:Int)) m=true:=by unfold cndS;rw[g1,Wc g2,g3];rfl
        have hp:pkS ins (gi cs (i:Int)) ins.length=some m:=by rw[hpk,pkS,hct];rfl
        have hci:out++[⟨gi cs (i:Int),(gi l (m:Int)).Label % 5⟩]=mv1 l ins (gi cs (i:Int)) out:=by unfold mv1;rw[hp]
        repeat(refine wkB ?_;intros)
        (refine ZF (.v [0,1,2,3,4,5,6,7,8,9,10,11,12] (.e1 13 (.e1 14 (.e1 15 (.fin))))) ([⟨bc,row rI cs spc,37⟩]) (h:=?_);refine wkX ?_)
        (repeat(refine wkH ?_))
        repeat(refine wkT ?_;intros)
        refine eU (k:=21) (enc:=rP) (s:=o) rfl rfl ?_ ?_ ?_ ?_
        ·rfl
        ·rfl
        ·exact⟨by decide,by omega,by omega⟩
        intro s0
        obtain⟨s',f1,f2⟩:=SlS.turn 46 hci s0
        repeat(refine wkT ?_;intros)
        repeat(refine wkB ?_;intros)
        exact Zd s' trivial (by simp only[y1,z1,f1];exact sbB) (by simp only[y2,z2,f2,Wf,Wg];exact suB)
      ·simp only[We g2,Bool.not_false]
       (repeat(refine wkH ?_))
       refine Zo ?_
       refine Zr ?_
       have hct:cndS ins (gi cs (i:Int)) m=true:=by unfold cndS;rw[g1,We g2];rfl
       have hp:pkS ins (gi cs (i:Int)) ins.length=some m:=by rw[hpk,pkS,hct];rfl
       have hci:out++[⟨gi cs (i:Int),(gi l (m:Int)).Label % 5⟩]=mv1 l ins (gi cs (i:Int)) out:=by unfold mv1;rw[hp]
       repeat(refine wkB ?_;intros)
       (refine ZF (.v [0,1,2,3,4,5,6,7,8,9,10,11,12] (.e1 13 (.e1 14 (.e1 15 (.fin))))) ([⟨bc,row rI cs spc,37⟩]) (h:=?_);refine wkX ?_)
       (repeat(refine wkH ?_))
       repeat(refine wkT ?_;intros)
       refine eU (k:=21) (enc:=rP) (s:=o) rfl rfl ?_ ?_ ?_ ?_
       ·rfl
       ·rfl
       ·exact⟨by decide,by omega,by omega⟩
       intro s0
       obtain⟨s',f1,f2⟩:=SlS.turn 46 hci s0
       repeat(refine wkT ?_;intros)
       repeat(refine wkB ?_;intros)
       exact Zd s' trivial (by simp only[y1,z1,f1];exact sbB) (by simp only[y2,z2,f2,Wf,Wg];exact suB)
    ·have hm0:m=0:=by have:=Wb h;omega
     have hci:out=mv1 l ins (gi cs (i:Int)) out:=by unfold mv1;rw[hpk,hm0];rfl
     obtain⟨s',f1,f2⟩:=SlS.turn 46 hci o
     repeat(refine wkB ?_;intros)
     exact Zd s' trivial (by rw[f1];exact sbB) (by rw[f2];exact suB)
   ·repeat(first|(refine wkB ?_;intros)|(refine wnM ?_ ?_;(focus(exact⟨by omega,by omega⟩));intros))
    exact Ze ⟨i+1,_,o'⟩ ⟨hlt,hnxt⟩ sbB suB (by show cs.length-(i+1)<cs.length-i;omega)
  ·have hge:i=cs.length:=by have:=Wb h;omega
   obtain⟨s',f1,f2⟩:=SlS.turn 46 (hend hge) o
   repeat(refine wkB ?_;intros)
   exact Zd s' trivial (by rw[f1];exact sbB) (by rw[f2];exact suB)
 have hul:(mvS l ins cs cs.length).length<=1048576:=by have:=ZdY l ins cs cs.length;omega
 repeat(first|(refine wkB ?_;intros)|(refine wnM ?_ ?_;(focus(exact hul));intros))
 rename_i r
 exact ZA rfl rfl (fun w hw=>⟨r,rfl,hw.sub suB⟩)
instance ZtS (w0:World)(L:List Blk)(v:Value)(l:List St)[h:LstC w0 L v St rSt l]:SpecR prog w0 L 17 [v] (SlS rP 21 (movV l)) (fun q=>vSl q) (fun q=>mS 46 q) (l.length<=9223372036854775807/\∀x∈l,StOk x):=⟨fun hp w hw=>Zhw v l w (h.out w hw) hp.1 hp.2⟩
end Go.Vt
namespace Go.Proofs.YtcgkgdgpdpihmaaGreatDoor
open Go.ChangeShapes Go.WideShapes Go.ChangeAt Go.RowKit Go.Deep Go.Vt
theorem rown :ownKnob Tryz.prog.godebug=none:=by kernel_rfl
theorem rlaidOut :laidOutB Tryz.prog=true:=by kernel_rfl
theorem runder23 :Tryz.prog.underlying 23=some (.slice 44):=by kernel_rfl
theorem rc44 :Tryz.prog.cellsOf 44=13:=by kernel_rfl
theorem rc42 :Tryz.prog.cellsOf 42=12:=by kernel_rfl
theorem rc40 :Tryz.prog.cellsOf 40=5:=by kernel_rfl
theorem ru5 :Tryz.prog.underlying 5=some (.int .u8):=by kernel_rfl
theorem ru4 :Tryz.prog.underlying 4=some .bool:=by kernel_rfl
theorem rc5 :Tryz.prog.cellsOf 5=1:=by kernel_rfl
theorem rc4 :Tryz.prog.cellsOf 4=1:=by kernel_rfl
theorem ru40 :∃f0 f1 f2 f3 f4,Tryz.prog.underlying 40=some (.struct #[f0,f1,f2,f3,f4])/\f0.type=5/\f1.type=5/\f2.type=5/\f3.type=5/\f4.type=4/\f0.offset=0/\f1.offset=1/\f2.offset=2/\f3.offset=3/\f4.offset=4:=⟨_,_,_,_,_,Tryz.underlying40,rfl,rfl,rfl,rfl,rfl,rfl,rfl,rfl,rfl,rfl⟩
theorem ru42 :∃f0 f1 f2 f3,Tryz.prog.underlying 42=some (.struct #[f0,f1,f2,f3])/\f0.type=40/\f1.type=40/\f2.type=4/\f3.type=4/\f0.offset=0/\f1.offset=5/\f2.offset=10/\f3.offset=11:=⟨_,_,_,_,Tryz.underlying42,rfl,rfl,rfl,rfl,rfl,rfl,rfl,rfl⟩
theorem ru44 :∃f0 f1,Tryz.prog.underlying 44=some (.struct #[f0,f1])/\f0.type=42/\f1.type=5/\f0.offset=0/\f1.offset=12:=⟨_,_,Tryz.underlying44,rfl,rfl,rfl,rfl⟩
theorem Zdo {n:Int}(h:(Lit.int .u8 n).wf=true):0<=n/\n<=255:=by
 simp only[Lit.wf,Bool.and_eq_true,decide_eq_true_eq] at h
 exact⟨h.1,h.2⟩
section
variable {H : Type} {eH : TypeId × Value -> H} {W : World} {base : Nat} {sp : Nat -> Bool} {held : Bool}
theorem ZfP (n:Nat)(cs:List Value)(y:DataW H×List MemPlace)(h:DataW.trod eH Tryz.prog W base sp held n 40 cs=some y):∃x:WI,cs=(ZG x).toList/\WIOk x:=by
 obtain⟨f0,f1,f2,f3,f4,he,t0,t1,t2,t3,t4,o0,o1,o2,o3,o4⟩:=ru40
 obtain⟨xs,k,hk,hxy,hlen,hxl,hf⟩:=DataW.trod_struct he h
 rw[rc40] at hlen
 match xs,hxl,cs,hlen with
 |[y0,y1,y2,y3,y4],_,[v0,v1,v2,v3,v4],_=>
  have g0:=hf 0 f0 rfl
  have g1:=hf 1 f1 rfl
  have g2:=hf 2 f2 rfl
  have g3:=hf 3 f3 rfl
  have g4:=hf 4 f4 rfl
  simp[o0,o1,o2,o3,o4,t0,t1,t2,t3,t4,rc5,rc4] at g0 g1 g2 g3 g4
  obtain⟨n0,p0,_,q0⟩:=DataW.trod_int ru5 g0
  obtain⟨n1,p1,_,q1⟩:=DataW.trod_int ru5 g1
  obtain⟨n2,p2,_,q2⟩:=DataW.trod_int ru5 g2
  obtain⟨n3,p3,_,q3⟩:=DataW.trod_int ru5 g3
  obtain⟨n4,p4,_⟩:=DataW.trod_bool ru4 g4
  simp only[List.cons.injEq,and_true] at p0 p1 p2 p3 p4
  subst p0 p1 p2 p3 p4
  exact⟨⟨n0,n1,n2,n3,n4⟩,rfl,⟨Zdo q0,Zdo q1,Zdo q2,Zdo q3⟩⟩
theorem Zk8 (n:Nat)(cs:List Value)(y:DataW H×List MemPlace)(h:DataW.trod eH Tryz.prog W base sp held n 42 cs=some y):∃x:WS,cs=(ZT x).toList/\WSOk x:=by
 obtain⟨f0,f1,f2,f3,he,t0,t1,t2,t3,o0,o1,o2,o3⟩:=ru42
 obtain⟨xs,k,hk,hxy,hlen,hxl,hf⟩:=DataW.trod_struct he h
 rw[rc42] at hlen
 match xs,hxl,cs,hlen with
 |[y0,y1,y2,y3],_,[v0,v1,v2,v3,v4,v5,v6,v7,v8,v9,v10,v11],_=>
  have g0:=hf 0 f0 rfl
  have g1:=hf 1 f1 rfl
  have g2:=hf 2 f2 rfl
  have g3:=hf 3 f3 rfl
  simp[o0,o1,o2,o3,t0,t1,t2,t3,rc40,rc4] at g0 g1 g2 g3
  obtain⟨a,p0,q0⟩:=ZfP _ _ _ g0
  obtain⟨b,p1,q1⟩:=ZfP _ _ _ g1
  obtain⟨n2,p2,_⟩:=DataW.trod_bool ru4 g2
  obtain⟨n3,p3,_⟩:=DataW.trod_bool ru4 g3
  refine⟨⟨a,b,n2,n3⟩, ?_,⟨q0,q1⟩⟩
  show [v0,v1,v2,v3,v4]++([v5,v6,v7,v8,v9]++([v10]++[v11]))=_
  rw[p0,p1,p2,p3]
  rfl
theorem ZnZ (n:Nat)(cs:List Value)(y:DataW H×List MemPlace)(h:DataW.trod eH Tryz.prog W base sp held n 44 cs=some y):∃x:St,cs=(rSt x).toList/\StOk x:=by
 obtain⟨f0,f1,he,t0,t1,o0,o1⟩:=ru44
 obtain⟨xs,k,hk,hxy,hlen,hxl,hf⟩:=DataW.trod_struct he h
 rw[rc44] at hlen
 match xs,hxl,cs,hlen with
 |[y0,y1],_,[v0,v1,v2,v3,v4,v5,v6,v7,v8,v9,v10,v11,v12],_=>
  have g0:=hf 0 f0 rfl
  have g1:=hf 1 f1 rfl
  simp[o0,o1,t0,t1,rc42,rc5] at g0 g1
  obtain⟨a,p0,q0⟩:=Zk8 _ _ _ g0
  obtain⟨n1,p1,_,q1⟩:=DataW.trod_int ru5 g1
  refine⟨⟨a,n1⟩, ?_,⟨q0,Zdo q1⟩⟩
  show [v0,v1,v2,v3,v4,v5,v6,v7,v8,v9,v10,v11]++[v12]=_
  rw[p0,p1]
  rfl
theorem Zmu {fuel:Nat}{v:Value}{x:DataW H×List MemPlace}(hs:∃a l c,v= .slice a l c)(h:DataW.trod eH Tryz.prog W base sp held fuel 23 v.cells.toList=some x):
  ∃xs:List St,ArgS W v rSt xs/\(∀x∈xs,StOk x)/\xs.length<=9223372036854775807:=by
 obtain⟨a0,l0,c0,rfl⟩:=hs
 rcases open_slice runder23 h with⟨h0,_⟩|⟨a,len,cap,m,n,D,Pl,hcs,hb,hl,hm,hmm,hx,hcl⟩
 ·simp[Value.cells] at h0
  obtain⟨rfl,rfl,rfl⟩:=h0
  exact⟨[],⟨.inl ⟨rfl,rfl⟩⟩,(fun x hx=>by cases hx),by simp⟩
 ·simp[Value.cells] at hcs
  obtain⟨rfl,rfl,rfl⟩:=hcs
  have hlm:l0<=m:=by rw[hmm];split <;> omega
  have each:∀i,i<l0->∃z:St,(∃cs',W.cells? base (a.add (i*13)) 13=some cs'/\cs'=(rSt z).toList)/\StOk z:=fun i hi=>by
   obtain⟨cs',c1,c2⟩:=hcl i (by omega)
   rw[rc44] at c1
   obtain⟨z,z1,z2⟩:=ZnZ _ _ _ c2
   exact⟨z,⟨cs',c1,z1⟩,z2⟩
  obtain⟨q,hq⟩:=choose_lt each
  refine⟨(List.range l0).map q,⟨.inr ⟨a,c0,by simp,by simpa using hl,fun i f k' u hi hk hu=>?_⟩⟩,fun z hz=>?_, ?_⟩
  ·simp only[List.length_map,List.length_range] at hi
   obtain rfl:k'=13:=by rw[<-hk default,Zj7.size]
   simp only[List.getElem_map,List.getElem_range] at hu
   obtain⟨cs',c1,c2⟩:=(hq i hi).1
   obtain⟨_,hlen,hcell⟩:=World.cells?_some c1
   have hf:f<13:=by
    have:=(Array.getElem?_eq_some_iff.1 hu).1
    rw[Zj7.size] at this
    exact this
   have h1:=hcell f (by omega)
   rw[add_add] at h1
   rw[h1]
   subst c2
   simpa using hu
  ·obtain⟨i,hi,rfl⟩:=List.mem_map.1 hz
   exact(hq i (List.mem_range.1 hi)).2
  ·simp only[List.length_map,List.length_range]
   have:(maxLen:Nat)=9223372036854775807:=by decide
   omega
end
def cAcc :Array Value:=#[.int .u8 128, .int .u8 191, .int .u8 160, .int .u8 191, .int .u8 128, .int .u8 159, .int .u8 144, .int .u8 191, .int .u8 128, .int .u8 143, .int .u8 0, .int .u8 0, .int .u8 0, .int .u8 0, .int .u8 0, .int .u8 0, .int .u8 0, .int .u8 0, .int .u8 0, .int .u8 0, .int .u8 0, .int .u8 0, .int .u8 0, .int .u8 0, .int .u8 0, .int .u8 0, .int .u8 0, .int .u8 0, .int .u8 0, .int .u8 0, .int .u8 0, .int .u8 0]
def cFirst :Array Value:=(Pinned.utf8FirstZ.map fun(n:Nat)=>Value.int .u8 (n:Int)).toArray
def putCells (cs:Array Value):Obj->Obj
 | .cells _ t frozen=> .cells cs t frozen
 |o=>o
noncomputable def laidWorld (os:Os):World:=
 {World.holding Tryz.prog os ⟨#[],#[],[]⟩ with heap:=((World.holding Tryz.prog os ⟨#[],#[],[]⟩).heap.modify 2 (putCells cFirst)).modify 3 (putCells cAcc)}
end Go.Proofs.YtcgkgdgpdpihmaaGreatDoor
namespace Go.Vt
open Go.RowKit Go.Proofs
open Go.Proofs.Tryz (prog)
instance Zy8 {P:Program}{w0:World}{n:Nat}{L:List Blk}{E:Env}{T T':TypeId}{x y:Operand}{a b:ByteArray}[IsC (evl E x) (.string a)][IsC (evl E y) (.string b)]:YsC P w0 n L E (.binOp .add T x y T') (.string (a++b)) (a.size+b.size<=9223372036854775807):=⟨fun hi d ty pos aft gd=>
 Zc3 isE isE (fun w=>rfl) (fun w=>by
  have h:¬(((a.size+b.size:Nat):Int)>IntKind.i64.max):=by
   have:IntKind.i64.max=9223372036854775807:=by decide
   omega
  show(Op.stringOp .add a b).run P w=_
  unfold Op.stringOp
  dsimp only
  rw[if_neg h]
  rfl)⟩
instance Ztq (x:ZH)(v:ByteArray):StC prog 9 (Zp x) 1 (.string v) (Zp ⟨x.Neg,v⟩):=⟨by kernel_rfl,by kernel_rfl,by kernel_rfl,by kernel_rfl⟩
theorem Zch {z:Int}(hz: -9223372036854775808<=z/\z<=9223372036854775807){i:Nat}(hi:i<=8):(mag (z*256 ^ i).natAbs).size<=16:=by
 rw[Zad,Int.natAbs_mul]
 have h1:z.natAbs<=9223372036854775808:=by omega
 have h2:((256:Int) ^ i).natAbs<=256 ^ 8:=by
  rw[Int.natAbs_pow]
  exact Nat.pow_le_pow_right (by decide) hi
 exact Nat.lt_of_le_of_lt (Nat.mul_le_mul h1 h2) (by decide)
def shR (x:Rl)(q:Rat):Rl:=⟨x.P+q,x.R,x.Neg⟩
instance Zt0 (x:Zh)(q:Rat):SpecC prog 88 [vR x,vQ q] (vR (shR x q)) (M x.P<=LQ/\M q<=LQ):=⟨fun hp w=>by
 refine Zb Tryz.func88 rfl Tryz.ntmps88 rfl ?_
 repeat(first|(refine wkB ?_;intros)|(refine wnM ?_ ?_;(focus(exact hp));intros))
 exact rtC rfl rfl⟩
instance ZsY (x:Zh)(q:Rat):SpecC prog 30 [vR x,vQ q] (vR (shR x q)) (M x.P<=268435456/\M q<=268435456):=⟨fun hp w=>by
 refine Zb Tryz.func30 rfl Tryz.ntmps30 rfl ?_
 repeat(first|(refine wkB ?_;intros)|(refine wnM ?_ ?_;(focus(exact hp));intros))
 exact rtC rfl rfl⟩
theorem ZpW {n:Nat}(h:n≠0):le (n*256)=0::le n:=by
 rw[Za9 (by omega)]
 have h1:n*256 % 256=0:=by omega
 have h2:n*256 / 256=n:=by omega
 rw[h1,h2]
 rfl
theorem Zoy {n:Nat}(h:n≠0):mag (n*256)=mag n++⟨#[0]⟩:=by
 unfold mag
 rw[ZpW h]
 apply ByteArray.ext
 simp
abbrev Fc :=Zac
abbrev vFc (x:Fc):Value:= .agg (ZE x)
structure FcOk (x:Fc):Prop where
 n: -9223372036854775808<=x.Num/\x.Num<=9223372036854775807
 d: -9223372036854775808<=x.Den/\x.Den<=9223372036854775807
 u:0<=x.Up/\x.Up<=255
 v:0<=x.Down/\x.Down<=255
def dnF (x:Fc):Int:=if x.Den=0 then 1 else x.Den
def ratF (x:Fc):Rat:=Rat.divInt (x.Num*256 ^ (x.Up % 9).toNat) (dnF x*256 ^ (x.Down % 9).toNat)
theorem Znn {n:Int}(h:n≠0):(⟨(I n).Neg,(I n).Mag++⟨#[0]⟩⟩:ZH)=I (n*256):=by
 unfold I
 have h1:(n*256).natAbs=n.natAbs*256:=by rw[Int.natAbs_mul];rfl
 rw[h1,Zoy (by omega),decide_eq_decide.2 (show n<0↔n*256<0 by omega)]
set_option maxHeartbeats 8000000 in
instance ZwS (x:Fc):SpecC prog 80 [vFc x] (vQ (ratF x)) (FcOk x):=⟨fun hx w=>by
 have h1:=hx.n
 have h2:=hx.d
 have h3:=hx.u
 have h4:=hx.v
 refine Zb Tryz.func80 rfl Tryz.ntmps80 rfl ?_
 repeat(refine wkB ?_;intros)
 rename_i b1 b2
 refine ZO (S:=Unit) (fun _=>True) (fun _=>[(1, .pointer (some ⟨b1,0,none⟩)),(2, .pointer (some ⟨b2,0,none⟩)),(3, .int .i64 (dnF x))]) (fun _=>[⟨b2,Zj (Q 0),33⟩,⟨b1,ZE x,63⟩]) ?_ (fun _ _=>?_)
 ·unfold dnF
  by_cases c:x.Den=0
  ·simp only[Wc c,if_pos c]
   repeat(refine wkB ?_;intros)
   exact Zd () trivial sbB suB
  ·simp only[We c,if_neg c]
   repeat(refine wkB ?_;intros)
   exact Zd () trivial sbB suB
 have hd: -9223372036854775808<=dnF x/\dnF x<=9223372036854775807:=by unfold dnF;split <;> omega
 have hd0:dnF x≠0:=by unfold dnF;split <;> omega
 generalize hdd:dnF x=den at*
 repeat(first|(refine wkB ?_;intros)|(refine wnM ?_ ?_;(focus(first|exact h1|exact hd));intros))
 rename_i b4 b5
 have hu:(((x.Up % 9).toNat:Nat):Int)=x.Up % 9:=by omega
 refine Z0 (S:=Unit) (fun _=>True) (fun _=>[(1, .pointer (some ⟨b1,0,none⟩)),(2, .pointer (some ⟨b2,0,none⟩)),(4, .pointer (some ⟨b4,0,none⟩)),(5, .pointer (some ⟨b5,0,none⟩))]) (fun _=>[⟨b5,Zp (I den),31⟩,⟨b4,Zp (I (x.Num*256 ^ (x.Up % 9).toNat)),31⟩,⟨b2,Zj (Q 0),33⟩,⟨b1,ZE x,63⟩]) ?_ (fun _ _=>?_)
 ·refine Zq (S:=Nat) (fun i=>i<=(x.Up % 9).toNat) (fun i=>[(1, .pointer (some ⟨b1,0,none⟩)),(2, .pointer (some ⟨b2,0,none⟩)),(4, .pointer (some ⟨b4,0,none⟩)),(5, .pointer (some ⟨b5,0,none⟩)),(6, .int .u8 (i:Nat))]) (fun i=>[⟨b5,Zp (I den),31⟩,⟨b4,Zp (I (x.Num*256 ^ i)),31⟩,⟨b2,Zj (Q 0),33⟩,⟨b1,ZE x,63⟩]) (fun i=>(x.Up % 9).toNat-i) 0 (Wm _) sbB (by simp only[Int.pow_zero,Int.mul_one];exact suB) (fun i hi=>?_)
  repeat(first|(refine wkB ?_;intros)|(refine wnM ?_ ?_;(focus(omega));intros))
  by_cases c1:(i:Int)<x.Up % 9
  ·simp only[Wc c1]
   repeat(first|(refine wkB ?_;intros)|(refine wnM ?_ ?_;(focus(omega));intros))
   by_cases c2:x.Num=0
   ·have hz:(x.Num*256 ^ i).natAbs=0:=by rw[c2];simp
    simp only[Wc (show mag (x.Num*256 ^ i).natAbs=⟨#[]⟩ by rw[hz];rfl),Bool.not_true]
    repeat(refine wkB ?_;intros)
    refine Zd () trivial sbB ?_
    rw[show x.Num*256 ^ (x.Up % 9).toNat=x.Num*256 ^ i by rw[c2];simp]
    exact suB
   ·have hz:x.Num*256 ^ i≠0:=Int.mul_ne_zero c2 (Int.pow_ne_zero (by decide))
    simp only[We (show¬mag (x.Num*256 ^ i).natAbs=⟨#[]⟩ from fun h=>hz (by
     have:=Z9.1 (show mag (x.Num*256 ^ i).natAbs=ByteArray.empty from h)
     omega)),Bool.not_false]
    have hsz:(mag (x.Num*256 ^ i).natAbs).size+(⟨#[0]⟩:ByteArray).size<=9223372036854775807:=by
     have h5:=Zch h1 (show i<=8 by omega)
     have h6:(⟨#[0]⟩:ByteArray).size=1:=rfl
     omega
    have hw:IntKind.u8.wrap ((i:Int)+1)=((i+1:Nat):Int):=by
     rw[IntWalk.u8_in _ ⟨by omega,by omega⟩]
     omega
    repeat(first|(refine wkB ?_;intros)|(refine wnM ?_ ?_;(focus(omega));intros))
    simp only[hw]
    rw[show(⟨(I (x.Num*256 ^ i)).Neg,mag (x.Num*256 ^ i).natAbs++⟨#[0]⟩⟩:ZH)=I (x.Num*256 ^ (i+1)) by rw[Int.pow_succ,<-Int.mul_assoc];exact Znn hz]
    exact Ze (i+1) (show i+1<=(x.Up % 9).toNat by omega) sbB suB (by omega)
  ·have hi2:i=(x.Up % 9).toNat:=by omega
   subst hi2
   simp only[We c1]
   repeat(refine wkB ?_;intros)
   exact Zd () trivial sbB suB
 have hv:(((x.Down % 9).toNat:Nat):Int)=x.Down % 9:=by omega
 repeat(refine wkB ?_;intros)
 refine Z0 (S:=Unit) (fun _=>True) (fun _=>[(1, .pointer (some ⟨b1,0,none⟩)),(2, .pointer (some ⟨b2,0,none⟩)),(4, .pointer (some ⟨b4,0,none⟩)),(5, .pointer (some ⟨b5,0,none⟩))]) (fun _=>[⟨b5,Zp (I (den*256 ^ (x.Down % 9).toNat)),31⟩,⟨b4,Zp (I (x.Num*256 ^ (x.Up % 9).toNat)),31⟩,⟨b2,Zj (Q 0),33⟩,⟨b1,ZE x,63⟩]) ?_ (fun _ _=>?_)
 ·refine Zq (S:=Nat) (fun i=>i<=(x.Down % 9).toNat) (fun i=>[(1, .pointer (some ⟨b1,0,none⟩)),(2, .pointer (some ⟨b2,0,none⟩)),(4, .pointer (some ⟨b4,0,none⟩)),(5, .pointer (some ⟨b5,0,none⟩)),(7, .int .u8 (i:Nat))]) (fun i=>[⟨b5,Zp (I (den*256 ^ i)),31⟩,⟨b4,Zp (I (x.Num*256 ^ (x.Up % 9).toNat)),31⟩,⟨b2,Zj (Q 0),33⟩,⟨b1,ZE x,63⟩]) (fun i=>(x.Down % 9).toNat-i) 0 (Wm _) sbB (by simp only[Int.pow_zero,Int.mul_one];exact suB) (fun i hi=>?_)
  repeat(first|(refine wkB ?_;intros)|(refine wnM ?_ ?_;(focus(omega));intros))
  refine Zi rfl (fun h=>?_) (fun h=>?_)
  ·have c1:(i:Int)<x.Down % 9:=Wa h
   have hz:den*256 ^ i≠0:=Int.mul_ne_zero hd0 (Int.pow_ne_zero (by decide))
   have hsz:(mag (den*256 ^ i).natAbs).size+(⟨#[0]⟩:ByteArray).size<=9223372036854775807:=by
    have h5:=Zch hd (show i<=8 by omega)
    have h6:(⟨#[0]⟩:ByteArray).size=1:=rfl
    omega
   have hw:IntKind.u8.wrap ((i:Int)+1)=((i+1:Nat):Int):=by
    rw[IntWalk.u8_in _ ⟨by omega,by omega⟩]
    omega
   repeat(first|(refine wkB ?_;intros)|(refine wnM ?_ ?_;(focus(omega));intros))
   simp only[hw]
   rw[show(⟨(I (den*256 ^ i)).Neg,mag (den*256 ^ i).natAbs++⟨#[0]⟩⟩:ZH)=I (den*256 ^ (i+1)) by rw[Int.pow_succ,<-Int.mul_assoc];exact Znn hz]
   exact Ze (i+1) (show i+1<=(x.Down % 9).toNat by omega) sbB suB (by omega)
  ·have hi2:i=(x.Down % 9).toNat:=by have:=Wb h;omega
   subst hi2
   repeat(refine wkB ?_;intros)
   exact Zd () trivial sbB suB
 have hp:den*256 ^ (x.Down % 9).toNat≠0/\mg (x.Num*256 ^ (x.Up % 9).toNat)<=1073741824/\mg (den*256 ^ (x.Down % 9).toNat)<=1073741824:=by
  have e1:=Zch h1 (show(x.Up % 9).toNat<=8 by omega)
  have e2:=Zch hd (show(x.Down % 9).toNat<=8 by omega)
  exact⟨Int.mul_ne_zero hd0 (Int.pow_ne_zero (by decide)),Wi e1 (by decide),Wi e2 (by decide)⟩
 have hr:ratF x=Rat.divInt (x.Num*256 ^ (x.Up % 9).toNat) (den*256 ^ (x.Down % 9).toNat):=by unfold ratF;rw[hdd]
 rw[hr]
 repeat(first|(refine wkB ?_;intros)|(refine wnM ?_ ?_;(focus(exact hp));intros))
 exact rtC rfl rfl⟩
theorem Zpi {x:Fc}(h:FcOk x):M (ratF x)<=16:=by
 have hd: -9223372036854775808<=dnF x/\dnF x<=9223372036854775807:=by
  have:=h.d
  unfold dnF
  split <;> omega
 exact ZbV (Zch h.n (by have:=h.u;omega)) (Zch hd (by have:=h.v;omega)) (by decide)
instance ZxK (x:Fc):SpecC prog 28 [vFc x] (vQ (ratF x)) (FcOk x):=⟨fun hx w=>by
 refine Zb Tryz.func28 rfl Tryz.ntmps28 rfl ?_
 repeat(first|(refine wkB ?_;intros)|(refine wnM ?_ ?_;(focus(exact hx));intros))
 exact rtC rfl rfl⟩
end Go.Vt
namespace Go.Proofs.YtcgkgdgpdpihmaaGreatDoor
open Go.ChangeShapes Go.WideShapes Go.ChangeAt Go.RowKit Go.Deep Go.Vt
theorem rc3 :Tryz.prog.cellsOf 3=1:=by kernel_rfl
theorem ru3 :Tryz.prog.underlying 3=some (.int .i64):=by kernel_rfl
theorem ru63 :∃f0 f1 f2 f3,Tryz.prog.underlying 63=some (.struct #[f0,f1,f2,f3])/\f0.type=3/\f1.type=3/\f2.type=5/\f3.type=5/\f0.offset=0/\f1.offset=1/\f2.offset=2/\f3.offset=3:=⟨_,_,_,_,Tryz.underlying63,rfl,rfl,rfl,rfl,rfl,rfl,rfl,rfl⟩
theorem Zls {n:Int}(h:(Lit.int .i64 n).wf=true): -9223372036854775808<=n/\n<=9223372036854775807:=by
 simp only[Lit.wf,Bool.and_eq_true,decide_eq_true_eq] at h
 exact⟨h.1,h.2⟩
section
variable {H : Type} {enc : TypeId × Value -> H} {W : World} {base b0 : Nat} {r : Reach} {held : Bool} {v : Value} {d : DataW H} {p : List MemPlace}
theorem Zjy (hv:Value.okWide Tryz.prog W r b0 63 v)(h:DataW.Trod enc Tryz.prog W base (fun _=>true) held 63 v d p):∃x:Fc,v=vFc x/\FcOk x:=by
 obtain⟨f0,f1,f2,f3,he,t0,t1,t2,t3,o0,o1,o2,o3⟩:=ru63
 simp only[Value.okWide,he] at hv
 obtain⟨cs,rfl,hs,_⟩:=hv
 have h3:cs.size=4:=by rw[hs];kernel_rfl
 obtain⟨fuel,hf⟩:=h
 obtain⟨xs,k,hk,hxy,_,hxl,hg⟩:=DataW.trod_struct he hf
 match cs,h3,xs,hxl with
 |⟨[c0,c1,c2,c3]⟩,_,[y0,y1,y2,y3],_=>
  have g0:=hg 0 f0 rfl
  have g1:=hg 1 f1 rfl
  have g2:=hg 2 f2 rfl
  have g3:=hg 3 f3 rfl
  simp[Value.cells,o0,o1,o2,o3,t0,t1,t2,t3,rc3,rc5] at g0 g1 g2 g3
  obtain⟨n0,p0,_,q0⟩:=DataW.trod_int ru3 g0
  obtain⟨n1,p1,_,q1⟩:=DataW.trod_int ru3 g1
  obtain⟨n2,p2,_,q2⟩:=DataW.trod_int ru5 g2
  obtain⟨n3,p3,_,q3⟩:=DataW.trod_int ru5 g3
  simp only[List.cons.injEq,and_true] at p0 p1 p2 p3
  subst p0;subst p1;subst p2;subst p3
  exact⟨⟨n0,n1,n2,n3⟩,rfl,⟨Zls q0,Zls q1,Zdo q2,Zdo q3⟩⟩
end
end Go.Proofs.YtcgkgdgpdpihmaaGreatDoor
namespace Go.Vt
open Go.RowKit Go.Proofs
open Go.Proofs.Tryz (prog)
def cmL (xs:List Int):Nat->List Int
 |0=>[]
 |j+1=>if 0<j/\gi xs (j:Int)=gi xs ((j-1:Nat):Int) then cmL xs j else cmL xs j++[gi xs (j:Int)]
def cmI' (xs:List Int):List Int:=cmL xs xs.length
theorem Zft (xs:List Int):∀j,0<j->cmL xs j≠[]
 |0,h=>absurd h (Nat.lt_irrefl _)
 |j+1,_=>by
  rw[cmL]
  split
  ·rename_i h;exact Zft xs j h.1
  ·simp
theorem ZoD {xs:List Int}{z:Int}:∀j,j<=xs.length->(z∈cmL xs j↔z∈xs.take j)
 |0,_=>by simp[cmL]
 |j+1,h=>by
  have ih:=ZoD (xs:=xs) (z:=z) j (by omega)
  have ht:xs.take (j+1)=xs.take j++[gi xs (j:Int)]:=by rw[Wn h,Zv h]
  rw[cmL,ht]
  split
  ·rename_i hc
   rw[ih,Wv]
   constructor
   ·exact .inl
   ·rintro(h1|h1)
    ·exact h1
    ·rw[Wo] at h1
     rw[h1,hc.2,Zv (by omega)]
     exact List.mem_take_iff_getElem.2 ⟨j-1,by omega,rfl⟩
  ·rw[Wv,Wv,ih]
structure CmQ (xs:List Int)(k i:Nat)(ys:List Int):Prop where
 ki:k<i
 k0:0<k
 im:i<=xs.length
 len:ys.length=xs.length
 tk:ys.take k=cmL xs i
 eq:∀j:Nat,i-1<=j->j<xs.length->gi ys (j:Int)=gi xs (j:Int)
theorem CmQ.skip {xs ys:List Int}{k i:Nat}(h:CmQ xs k i ys)(hi:i<xs.length)(he:gi xs (i:Int)=gi xs ((i-1:Nat):Int)):CmQ xs k (i+1) ys:=
 ⟨by have:=h.ki;omega,h.k0,hi,h.len,by rw[cmL,if_pos ⟨by have:=h.ki;omega,he⟩];exact h.tk,fun j h1 h2=>h.eq j (by omega) h2⟩
theorem CmQ.keep {xs ys:List Int}{k i:Nat}(h:CmQ xs k i ys)(hi:i<xs.length)(he:gi xs (i:Int)≠gi xs ((i-1:Nat):Int)):CmQ xs (k+1) (i+1) (ys.set k (gi xs (i:Int))):=by
 have hk:=h.ki
 have hl:=h.len
 refine⟨by omega,by omega,hi,by rw[List.length_set];exact hl, ?_,fun j h1 h2=>?_⟩
 ·rw[cmL,if_neg (fun hc=>he hc.2),<-h.tk,Wn (by rw[List.length_set];omega),List.take_set_of_le (Wl k)]
  simp
 ·rw[Zv (by rw[List.length_set];omega),List.getElem_set_ne (by omega),<-Zv (by omega)]
  exact h.eq j (by omega) h2
theorem Zd2 {xs:List Int}:∀{m:Nat},m<=xs.length->(∀j:Nat,0<j->j<m->gi xs (j:Int)≠gi xs ((j-1:Nat):Int))->cmL xs m=xs.take m
 |0,_,_=>rfl
 |m+1,hm,h=>by
  rw[cmL,if_neg (fun hc=>h m hc.1 (Nat.lt_succ_self m) hc.2),Zd2 (by omega) (fun j h1 h2=>h j h1 (by omega)),Wn hm,Zv hm]
theorem CmQ.start {xs:List Int}{k:Nat}(hk:0<k)(hm:k<xs.length)(he:gi xs (k:Int)=gi xs ((k-1:Nat):Int))(h:∀j:Nat,0<j->j<k->gi xs (j:Int)≠gi xs ((j-1:Nat):Int)):CmQ xs k (k+1) xs:=
 ⟨Nat.lt_succ_self _,hk,hm,rfl,by rw[cmL,if_pos ⟨hk,he⟩,Zd2 (Nat.le_of_lt hm) h],fun _ _ _=>rfl⟩
set_option maxHeartbeats 8000000 in
theorem Zf2 (w0 w:World)(L L1:List Blk)(xs:List Int)(s:SlS (eI .i64) 1 xs)[hd:OwnS 3 s L L1](hl:xs.length<=1048576)(hw:Own w0 L w):
  Calls prog 85 [vSl s].toArray w (RetX w0 (SlS (eI .i64) 1 (cmI' xs)) (fun s=>vSl s) (fun s=>mS 3 s++L1)):=by
 have hw1:=hw.perm hd.out
 refine Zah Tryz.func85 rfl Tryz.ntmps85 rfl hw1 ?_
 repeat(refine wkB ?_;intros)
 by_cases h2:xs.length<2
 ·simp only[Wc (show(xs.length:Int)<2 by omega)]
  have e:cmI' xs=xs:=by
   unfold cmI'
   rw[Zd2 (Wl _) (fun j h1 h3=>by omega),List.take_length]
  obtain⟨s',e1,e2⟩:=SlS.turn 3 e.symm s
  repeat(refine wkB ?_;intros)
  exact ZA rfl rfl (fun w hw=>⟨s',by show Ending.returned (vSl s)=Ending.returned (vSl s');rw[e1],by show Own w0 (mS _ s'++L1) w;rw[e2];exact hw⟩)
 simp only[We (show¬(xs.length:Int)<2 by omega)]
 rcases s.cases 3 with⟨x0, -, -⟩|⟨bs,c,sp,h1,hv,hmS,hne⟩
 ·rw[x0] at h2
  simp at h2
 simp only[hv,hmS,Wf,Wg]
 repeat(refine wkB ?_;intros)
 refine Zq (S:=Nat) (fun m=>m+1<=xs.length/\∀j:Nat,0<j->j<m+1->gi xs (j:Int)≠gi xs ((j-1:Nat):Int)) (fun m=>[(0, .slice (some ⟨bs,0,none⟩) xs.length c),(3, .int .i64 ((m+1:Nat)))]) (fun _=>⟨bs,row (eI .i64) xs sp,3⟩::L1) (fun m=>xs.length-m) 0 ⟨by omega,fun j h1 h2=>by omega⟩ sbB slB (fun m hm=>?_)
 obtain⟨hm,hall⟩:=hm
 repeat(refine wkB ?_;intros)
 refine Zi rfl (fun h=>?_) (fun h=>?_)
 ·have hlt:m+1<xs.length:=by have:=Wa h;omega
  have e1:((m+1:Nat):Int)-1=(m:Int):=by omega
  repeat(refine wkB ?_;intros)
  refine jD 10 10 (h:=?_)
  (repeat(refine wkH ?_))
  simp only[e1]
  (repeat(refine wkH ?_))
  refine Zo ?_
  refine Zr ?_
  by_cases hq:gi xs ((m+1:Nat):Int)=gi xs (m:Int)
  ·simp only[Wc hq]
   have hst:=CmQ.start (k:=m+1) (Nat.succ_pos m) hlt hq hall
   repeat(first|(refine wkB ?_;intros)|(refine wnM ?_ ?_;(focus(exact⟨by omega,by omega⟩));intros))
   refine Zq (S:=Nat×Nat×List Int) (fun q=>CmQ xs q.1 q.2.1 q.2.2/\m+1<q.2.1) (fun q=>[(0, .slice (some ⟨bs,0,none⟩) xs.length c),(3, .int .i64 (q.1:Nat)),(4, .slice (some ⟨bs,(m+1)*1,none⟩) (xs.length-(m+1)) (c-(m+1))),(5, .int .i64 ((q.2.1-(m+1):Nat)))]) (fun q=>⟨bs,row (eI .i64) q.2.2 sp,3⟩::L1) (fun q=>xs.length-q.2.1) (m+1,m+2,xs) ⟨hst,Nat.lt_succ_self _⟩ (by rw[show m+2-(m+1)=1 by omega];exact sbB) slB (fun q hq2=>?_)
   obtain⟨k,i,ys⟩:=q
   obtain⟨hq2,hmi⟩:=hq2
   have hki:=hq2.ki
   have him:=hq2.im
   have hyl:=hq2.len
   have hk0:=hq2.k0
   simp only at hq2 hki him hyl hk0 hmi⊢
   obtain⟨d,rfl⟩:∃d,i=m+1+(d+1):=⟨i-(m+1)-1,by omega⟩
   rw[show m+1+(d+1)-(m+1)=d+1 by omega]
   repeat(refine wkB ?_;intros)
   refine Zi rfl (fun h3=>?_) (fun h3=>?_)
   ·have hlt3:m+1+(d+1)<xs.length:=by have:=Wa h3;omega
    have e4:((d+1:Nat):Int)-1=(d:Int):=by omega
    have g1:=hq2.eq (m+1+(d+1)) (by omega) hlt3
    have g2:=hq2.eq (m+1+d) (by omega) (by omega)
    have e5:(m+1)*1+((d+1:Nat):Int).toNat*1=0+((m+1+(d+1):Nat):Int).toNat*1:=by omega
    have e6:(m+1)*1+((d:Nat):Int).toNat*1=0+((m+1+d:Nat):Int).toNat*1:=by omega
    repeat(refine wkB ?_;intros)
    refine jD 10 10 (h:=?_)
    (repeat(refine wkH ?_))
    simp only[e5]
    (repeat(refine wkH ?_))
    simp only[e4]
    (repeat(refine wkH ?_))
    simp only[e6]
    (repeat(refine wkH ?_))
    refine Zo ?_
    refine Zr ?_
    rw[g1,g2]
    have e7:((m+1+(d+1)-1:Nat):Int)=((m+1+d:Nat):Int):=by omega
    by_cases hq3:gi xs ((m+1+(d+1):Nat):Int)=gi xs ((m+1+d:Nat):Int)
    ·simp only[Wc hq3,Bool.not_true]
     repeat(first|(refine wkB ?_;intros)|(refine wnM ?_ ?_;(focus(exact⟨by omega,by omega⟩));intros))
     exact Ze (k,m+1+(d+1)+1,ys) ⟨hq2.skip hlt3 (by rw[e7];exact hq3),by simp only;omega⟩ (by simp only;rw[show m+1+(d+1)+1-(m+1)=d+1+1 by omega];exact sbB) slB (by show xs.length-(m+1+(d+1)+1)<xs.length-(m+1+(d+1));omega)
    ·simp only[We hq3,Bool.not_false]
     repeat(refine wkB ?_;intros)
     simp only[e5]
     repeat(first|(refine wkB ?_;intros)|(refine wnM ?_ ?_;(focus(exact⟨by omega,by omega⟩));intros))
     rw[g1]
     have hkk:=hq2.keep hlt3 (by rw[e7];exact hq3)
     exact Ze (k+1,m+1+(d+1)+1,ys.set k (gi xs ((m+1+(d+1):Nat):Int))) ⟨hkk,by simp only;omega⟩ (by simp only;rw[show m+1+(d+1)+1-(m+1)=d+1+1 by omega];exact sbB) slB (by show xs.length-(m+1+(d+1)+1)<xs.length-(m+1+(d+1));omega)
   ·have hge:m+1+(d+1)=xs.length:=by have:=Wb h3;omega
    have htk:ys.take k=cmI' xs:=by rw[hq2.tk,hge];rfl
    have hfl:(cmI' xs).length=k:=by rw[<-htk,Wt];omega
    repeat(first|(refine wkB ?_;intros)|(refine wnM ?_ ?_;(focus(exact⟨by omega,by omega,by omega⟩));intros))
    refine sClr (enc:=eI .i64) (k:=1) (i:=k) (ys:=ys) (z:= .int .i64 0) (zc:=#[.int .i64 0]) (hz:=⟨by kernel_rfl,rfl⟩) rfl (by omega) (by omega) rfl (EncC.one (enc:=eI .i64) (0:Int)) (fun zs hzs=>?_)
    repeat(first|(refine wkB ?_;intros)|(refine wnM ?_ ?_;(focus(exact⟨by omega,by omega,by omega⟩));intros))
    refine ZA rfl rfl (fun w hw=>⟨SlS.at_ bs c (zs++sp) ?_ ?_, ?_, ?_⟩)
    ·rw[hfl]
     refine⟨by omega, ?_⟩
     rw[Wp,hzs,h1.2]
     omega
    ·exact Zft xs xs.length (by omega)
    ·show Ending.returned _=Ending.returned (.slice (some ⟨bs,0,none⟩) (cmI' xs).length c)
     rw[hfl]
    ·show Own w0 (⟨bs,row (eI .i64) (cmI' xs) (zs++sp),_⟩::L1) w
     rw[<-htk]
     exact hw
  ·simp only[We hq]
   repeat(first|(refine wkB ?_;intros)|(refine wnM ?_ ?_;(focus(exact⟨by omega,by omega⟩));intros))
   exact Ze (m+1) ⟨by omega,fun j h1 h2=>by
    by_cases e:j=m+1
    ·subst e;exact hq
    ·exact hall j h1 (by omega)⟩ sbB slB (by omega)
 ·have hge:m+1=xs.length:=by have:=Wb h;omega
  have e:cmI' xs=xs:=by
   unfold cmI'
   rw[Zd2 (Wl _) (fun j h1 h3=>hall j h1 (by omega)),List.take_length]
  obtain⟨s',e1,e2⟩:=SlS.turn 3 e.symm s
  repeat(refine wkB ?_;intros)
  exact ZA rfl rfl (fun w hw=>⟨s',by show Ending.returned _=Ending.returned (vSl s');rw[e1,hv],by show Own w0 (mS _ s'++L1) w;rw[e2,hmS];exact hw⟩)
end Go.Vt
