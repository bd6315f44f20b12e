/- For any up to 12 units whose ends have up to 20 bytes, and for any decoded moving label (up to 8 stretches), Check returns OK or the first error. Conditions: none. (part 22 of 28.) Conditions: those that each statement names. -/
import Derived.Test.YtcgkgdgpdpihmaaGreatDoorCards
import Derived.Test.YtcgkgdgpdpihmaaGreatDoorTie
import Derived.WalkKit
import Derived.ProofKit
import Derived.OpenShut
import Derived.Deep.DeepHandedRow
import Derived.Deep.DeepLaidRun
import Derived.Deep.SlicePairs
import Derived.Carry
import Derived.Lib.LaidU8
import Derived.Shelf.Lays
import Derived.Shelf.Strings.Repeat
import Derived.Ground.NamesProg
import Derived.Test.YtcgkgdgpdpihmaaGreatDoorProg
import Derived.Calls
import Derived.Test.YtcgkgdgpdpihmaaGreatDoorKC6
import Derived.Test.YtcgkgdgpdpihmaaGreatDoorKC15
import Derived.Test.YtcgkgdgpdpihmaaGreatDoorKC21
set_option linter.unusedSimpArgs false
set_option linter.unusedVariables false
set_option maxHeartbeats 2000000
set_option maxRecDepth 100000
namespace Go.Vt
open Go.RowKit Go.Proofs
open Go.Proofs.Tryz (prog)
theorem ZqN {P:Program}{w0:World}{n:Nat}{Q:Exit->Act->World->Prop}{E:Env}{L:List Blk}{S:Type}{id id':Nat}(I:S->Prop)(Es:S->Env)(Ls:S->List Blk){x y:Code}(h1:J P w0 n x (Exit.inBlock id (Exit.inBlock id' (MidQ w0 n I Es Ls (fun _ _=>True) Q))) E L)(h2:∀s,I s->J P w0 n y Q (Es s) (Ls s)):J P w0 n x (Exit.inBlock id (Exit.inBlock id' (Then P y Q))) E L:=⟨fun a w ha hw=>wp_mono (h1.out a w ha hw) (ZU (ZU (ZO h2)))⟩
abbrev St :=Zac
abbrev rSt :=Zau
instance Znd :EncC rSt 13:=⟨fun _=>CsC.size,fun _=>CsC.one⟩
instance : Inhabited St:=⟨Zdl⟩
structure StOk (x:St):Prop where
 a:WSOk x.In
 l:0<=x.Label/\x.Label<=255
noncomputable def inS (l:List St):Nat->List Za
 |0=>[]
 |m+1=>inS l m++[ivS (gi l (m:Int)).In]
theorem Zgd (l:List St):∀m,(inS l m).length=m
 |0=>rfl
 |m+1=>by rw[inS,Wp,Zgd l m];rfl
theorem Zlr {l:List St}(h:∀x∈l,StOk x):∀m,m<=l.length->∀i∈inS l m,IvOk 3 i
 |0,_,i,hi=>by cases hi
 |m+1,hm,i,hi=>by
  rw[inS,Wv,Wo] at hi
  rcases hi with hi|rfl
  ·exact Zlr h m (by omega) i hi
  ·exact Zuq (h _ (ZA (by omega))).a
noncomputable def cndS (ins:List Za)(c:Za)(k:Nat):Bool:=spB [gi ins (k:Int)] c.From c.To&&(!decide (c.From=c.To)||inB (gi ins (k:Int)) c.From)
noncomputable def pkS (ins:List Za)(c:Za):Nat->Option Nat
 |0=>none
 |m+1=>if cndS ins c m=true then some m else pkS ins c m
noncomputable def mv1 (l:List St)(ins:List Za)(c:Za)(out:List PU):List PU:=match pkS ins c ins.length with
 |some k=>out++[⟨c,(gi l (k:Int)).Label % 5⟩]
 |none=>out
noncomputable def mvS (l:List St)(ins cs:List Za):Nat->List PU
 |0=>[]
 |i+1=>mv1 l ins (gi cs (i:Int)) (mvS l ins cs i)
theorem ZqA (l:List St)(ins:List Za)(c:Za)(out:List PU):(mv1 l ins c out).length<=out.length+1:=by
 unfold mv1
 split <;> simp
theorem Zeo (l:List St)(ins cs:List Za):∀i,(mvS l ins cs i).length<=i
 |0=>Wl _
 |i+1=>by
  have h1:=Zeo l ins cs i
  have h2:=ZqA l ins (gi cs (i:Int)) (mvS l ins cs i)
  rw[mvS]
  omega
noncomputable def insV (l:List St):List Za:=inS l (min l.length 8)
noncomputable def celV (l:List St):List Za:=celR (nrmS (insV l)) (enR (insV l))
noncomputable def movU (l:List St):List PU:=mvS l (insV l) (celV l) (celV l).length
noncomputable def movV (l:List St):List PU:=jnL (movU l) (movU l).length
theorem ZeP (l:List St):(insV l).length<=8/\(insV l).length<=l.length:=by
 unfold insV
 rw[Zgd]
 omega
theorem Zim (l:List St):(celV l).length<=160:=by
 have h1:=(ZeP l).1
 have h2:=ZeR (insV l)
 have h3:=ZdA (insV l)
 have h4:=ZnS (nrmS (insV l)) (enR (insV l))
 unfold celV
 omega
theorem ZoN (l:List St):(movV l).length<=160:=by
 have h1:=Zim l
 have h2:=Zeo l (insV l) (celV l) (celV l).length
 have h3:=Zev (movU l) (movU l).length
 unfold movV
 have h4:(movU l).length=(mvS l (insV l) (celV l) (celV l).length).length:=rfl
 omega
theorem Zcz {l:List St}(h:∀x∈l,StOk x):∀i∈insV l,IvOk 3 i:=Zlr h _ (Nat.min_le_left _ _)
theorem Zem {l:List St}(h:∀x∈l,StOk x):∀i∈celV l,IvOk 3 i:=fun i hi=>by
 have h1:∀i∈insV l,RlB 3 i.From/\RlB 3 i.To:=fun i hi=>⟨(Zcz h i hi).a,(Zcz h i hi).b⟩
 have:=Zmu (Pr:=RlB 3) (Zhe h1) (ZgX h1) i hi
 exact⟨this.1,this.2⟩
theorem ZjL {l:List St}(h:∀x∈l,StOk x):∀i∈nrmS (insV l),IvOk 3 i:=fun i hi=>by
 have h1:∀i∈insV l,RlB 3 i.From/\RlB 3 i.To:=fun i hi=>⟨(Zcz h i hi).a,(Zcz h i hi).b⟩
 have:=Zhe (Pr:=RlB 3) h1 i hi
 exact⟨this.1,this.2⟩
set_option maxHeartbeats 32000000 in
theorem ZiY (v:Value)(l:List St)(w:World)(hv:ArgS w v rSt l)(hl:l.length<=9223372036854775807)(hk:∀x∈l,StOk x):
  Calls prog 17 [v].toArray w (RetM (SlS rP 21 (movV l)) (fun q=>vSl q) (fun q=>mS 46 q) w):=by
 obtain⟨p,cp,rfl⟩:=hv.form
 refine Zb Tryz.func17 rfl Tryz.ntmps17 rfl ?_
 repeat(refine wkB ?_;intros)
 refine Zad (S:=SlS rI 20 (insV l)) (fun _=>True) (fun q=>[(0, .slice p l.length cp),(3,vSl q)]) (fun q=>mS 37 q) ?_ (fun q _=>?_)
 ·refine Zq (S:=(_:Nat)×(o:List Za)×SlS rI 20 o) (fun q=>q.1<=min l.length 8/\q.2.1=inS l q.1) (fun q=>[(0, .slice p l.length cp),(3,vSl q.2.2),(4, .int .i64 (q.1:Nat))]) (fun q=>mS 37 q.2.2) (fun q=>8-q.1) ⟨0,[],SlS.no⟩ ⟨Wm _,rfl⟩ sbB suB (fun q hq=>?_)
  obtain⟨i,out,o⟩:=q
  obtain⟨hq,ho⟩:=hq
  dsimp only at hq ho⊢
  have hln:out.length=i:=by rw[ho];exact Zgd l i
  have hend:i=min l.length 8->out=insV l:=fun h=>by rw[ho,h];rfl
  have hnxt:out++[ivS (gi l (i:Int)).In]=inS l (i+1):=by rw[ho];rfl
  clear ho
  repeat(refine wkB ?_;intros)
  by_cases c1:i<l.length
  ·simp only[Wc (show(i:Int)<(l.length:Nat) by omega)]
   repeat(refine wkB ?_;intros)
   refine Zk rfl (fun h=>?_) (fun h=>?_)
   ·have c2:i<8:=by have:=Wa h;omega
    have hne:l≠[]:=fun h0=>by rw[h0] at c1;simp at c1
    obtain⟨bw,ow,cw,hvw,hcw,hrow⟩:=hv.blk (k:=12) hne []
    injection hvw with x1 x2 x3
    subst x1 x3
    have hrow':∀L,RowC w L bw ow St rSt l:=fun L=>⟨fun w' hw'=>hrow.out w' (hw'.sub (Wk _))⟩
    have hki:=(hk (gi l (i:Int)) (ZA (by omega))).a
    repeat(first|(refine wkB ?_;intros)|(refine wnM ?_ ?_;(focus(exact hki));intros))
    refine sU (k:=20) (enc:=rI) (s:=o) rfl rfl ?_ ?_ ?_ ?_
    ·rfl
    ·rfl
    ·exact⟨by decide,by omega,by omega⟩
    intro s'
    repeat(first|(refine wkB ?_;intros)|(refine wnM ?_ ?_;(focus(exact⟨by omega,by omega⟩));intros))
    exact Zg ⟨i+1,_,s'⟩ ⟨by show i+1<=min l.length 8;omega,hnxt⟩ sbB suB (by show 8-(i+1)<8-i;omega)
   ·have hge:i=min l.length 8:=by have:=Wb h;omega
    obtain⟨s',f1,f2⟩:=SlS.turn 37 (hend hge) o
    repeat(refine wkB ?_;intros)
    exact Zj s' trivial (by rw[f1];exact sbB) (by rw[f2];exact suB)
  ·have hge:i=min l.length 8:=by omega
   obtain⟨s',f1,f2⟩:=SlS.turn 37 (hend hge) o
   simp only[We (show¬(i:Int)<(l.length:Nat) by omega)]
   repeat(refine wkB ?_;intros)
   exact Zj s' trivial (by rw[f1];exact sbB) (by rw[f2];exact suB)
 have hil:=ZeP l
 have hio:=Zcz hk
 have hno:=ZjL hk
 have p1:(insV l).length<=1024/\∀i∈insV l,IvOk B28 i:=⟨by omega,fun i hi=>(hio i hi).mono (by decide)⟩
 have p2:(insV l).length<=65536/\∀i∈insV l,IvOk B28 i:=⟨by omega,p1.2⟩
 have p3:CelIn (nrmS (insV l)) (enR (insV l)):=by
  have h1:=ZeR (insV l)
  have h2:=ZdA (insV l)
  exact⟨by omega,by omega,fun i hi=>(hno i hi).mono (by decide),(Zec p1.2).b⟩
 have hco:=Zem hk
 have hcl:=Zim l
 have hfin:movV l=jnL (mvS l (insV l) (celV l) (celV l).length) (mvS l (insV l) (celV l) (celV l).length).length:=rfl
 rw[hfin]
 have hcv:celV l=celR (nrmS (insV l)) (enR (insV l)):=rfl
 rw[hcv] at hco hcl⊢
 clear hcv hfin
 generalize insV l=ins at*
 repeat(first|(refine wkB ?_;intros)|(refine wnM ?_ ?_;(focus(first|exact p1|exact p2|exact p3));intros))
 rename_i s3 s2 sc
 generalize celR (nrmS ins) (enR ins)=cs at*
 refine Zad (S:=SlS rP 21 (mvS l ins cs cs.length)) (fun _=>True) (fun o=>[(6,vSl o)]) (fun o=>mS 46 o) ?_ (fun o _=>?_)
 ·refine Zq (S:=(_:Nat)×(o:List PU)×SlS rP 21 o) (fun k=>k.1<=cs.length/\k.2.1=mvS l ins cs k.1) (fun k=>[(0, .slice p l.length cp),(3,vSl q),(5,vSl sc),(6,vSl k.2.2),(7, .int .i64 (k.1:Nat))]) (fun k=>mS 46 k.2.2++(mS 37 sc++mS 37 q)) (fun k=>cs.length-k.1) ⟨0,[],SlS.no⟩ ⟨Wm _,rfl⟩ sbB suB (fun k hk'=>?_)
  obtain⟨i,out,o⟩:=k
  obtain⟨hik,ho⟩:=hk'
  dsimp only at hik ho⊢
  have hln:out.length<=i:=by rw[ho];exact Zeo l ins cs i
  have hend:i=cs.length->out=mvS l ins cs cs.length:=fun h=>by rw[ho,h]
  have hnxt:mv1 l ins (gi cs (i:Int)) out=mvS l ins cs (i+1):=by rw[ho];rfl
  clear ho
  repeat(refine wkB ?_;intros)
  refine Zk rfl (fun h=>?_) (fun h=>?_)
  ·have hlt:i<cs.length:=by have:=Wa h;omega
   have hcI:=(hco (gi cs (i:Int)) (ZA (by omega))).mono (K':=B28) (by decide)
   rcases sc.cases 37 with⟨z0,z1,z2⟩|⟨bc,cc,spc,hcc,z1,z2,zne⟩
   ·rw[z0] at hlt
    cases hlt
   repeat(refine wkB ?_;intros)
   refine ZqN (S:=SlS rP 21 (mv1 l ins (gi cs (i:Int)) out)) (fun _=>True) (fun o=>[(0, .slice p l.length cp),(3,vSl q),(5,vSl sc),(6,vSl o),(7, .int .i64 (i:Nat))]) (fun o=>mS 46 o++(mS 37 sc++mS 37 q)) ?_ (fun o' _=>?_)
   ·refine Zq (S:=Nat) (fun m=>m<=ins.length/\pkS ins (gi cs (i:Int)) ins.length=pkS ins (gi cs (i:Int)) m) (fun m=>[(0, .slice p l.length cp),(3,vSl q),(5,vSl sc),(6,vSl o),(7, .int .i64 (i:Nat)),(8, .int .i64 ((m:Int)-1))]) (fun _=>mS 46 o++(mS 37 sc++mS 37 q)) (fun m=>m) ins.length ⟨Wl _,rfl⟩ sbB suB (fun m hm=>?_)
    obtain⟨hm,hpk⟩:=hm
    repeat(refine wkB ?_;intros)
    refine Zk rfl (fun h=>?_) (fun h=>?_)
    ·obtain⟨m,rfl⟩:∃m',m=m'+1:=⟨m-1,by have:=Wa h;omega⟩
     have e1:((m+1:Nat):Int)-1=(m:Int):=by omega
     have hml:m<l.length:=by omega
     obtain⟨bw,ow,rfl,hrow'⟩:=hv.opn (k:=12) hml
     have hlb:=(hk (gi l (m:Int)) (ZA (by omega))).l
     have hiI:=(hio (gi ins (m:Int)) (ZA (by omega))).mono (K':=B28) (by decide)
     rcases q.cases 37 with⟨y0,y1,y2⟩|⟨bq,cq,sp,hcq,y1,y2,yne⟩
     ·rw[y0] at hm
      cases hm
     have hS:∀L [h:AtC w L bq (row rI ins sp) 37],LstC w L (.slice (some ⟨bq,0+((m:Int)).toNat*20,none⟩) (((m:Int)+1-m)).toNat ((cq:Int)-m).toNat) Za rI [gi ins (m:Int)]:=fun L h=>⟨fun w' hw'=>by
      obtain⟨fz,hb⟩:=h.out w' hw'
      have h1:=(ZbH (c:=cq) hb hcq.1).take (m+1) (by omega)
      have h2:=h1.drop (s:=20) m (by omega)
      have h3:dropA (some ⟨bq,0,none⟩) cq m 20=some ⟨bq,0+((m:Int)).toNat*20,none⟩:=by
       unfold dropA
       rw[if_neg (by omega)]
       simp[Addr.add]
       intro h0
       omega
      have h4:(ins.take (m+1)).drop m=[gi ins (m:Int)]:=by
       rw[List.drop_take,Zw (by omega)]
       have:m+1-m=1:=by omega
       rw[this,List.take_one,List.head?_drop,List.getElem?_eq_getElem (by omega)]
       rfl
      have h5:((m:Int)+1-m).toNat=m+1-m:=by omega
      have h6:((cq:Int)-m).toNat=cq-m:=by omega
      rw[h3,h4] at h2
      rw[h5,h6]
      exact h2⟩
     have q1:[gi ins (m:Int)].length<=1048576/\(∀i∈[gi ins (m:Int)],IvOk B28 i)/\RtB (gi cs (i:Int)).From/\RtB (gi cs (i:Int)).To:=⟨by simp,fun i hi=>by rw[Wo] at hi;rw[hi];exact hiI,hcI.a,hcI.b⟩
     have q2:IvOk B28 (gi ins (m:Int))/\RtB (gi cs (i:Int)).From:=⟨hiI,hcI.a⟩
     simp only[e1,y1,y2,z1,z2,Wf,Wg]
     repeat(refine wkB ?_;intros)
     refine jD 41 41 (h:=?_)
     (repeat(first|refine wkH ?_|(refine tC rfl rfl ?_ ?_;focus(exact q1))))
     cases g1:spB [gi ins (m:Int)] (gi cs (i:Int)).From (gi cs (i:Int)).To with
     |false=>
      (repeat(refine wkH ?_))
      refine Zo ?_
      refine Zs ?_
      repeat(refine wkB ?_;intros)
      have hcf:cndS ins (gi cs (i:Int)) m=false:=by unfold cndS;rw[g1];rfl
      have hp:pkS ins (gi cs (i:Int)) (m+1)=pkS ins (gi cs (i:Int)) m:=by rw[pkS,hcf];rfl
      repeat(first|(refine wkB ?_;intros)|(refine wnM ?_ ?_;(focus(exact⟨by omega,by omega⟩));intros))
      exact Zg m ⟨by omega,by rw[hpk,hp]⟩ (by(try simp only[y1,z1]);exact sbB) (by(try simp only[y2,z2,Wf,Wg]);exact suB) (by omega)
     |true=>
      (repeat(refine wkH ?_))
      by_cases g2:(gi cs (i:Int)).From=(gi cs (i:Int)).To
      ·simp only[Wc g2,Bool.not_true]
       (repeat(first|refine wkH ?_|(refine tC rfl rfl ?_ ?_;focus(exact q2))))
       refine Zo ?_
       refine Zs ?_
       cases g3:inB (gi ins (m:Int)) (gi cs (i:Int)).From with
       |false=>
        repeat(refine wkB ?_;intros)
        have hcf:cndS ins (gi cs (i:Int)) m=false:=by unfold cndS;rw[g1,Wc g2,g3];rfl
        have hp:pkS ins (gi cs (i:Int)) (m+1)=pkS ins (gi cs (i:Int)) m:=by rw[pkS,hcf];rfl
        repeat(first|(refine wkB ?_;intros)|(refine wnM ?_ ?_;(focus(exact⟨by omega,by omega⟩));intros))
        exact Zg m ⟨by omega,by rw[hpk,hp]⟩ (by(try simp only[y1,z1]);exact sbB) (by(try simp only[y2,z2,Wf,Wg]);exact suB) (by omega)
       |true=>
        have hct:cndS ins (gi cs (i:Int)) m=true:=by unfold cndS;rw[g1,Wc g2,g3];rfl
        have hp:pkS ins (gi cs (i:Int)) ins.length=some m:=by rw[hpk,pkS,hct];rfl
        have hci:out++[⟨gi cs (i:Int),(gi l (m:Int)).Label % 5⟩]=mv1 l ins (gi cs (i:Int)) out:=by unfold mv1;rw[hp]
        repeat(refine wkB ?_;intros)
        (refine ZH (.v [0,1,2,3,4,5,6,7,8,9,10,11,12] (.e1 13 (.e1 14 (.e1 15 (.fin))))) ([⟨bc,row rI cs spc,37⟩]) (h:=?_);refine wkX ?_)
        (repeat(refine wkH ?_))
        repeat(refine wkT ?_;intros)
        refine eU (k:=21) (enc:=rP) (s:=o) rfl rfl ?_ ?_ ?_ ?_
        ·rfl
        ·rfl
        ·exact⟨by decide,by omega,by omega⟩
        intro s0
        obtain⟨s',f1,f2⟩:=SlS.turn 46 hci s0
        repeat(refine wkT ?_;intros)
        repeat(refine wkB ?_;intros)
        exact Zj s' trivial (by simp only[y1,z1,f1];exact sbB) (by simp only[y2,z2,f2,Wf,Wg];exact suB)
      ·simp only[We g2,Bool.not_false]
       (repeat(refine wkH ?_))
       refine Zo ?_
       refine Zs ?_
       have hct:cndS ins (gi cs (i:Int)) m=true:=by unfold cndS;rw[g1,We g2];rfl
       have hp:pkS ins (gi cs (i:Int)) ins.length=some m:=by rw[hpk,pkS,hct];rfl
       have hci:out++[⟨gi cs (i:Int),(gi l (m:Int)).Label % 5⟩]=mv1 l ins (gi cs (i:Int)) out:=by unfold mv1;rw[hp]
       repeat(refine wkB ?_;intros)
       (refine ZH (.v [0,1,2,3,4,5,6,7,8,9,10,11,12] (.e1 13 (.e1 14 (.e1 15 (.fin))))) ([⟨bc,row rI cs spc,37⟩]) (h:=?_);refine wkX ?_)
       (repeat(refine wkH ?_))
       repeat(refine wkT ?_;intros)
       refine eU (k:=21) (enc:=rP) (s:=o) rfl rfl ?_ ?_ ?_ ?_
       ·rfl
       ·rfl
       ·exact⟨by decide,by omega,by omega⟩
       intro s0
       obtain⟨s',f1,f2⟩:=SlS.turn 46 hci s0
       repeat(refine wkT ?_;intros)
       repeat(refine wkB ?_;intros)
       exact Zj s' trivial (by simp only[y1,z1,f1];exact sbB) (by simp only[y2,z2,f2,Wf,Wg];exact suB)
    ·have hm0:m=0:=by have:=Wb h;omega
     have hci:out=mv1 l ins (gi cs (i:Int)) out:=by unfold mv1;rw[hpk,hm0];rfl
     obtain⟨s',f1,f2⟩:=SlS.turn 46 hci o
     repeat(refine wkB ?_;intros)
     exact Zj s' trivial (by rw[f1];exact sbB) (by rw[f2];exact suB)
   ·repeat(first|(refine wkB ?_;intros)|(refine wnM ?_ ?_;(focus(exact⟨by omega,by omega⟩));intros))
    exact Zg ⟨i+1,_,o'⟩ ⟨hlt,hnxt⟩ sbB suB (by show cs.length-(i+1)<cs.length-i;omega)
  ·have hge:i=cs.length:=by have:=Wb h;omega
   obtain⟨s',f1,f2⟩:=SlS.turn 46 (hend hge) o
   repeat(refine wkB ?_;intros)
   exact Zj s' trivial (by rw[f1];exact sbB) (by rw[f2];exact suB)
 have hul:(mvS l ins cs cs.length).length<=1048576:=by have:=Zeo l ins cs cs.length;omega
 repeat(first|(refine wkB ?_;intros)|(refine wnM ?_ ?_;(focus(exact hul));intros))
 rename_i r
 exact ZB rfl rfl (fun w hw=>⟨r,rfl,hw.sub suB⟩)
instance ZvK (w0:World)(L:List Blk)(v:Value)(l:List St)[h:LstC w0 L v St rSt l]:SpecR prog w0 L 17 [v] (SlS rP 21 (movV l)) (fun q=>vSl q) (fun q=>mS 46 q) (l.length<=9223372036854775807/\∀x∈l,StOk x):=⟨fun hp w hw=>ZiY v l w (h.out w hw) hp.1 hp.2⟩
end Go.Vt
namespace Go.Proofs.YtcgkgdgpdpihmaaGreatDoor
open Go.ChangeShapes Go.WideShapes Go.ChangeAt Go.RowKit Go.Deep Go.Vt
theorem rown :ownKnob Tryz.prog.godebug=none:=by kernel_rfl
theorem rlaidOut :laidOutB Tryz.prog=true:=by kernel_rfl
theorem runder23 :Tryz.prog.underlying 23=some (.slice 44):=by kernel_rfl
theorem rc44 :Tryz.prog.cellsOf 44=13:=by kernel_rfl
theorem rc42 :Tryz.prog.cellsOf 42=12:=by kernel_rfl
theorem rc40 :Tryz.prog.cellsOf 40=5:=by kernel_rfl
theorem ru5 :Tryz.prog.underlying 5=some (.int .u8):=by kernel_rfl
theorem ru4 :Tryz.prog.underlying 4=some .bool:=by kernel_rfl
theorem rc5 :Tryz.prog.cellsOf 5=1:=by kernel_rfl
theorem rc4 :Tryz.prog.cellsOf 4=1:=by kernel_rfl
theorem ru40 :∃f0 f1 f2 f3 f4,Tryz.prog.underlying 40=some (.struct #[f0,f1,f2,f3,f4])/\f0.type=5/\f1.type=5/\f2.type=5/\f3.type=5/\f4.type=4/\f0.offset=0/\f1.offset=1/\f2.offset=2/\f3.offset=3/\f4.offset=4:=⟨_,_,_,_,_,Tryz.underlying40,rfl,rfl,rfl,rfl,rfl,rfl,rfl,rfl,rfl,rfl⟩
theorem ru42 :∃f0 f1 f2 f3,Tryz.prog.underlying 42=some (.struct #[f0,f1,f2,f3])/\f0.type=40/\f1.type=40/\f2.type=4/\f3.type=4/\f0.offset=0/\f1.offset=5/\f2.offset=10/\f3.offset=11:=⟨_,_,_,_,Tryz.underlying42,rfl,rfl,rfl,rfl,rfl,rfl,rfl,rfl⟩
theorem ru44 :∃f0 f1,Tryz.prog.underlying 44=some (.struct #[f0,f1])/\f0.type=42/\f1.type=5/\f0.offset=0/\f1.offset=12:=⟨_,_,Tryz.underlying44,rfl,rfl,rfl,rfl⟩
theorem Zfq {n:Int}(h:(Lit.int .u8 n).wf=true):0<=n/\n<=255:=by
 simp only[Lit.wf,Bool.and_eq_true,decide_eq_true_eq] at h
 exact⟨h.1,h.2⟩
section
variable {H : Type} {eH : TypeId × Value -> H} {W : World} {base : Nat} {sp : Nat -> Bool} {held : Bool}
theorem Zgt (n:Nat)(cs:List Value)(y:DataW H×List MemPlace)(h:DataW.trod eH Tryz.prog W base sp held n 40 cs=some y):∃x:WI,cs=(ZL x).toList/\WIOk x:=by
 obtain⟨f0,f1,f2,f3,f4,he,t0,t1,t2,t3,t4,o0,o1,o2,o3,o4⟩:=ru40
 obtain⟨xs,k,hk,hxy,hlen,hxl,hf⟩:=DataW.trod_struct he h
 rw[rc40] at hlen
 match xs,hxl,cs,hlen with
 |[y0,y1,y2,y3,y4],_,[v0,v1,v2,v3,v4],_=>
  have g0:=hf 0 f0 rfl
  have g1:=hf 1 f1 rfl
  have g2:=hf 2 f2 rfl
  have g3:=hf 3 f3 rfl
  have g4:=hf 4 f4 rfl
  simp[o0,o1,o2,o3,o4,t0,t1,t2,t3,t4,rc5,rc4] at g0 g1 g2 g3 g4
  obtain⟨n0,p0,_,q0⟩:=DataW.trod_int ru5 g0
  obtain⟨n1,p1,_,q1⟩:=DataW.trod_int ru5 g1
  obtain⟨n2,p2,_,q2⟩:=DataW.trod_int ru5 g2
  obtain⟨n3,p3,_,q3⟩:=DataW.trod_int ru5 g3
  obtain⟨n4,p4,_⟩:=DataW.trod_bool ru4 g4
  simp only[List.cons.injEq,and_true] at p0 p1 p2 p3 p4
  subst p0 p1 p2 p3 p4
  exact⟨⟨n0,n1,n2,n3,n4⟩,rfl,⟨Zfq q0,Zfq q1,Zfq q2,Zfq q3⟩⟩
theorem Zmi (n:Nat)(cs:List Value)(y:DataW H×List MemPlace)(h:DataW.trod eH Tryz.prog W base sp held n 42 cs=some y):∃x:WS,cs=(ZW x).toList/\WSOk x:=by
 obtain⟨f0,f1,f2,f3,he,t0,t1,t2,t3,o0,o1,o2,o3⟩:=ru42
 obtain⟨xs,k,hk,hxy,hlen,hxl,hf⟩:=DataW.trod_struct he h
 rw[rc42] at hlen
 match xs,hxl,cs,hlen with
 |[y0,y1,y2,y3],_,[v0,v1,v2,v3,v4,v5,v6,v7,v8,v9,v10,v11],_=>
  have g0:=hf 0 f0 rfl
  have g1:=hf 1 f1 rfl
  have g2:=hf 2 f2 rfl
  have g3:=hf 3 f3 rfl
  simp[o0,o1,o2,o3,t0,t1,t2,t3,rc40,rc4] at g0 g1 g2 g3
  obtain⟨a,p0,q0⟩:=Zgt _ _ _ g0
  obtain⟨b,p1,q1⟩:=Zgt _ _ _ g1
  obtain⟨n2,p2,_⟩:=DataW.trod_bool ru4 g2
  obtain⟨n3,p3,_⟩:=DataW.trod_bool ru4 g3
  refine⟨⟨a,b,n2,n3⟩, ?_,⟨q0,q1⟩⟩
  show [v0,v1,v2,v3,v4]++([v5,v6,v7,v8,v9]++([v10]++[v11]))=_
  rw[p0,p1,p2,p3]
  rfl
theorem Zqo (n:Nat)(cs:List Value)(y:DataW H×List MemPlace)(h:DataW.trod eH Tryz.prog W base sp held n 44 cs=some y):∃x:St,cs=(rSt x).toList/\StOk x:=by
 obtain⟨f0,f1,he,t0,t1,o0,o1⟩:=ru44
 obtain⟨xs,k,hk,hxy,hlen,hxl,hf⟩:=DataW.trod_struct he h
 rw[rc44] at hlen
 match xs,hxl,cs,hlen with
 |[y0,y1],_,[v0,v1,v2,v3,v4,v5,v6,v7,v8,v9,v10,v11,v12],_=>
  have g0:=hf 0 f0 rfl
  have g1:=hf 1 f1 rfl
  simp[o0,o1,t0,t1,rc42,rc5] at g0 g1
  obtain⟨a,p0,q0⟩:=Zmi _ _ _ g0
  obtain⟨n1,p1,_,q1⟩:=DataW.trod_int ru5 g1
  refine⟨⟨a,n1⟩, ?_,⟨q0,Zfq q1⟩⟩
  show [v0,v1,v2,v3,v4,v5,v6,v7,v8,v9,v10,v11]++[v12]=_
  rw[p0,p1]
  rfl
theorem Zos {fuel:Nat}{v:Value}{x:DataW H×List MemPlace}(hs:∃a l c,v= .slice a l c)(h:DataW.trod eH Tryz.prog W base sp held fuel 23 v.cells.toList=some x):
  ∃xs:List St,ArgS W v rSt xs/\(∀x∈xs,StOk x)/\xs.length<=9223372036854775807:=by
 obtain⟨a0,l0,c0,rfl⟩:=hs
 rcases open_slice runder23 h with⟨h0,_⟩|⟨a,len,cap,m,n,D,Pl,hcs,hb,hl,hm,hmm,hx,hcl⟩
 ·simp[Value.cells] at h0
  obtain⟨rfl,rfl,rfl⟩:=h0
  exact⟨[],⟨.inl ⟨rfl,rfl⟩⟩,(fun x hx=>by cases hx),by simp⟩
 ·simp[Value.cells] at hcs
  obtain⟨rfl,rfl,rfl⟩:=hcs
  have hlm:l0<=m:=by rw[hmm];split <;> omega
  have each:∀i,i<l0->∃z:St,(∃cs',W.cells? base (a.add (i*13)) 13=some cs'/\cs'=(rSt z).toList)/\StOk z:=fun i hi=>by
   obtain⟨cs',c1,c2⟩:=hcl i (by omega)
   rw[rc44] at c1
   obtain⟨z,z1,z2⟩:=Zqo _ _ _ c2
   exact⟨z,⟨cs',c1,z1⟩,z2⟩
  obtain⟨q,hq⟩:=choose_lt each
  refine⟨(List.range l0).map q,⟨.inr ⟨a,c0,by simp,by simpa using hl,fun i f k' u hi hk hu=>?_⟩⟩,fun z hz=>?_, ?_⟩
  ·simp only[List.length_map,List.length_range] at hi
   obtain rfl:k'=13:=by rw[<-hk default,Znd.size]
   simp only[List.getElem_map,List.getElem_range] at hu
   obtain⟨cs',c1,c2⟩:=(hq i hi).1
   obtain⟨_,hlen,hcell⟩:=World.cells?_some c1
   have hf:f<13:=by
    have:=(Array.getElem?_eq_some_iff.1 hu).1
    rw[Znd.size] at this
    exact this
   have h1:=hcell f (by omega)
   rw[add_add] at h1
   rw[h1]
   subst c2
   simpa using hu
  ·obtain⟨i,hi,rfl⟩:=List.mem_map.1 hz
   exact(hq i (List.mem_range.1 hi)).2
  ·simp only[List.length_map,List.length_range]
   have:(maxLen:Nat)=9223372036854775807:=by decide
   omega
end
def cAcc :Array Value:=#[.int .u8 128, .int .u8 191, .int .u8 160, .int .u8 191, .int .u8 128, .int .u8 159, .int .u8 144, .int .u8 191, .int .u8 128, .int .u8 143, .int .u8 0, .int .u8 0, .int .u8 0, .int .u8 0, .int .u8 0, .int .u8 0, .int .u8 0, .int .u8 0, .int .u8 0, .int .u8 0, .int .u8 0, .int .u8 0, .int .u8 0, .int .u8 0, .int .u8 0, .int .u8 0, .int .u8 0, .int .u8 0, .int .u8 0, .int .u8 0, .int .u8 0, .int .u8 0]
def cFirst :Array Value:=(Pinned.utf8FirstZ.map fun(n:Nat)=>Value.int .u8 (n:Int)).toArray
def putCells (cs:Array Value):Obj->Obj
 | .cells _ t frozen=> .cells cs t frozen
 |o=>o
noncomputable def laidWorld (os:Os):World:=
 {World.holding Tryz.prog os ⟨#[],#[],[]⟩ with heap:=((World.holding Tryz.prog os ⟨#[],#[],[]⟩).heap.modify 2 (putCells cFirst)).modify 3 (putCells cAcc)}
end Go.Proofs.YtcgkgdgpdpihmaaGreatDoor
namespace Go.Proofs.YtcgkgdgpdpihmaaGreatDoor
open Go.ChangeShapes Go.WideShapes Go.ChangeAt Go.RowKit Go.Deep Go.Vt
theorem rc3 :Tryz.prog.cellsOf 3=1:=by kernel_rfl
theorem ru3 :Tryz.prog.underlying 3=some (.int .i64):=by kernel_rfl
end Go.Proofs.YtcgkgdgpdpihmaaGreatDoor
namespace Go.Vt
def nwS (a x:Nat):Nat:=(x+a / x) / 2
theorem ZtT {d x s:Nat}(h:d+x=2*s):d*x<=s*s:=by
 rcases Nat.le_total d s with h1|h1
 ·obtain⟨k,rfl⟩:=Nat.le.dest h1
  obtain rfl:x=d+2*k:=by omega
  rw[Nat.mul_add,Nat.add_mul,Nat.mul_add,Nat.mul_add]
  have:=Wm (k*k)
  have e:d*(2*k)=d*k+k*d:=by rw[Nat.mul_comm k d,<-Nat.mul_two,Nat.mul_comm 2 k,Nat.mul_assoc]
  omega
 ·obtain⟨k,rfl⟩:∃k,d=s+k:=(Nat.le.dest h1).imp fun _ h=>h.symm
  obtain⟨m,rfl⟩:∃m,s=x+m:=(Nat.le.dest (show x<=s by omega)).imp fun _ h=>h.symm
  obtain rfl:k=m:=by omega
  have e1:(x+k+k)*x=x*x+k*x+k*x:=by rw[Nat.add_mul,Nat.add_mul]
  have e2:(x+k)*(x+k)=x*x+k*x+(x*k+k*k):=by rw[Nat.add_mul,Nat.mul_add,Nat.mul_add,Nat.mul_comm k x];try omega
  have e:x*k=k*x:=Nat.mul_comm _ _
  have:=Wm (k*k)
  omega
theorem Zsk {a x s:Nat}(hx:0<x)(h:s*s<=a):s<=nwS a x:=by
 unfold nwS
 rw[Nat.le_div_iff_mul_le (by decide)]
 have hq:∀d,d*x<=a->d<=a / x:=fun d=>(Nat.le_div_iff_mul_le hx).2
 generalize a / x=q at*
 rcases Nat.le_total (2*s) x with h1|h1
 ·omega
 ·obtain⟨d,hd⟩:=Nat.le.dest h1
  have h2:d*x<=s*s:=ZtT (by omega)
  have h3:=hq d (Wi h2 h)
  omega
theorem Zsc {a x s:Nat}(h:a<(s+1)*(s+1))(hx:s<x):nwS a x<x:=by
 unfold nwS
 have h1:a<x*x:=Nat.lt_of_lt_of_le h (Nat.mul_le_mul hx hx)
 have h2:a / x<x:=(Nat.div_lt_iff_lt_mul (by omega)).2 h1
 generalize a / x=q at*
 omega
theorem Zrb {a x s:Nat}(h1:s*s<=a)(h2:a<(s+1)*(s+1))(h3:s<=x)(hx:0<x)(h:x<=nwS a x):x=s:=by
 rcases Nat.lt_or_ge s x with h4|h4
 ·have:=Zsc h2 h4;omega
 ·omega
theorem Zf2 :∀a:Nat,∃s,s*s<=a/\a<(s+1)*(s+1)
 |0=>⟨0,by decide,by decide⟩
 |a+1=>by
  obtain⟨s,h1,h2⟩:=Zf2 a
  rcases Nat.lt_or_ge (a+1) ((s+1)*(s+1)) with h|h
  ·exact⟨s,by omega,h⟩
  ·refine⟨s+1,by omega, ?_⟩
   have e:(s+1+1)*(s+1+1)=(s+1)*(s+1)+2*(s+1)+1:=by
    rw[Nat.add_mul (s+1) 1,Nat.mul_add (s+1) (s+1) 1]
    omega
   omega
noncomputable def isq (a:Nat):Nat:=(Zf2 a).choose
theorem ZbW (a:Nat):isq a*isq a<=a/\a<(isq a+1)*(isq a+1):=(Zf2 a).choose_spec
theorem ZoI {a s:Nat}(h1:s*s<=a)(h2:a<(s+1)*(s+1)):s=isq a:=by
 obtain⟨k1,k2⟩:=ZbW a
 rcases Nat.lt_trichotomy s (isq a) with h|h|h
 ·have:=Nat.mul_le_mul (show s+1<=isq a from h) (show s+1<=isq a from h)
  omega
 ·exact h
 ·have:=Nat.mul_le_mul (show isq a+1<=s from h) (show isq a+1<=s from h)
  omega
end Go.Vt
namespace Go.Vt
theorem Zgv {m:Nat}(hm:m≠0):∀q,le (256 ^ q*m)=List.replicate q 0++le m
 |0=>by simp
 |q+1=>by
  have h0:256 ^ (q+1)*m=256*(256 ^ q*m):=by rw[Nat.pow_succ,Nat.mul_comm (256 ^ q) 256,Nat.mul_assoc]
  have hp:256 ^ q*m≠0:=Nat.mul_ne_zero (by have:=Nat.pow_pos (n:=q) (show 0<256 by decide);omega) hm
  generalize hx:256 ^ q*m=x at*
  have ih:=Zgv hm q
  rw[hx] at ih
  rw[h0,Za1 (by omega),show 256*x / 256=x by omega,show 256*x % 256=0 by omega,ih]
  rfl
theorem Zqn {m:Nat}(h:0<m)(h1:m<256):le m=[UInt8.ofNat m]:=by
 rw[Za1 (by omega),show m / 256=0 by omega,show m % 256=m by omega]
 rfl
theorem Zjj (n:Nat):mag (2 ^ n)=⟨(UInt8.ofNat (2 ^ (n % 8))::List.replicate (n / 8) 0).toArray⟩:=by
 have h8:2 ^ (n % 8)<256:=by
  have:n % 8<8:=Nat.mod_lt _ (by decide)
  exact Nat.lt_of_lt_of_le (Nat.pow_lt_pow_right (by decide) this) (by decide)
 have h0:0<2 ^ (n % 8):=Nat.pow_pos (by decide)
 have e:2 ^ n=256 ^ (n / 8)*2 ^ (n % 8):=by
  rw[show(256:Nat)=2 ^ 8 by rfl,<-Nat.pow_mul,<-Nat.pow_add,Nat.div_add_mod]
 unfold mag
 rw[e,Zgv (by omega),Zqn h0 h8,List.reverse_append,List.reverse_replicate]
 rfl
theorem ZkR {a:Nat}{t:UInt8}(ht:(mag a)[0]? =some t):1<=Lib.bitLen t.toNat/\Lib.bitLen t.toNat<=8/\a<2 ^ (8*((mag a).size-1)+Lib.bitLen t.toNat):=by
 have hd:(le a).reverse[0]? =some t:=by
  rw[<-ht]
  unfold mag
  cases h:(le a).reverse with
  |nil=>rfl
  |cons x l=>rfl
 have hl:(le a).getLast? =some t:=by
  rw[<-List.head?_reverse,List.head?_eq_getElem?]
  exact hd
 have hne:le a≠[]:=fun h=>by rw[h] at hl;cases hl
 obtain⟨l,hle⟩:∃l,le a=l++[t]:=⟨(le a).dropLast,by
  rw[List.getLast?_eq_some_getLast hne,Option.some.injEq] at hl
  rw[<-hl,List.dropLast_concat_getLast]⟩
 have hv:=Zfo a
 rw[hle,Zcs] at hv
 have h1:=Zdo l
 have htop:t≠0:=Znl a t hl
 have ht0:t.toNat≠0:=fun h=>htop (UInt8.toNat_inj.1 h)
 have ht1:=UInt8.toNat_lt t
 obtain⟨b1,b2,b3⟩:=Zcd (x:=t.toNat) (by omega) ht0
 have hs:(mag a).size-1=l.length:=by rw[ZbF,hle,Wp];rfl
 refine⟨b1,Lib.bitLen_le8 ⟨t.toNat,ht1⟩, ?_⟩
 rw[hs,Nat.pow_add,Nat.pow_mul,show(2:Nat) ^ 8=256 by rfl]
 have h2:256 ^ l.length*(t.toNat+1)<=256 ^ l.length*2 ^ Lib.bitLen t.toNat:=Nat.mul_le_mul_left _ b3
 rw[Nat.mul_add,Nat.mul_one] at h2
 have h3:vle [t]=t.toNat:=by simp[vle]
 rw[h3] at hv
 omega
theorem Zsu (a:Nat):isq a=rtN a:=(ZoI (Zdk a).1 (Zdk a).2).symm
theorem ZsM {a n k:Nat}(h:a<2 ^ n)(hn:n<=2*k):isq a<2 ^ k:=by
 have h1:=(ZbW a).1
 have h2:2 ^ n<=2 ^ k*2 ^ k:=by
  rw[<-Nat.pow_add]
  exact Nat.pow_le_pow_right (by decide) (by omega)
 rcases Nat.lt_or_ge (isq a) (2 ^ k) with h3|h3
 ·exact h3
 ·have:=Nat.mul_le_mul h3 h3
  omega
end Go.Vt
/-
 DERIVED: THE SHELF's CONTRACTS AT THIS DUMP, IN PLAIN WORDS (tools/lay-plain.mjs out of 'YtcgkgdgpdpihmaaGreatDoorLayRp.lean', which tools/lay-shelf.mjs wrote): THE SAME DECLARATIONS UNDER THE SAME NAMES: 'import', 'namespace', 'open', 'def', 'theorem' AND NOTHING ELSE: no command of the shelf's: FOR A HAND-IN. Each laying: the table of numbers ('.._ren') and one theorem, a field a fact of the dump's own or the kernel's comparison; each contract: ONE APPLICATION.
-/
namespace Go.Proofs
open Go.Shelf
def Tryz.lRp_ren :Go.Shelf.Ren:=⟨fun|105=>252|212=>260|99=>261|165=>262|166=>263|170=>264|169=>265|263=>269|264=>229|206=>270|240=>271|241=>272|276=>275|277=>276|n=>n,fun|9=>9|3=>3|4=>4|20=>20|0=>0|46=>189|109=>297|5=>5|72=>302|76=>306|51=>230|146=>313|53=>232|148=>263|70=>300|37=>236|75=>305|127=>315|164=>317|80=>268|n=>n,fun|n=>n⟩
theorem Tryz.lRp :Go.Proofs.Lays.n105 Tryz.prog Tryz.lRp_ren:={
 mixed:=by kernel_rfl
 f99:=Tryz.func261.trans (congrArg some (by kernel_rfl))
 f105:=Tryz.func252.trans (congrArg some (by kernel_rfl))
 f165:=Tryz.func262.trans (congrArg some (by kernel_rfl))
 f166:=Tryz.func263.trans (congrArg some (by kernel_rfl))
 f169:=Tryz.func265.trans (congrArg some (by kernel_rfl))
 f170:=Tryz.func264.trans (congrArg some (by kernel_rfl))
 f206:=Tryz.func270.trans (congrArg some (by kernel_rfl))
 f212:=Tryz.func260.trans (congrArg some (by kernel_rfl))
 f240:=Tryz.func271.trans (congrArg some (by kernel_rfl))
 f241:=Tryz.func272.trans (congrArg some (by kernel_rfl))
 f263:=Tryz.func269.trans (congrArg some (by kernel_rfl))
 f264:=Tryz.func229.trans (congrArg some (by kernel_rfl))
 f276:=Tryz.func275.trans (congrArg some (by kernel_rfl))
 f277:=Tryz.func276.trans (congrArg some (by kernel_rfl))
 t0:=Tryz.underlying0
 a0:=Tryz.isAgg0
 z0:=Tryz.sizeOf0
 v0:=Tryz.zeroValue0
 t3:=Tryz.underlying3
 a3:=Tryz.isAgg3
 z3:=Tryz.sizeOf3
 v3:=Tryz.zeroValue3
 t4:=Tryz.underlying4
 a4:=Tryz.isAgg4
 z4:=Tryz.sizeOf4
 v4:=Tryz.zeroValue4
 t5:=Tryz.underlying5
 a5:=Tryz.isAgg5
 z5:=Tryz.sizeOf5
 v5:=Tryz.zeroValue5
 t9:=Tryz.underlying9
 a9:=Tryz.isAgg9
 z9:=Tryz.sizeOf9
 v9:=Tryz.zeroValue9
 t20:=Tryz.underlying20
 a20:=Tryz.isAgg20
 z20:=Tryz.sizeOf20
 v20:=Tryz.zeroValue20
 t37:=Tryz.underlying236
 a37:=Tryz.isAgg236
 z37:=Tryz.sizeOf236
 v37:=Tryz.zeroValue236
 t46:=Tryz.underlying189
 a46:=Tryz.isAgg189
 z46:=Tryz.sizeOf189
 v46:=Tryz.zeroValue189
 t51:=Tryz.underlying230
 a51:=Tryz.isAgg230
 z51:=Tryz.sizeOf230
 v51:=Tryz.zeroValue230
 t53:=Tryz.underlying232
 a53:=Tryz.isAgg232
 z53:=Tryz.sizeOf232
 v53:=Tryz.zeroValue232
 t70:=Tryz.underlying300
 a70:=Tryz.isAgg300
 z70:=Tryz.sizeOf300
 v70:=Tryz.zeroValue300
 t72:=Tryz.underlying302
 a72:=Tryz.isAgg302
 z72:=Tryz.sizeOf302
 v72:=Tryz.zeroValue302
 t75:=Tryz.underlying305
 a75:=Tryz.isAgg305
 z75:=Tryz.sizeOf305
 v75:=Tryz.zeroValue305
 t76:=Tryz.underlying306
 a76:=Tryz.isAgg306
 z76:=Tryz.sizeOf306
 v76:=Tryz.zeroValue306
 t109:=Tryz.underlying297
 a109:=Tryz.isAgg297
 z109:=Tryz.sizeOf297
 v109:=Tryz.zeroValue297
 t127:=Tryz.underlying315
 a127:=Tryz.isAgg315
 z127:=Tryz.sizeOf315
 v127:=Tryz.zeroValue315
 t146:=Tryz.underlying313
 a146:=Tryz.isAgg313
 z146:=Tryz.sizeOf313
 v146:=Tryz.zeroValue313
 t148:=Tryz.underlying263
 a148:=Tryz.isAgg263
 z148:=Tryz.sizeOf263
 v148:=Tryz.zeroValue263
 t164:=Tryz.underlying317
 a164:=Tryz.isAgg317
 z164:=Tryz.sizeOf317
 v164:=Tryz.zeroValue317}
end Go.Proofs
namespace Go.Vt
open Go.RowKit Go.Proofs
theorem rpExtra :Builder.Extra Tryz.prog Tryz.lRp_ren where
 sizeBuilder:=by kernel_rfl
 liesBuilder:=by kernel_rfl
 t5:=by kernel_rfl
 a5:=fun w=>by kernel_rfl
 z5:=fun w=>by kernel_rfl
 v5:=fun w=>by kernel_rfl
 infoByte:=by kernel_rfl
 cellsByte:=by kernel_rfl
 sizeByte:=by kernel_rfl
 neB5:=by decide
theorem ZiJ (s:ByteArray)(c:Nat)(w:World)(hc:c<=9223372036854775807)(hlen:s.size*c<=140737488355328):
  Calls Tryz.prog 252 #[.string s, .int .i64 c] w fun e w'=>e= .returned (.string ⟨(Lib.repeatL s.data.toList c).toArray⟩)/\Below w.heap.size w w':=Any.strings_Repeat Tryz.lRp rpExtra s c w hc hlen
end Go.Vt
namespace Go.Vt
open Go
def rsW {α:Type}:Result α->World
 | .ok _ w=>w
 | .halt _ w=>w
theorem ZjR (w:World)(a:Addr)(v:Value):(w.setCell a v).drawn=w.drawn:=rfl
theorem Zms (w:World)(a:Addr)(n:Nat):(w.freeze a n).drawn=w.drawn:=by
 unfold World.freeze
 split <;> rfl
theorem ZoZ {α:Type}(a:Ask α)(w:World):w.drawn<=(w.ask a).2.drawn:=by
 induction a generalizing w with
 |done a=>exact Nat.le_refl _
 |ask what range k ih=>
  unfold World.ask
  dsimp only
  split
  ·exact ih _ _
  ·exact Nat.le_trans (Nat.le_succ _) (ih _ {w with drawn:=w.drawn+1})
theorem Zhq (w:World)(c:Sys):w.drawn<=(w.sys c).2.drawn:=by
 have h:=ZoZ (Kernel.perform c w.os) w
 unfold World.sys
 generalize w.ask (Kernel.perform c w.os)=x at*
 obtain⟨⟨r,os⟩,w'⟩:=x
 cases r <;> first|exact h|exact Nat.le_refl _
theorem ZrF {p:Program}{w:World}{b:Addr}{u:TypeId}{k:Addr}{v:Value}{at':Bool}{r:World×List Addr}(h:w.viewStore p b u k v at'= .ok r):r.1.drawn=w.drawn:=by
 unfold World.viewStore at h
 simp only[bind,Except.bind,pure,Except.pure] at h
 repeat' split at h
 all_goals first
  |(injection h with h;subst h;rfl)
  |cases h
theorem ZlU {p:Program}{w:World}{a:Addr}{v:Value}{at':Bool}{r:World×List Addr}(h:w.farStore p a v at'= .ok r):r.1.drawn=w.drawn:=by
 unfold World.farStore at h
 split at h
 ·split at h
  ·rename_i h1
   injection h with h
   subst h
   exact ZrF h1
  ·cases h
 ·cases h
theorem ZhP {α:Type}{p:Program}(s:Sem α)(w:World):w.drawn<=(rsW (s.run p w)).drawn:=by
 induction s generalizing w with
 |pure a=>exact Nat.le_refl _
 |halt h=>exact Nat.le_refl _
 |store m a v k ih=>
  have key:∀v:Value,w.drawn<=(rsW (match w.cell? a with
    |some _=>if w.frozen? a then .halt (.unsupported (.unsafePointer "a write to bytes that a string shares")) w else k.run p (w.setCell a v)
    |none=>match w.farStore p a v (m== .atomic) with
     | .ok (w,_)=>k.run p w
     | .error h=> .halt h w)).drawn:=fun v=>by
   split
   ·split
    ·exact Nat.le_refl _
    ·exact Nat.le_trans (Nat.le_of_eq (ZjR w a v).symm) (ih _)
   ·split
    ·rename_i h1
     exact Nat.le_trans (Nat.le_of_eq (ZlU h1).symm) (ih _)
    ·exact Nat.le_refl _
  cases v <;> first|exact key _|exact Nat.le_refl _
 |load m a k ih=>
  unfold Sem.run
  repeat' split
  all_goals first
   |exact Nat.le_refl _
   |exact ih _ _
 |new o k ih=>exact ih _ {w with heap:=w.heap.push o}
 |shape r k ih=>exact ih _ _
 |freeze a n k ih=>exact Nat.le_trans (Nat.le_of_eq (Zms w a n).symm) (ih _)
 |frozen a k ih=>exact ih _ _
 |getObj r k ih=>
  unfold Sem.run
  repeat' split
  all_goals first
   |exact Nat.le_refl _
   |exact ih _ _
 |setObj r o k ih=>
  unfold Sem.run
  repeat' split
  all_goals first
   |exact Nat.le_refl _
   |exact ih {w with heap:=w.heap.setIfInBounds r o}
 |choose q k ih=>
  unfold Sem.run
  split
  ·exact ih _ _
  ·exact Nat.le_trans (Nat.le_succ _) (ih _ {w with drawn:=w.drawn+1})
 |sys c k ih=>exact Nat.le_trans (Zhq w c) (ih _ _)
 |program k ih=>exact ih _ _
 |mark m k ih=>exact ih _
theorem Zcn {α:Type}{p:Program}(s:Sem α)(w:World)(es:Array Event):w.drawn<=(rsW (s.runT p w es).1).drawn:=by
 induction s generalizing w es with
 |pure a=>exact Nat.le_refl _
 |halt h=>exact Nat.le_refl _
 |store m a v k ih=>
  have key:∀v:Value,w.drawn<=(rsW (match w.cell? a with
    |some _=>
     if w.frozen? a then(.halt (.unsupported (.unsafePointer "a write to bytes that a string shares")) w,es)
     else k.runT p (w.setCell a v) (es.push ⟨.cell a,true,m== .atomic⟩)
    |none=>match w.farStore p a v (m== .atomic) with
     | .ok (w,touched)=>k.runT p w (es++touched.toArray.map (⟨.cell ·,true,m== .atomic⟩))
     | .error h=>(.halt h w,es):Result α×Array Event).1).drawn:=fun v=>by
   split
   ·split
    ·exact Nat.le_refl _
    ·exact Nat.le_trans (Nat.le_of_eq (ZjR w a v).symm) (ih _ _)
   ·split
    ·rename_i h1
     exact Nat.le_trans (Nat.le_of_eq (ZlU h1).symm) (ih _ _)
    ·exact Nat.le_refl _
  cases v <;> first|exact key _|exact Nat.le_refl _
 |load m a k ih=>
  unfold Sem.runT
  repeat' split
  all_goals first
   |exact Nat.le_refl _
   |exact ih _ _ _
 |new o k ih=>exact ih _ {w with heap:=w.heap.push o} _
 |shape r k ih=>exact ih _ _ _
 |freeze a n k ih=>exact Nat.le_trans (Nat.le_of_eq (Zms w a n).symm) (ih _ _)
 |frozen a k ih=>exact ih _ _ _
 |getObj r k ih=>
  unfold Sem.runT
  repeat' split
  all_goals first
   |exact Nat.le_refl _
   |exact ih _ _ _
 |setObj r o k ih=>
  unfold Sem.runT
  repeat' split
  all_goals first
   |exact Nat.le_refl _
   |exact ih {w with heap:=w.heap.setIfInBounds r o} _
 |choose q k ih=>
  unfold Sem.runT
  split
  ·exact ih _ _ _
  ·exact Nat.le_trans (Nat.le_succ _) (ih _ {w with drawn:=w.drawn+1} _)
 |sys c k ih=>exact Nat.le_trans (Zhq w c) (ih _ _ _)
 |program k ih=>exact ih _ _ _
 |mark m k ih=>exact ih _ _
def GOk (d:Nat):GStep->Prop
 | .go _ w _=>d<=w.drawn
 | .comm _ _ _ _ w _=>d<=w.drawn
 | .spawn _ _ w _=>d<=w.drawn
 | .count _ w _=>d<=w.drawn
 | .timer _ _ w _=>d<=w.drawn
 | .alone _ _ w _=>d<=w.drawn
 | .newcoro _ _ _ w _=>d<=w.drawn
 | .coroswitch _ _ _ w _=>d<=w.drawn
 | .collect _ w _=>d<=w.drawn
 | .watch _ w _=>d<=w.drawn
 | .ended .. =>True
def SOk (d:Nat):Stepped->Prop
 | .next m=>d<=m.world.drawn
 | .ended .. =>True
theorem GOk.after {d:Nat}{es:Array Event}{g:GStep}(h:GOk d g):GOk d (g.after es):=by
 cases g <;> exact h
theorem Zjq {d:Nat}{c:Prop}[Decidable c]{a b:GStep}(ha:GOk d a)(hb:GOk d b):GOk d (if c then a else b):=by
 split
 ·exact ha
 ·exact hb
theorem ZnW {d:Nat}{α:Type}{o:Option α}{a:GStep}{f:α->GStep}(ha:GOk d a)(hf:∀x,GOk d (f x)):GOk d (o.elim a f):=by
 cases o
 ·exact ha
 ·exact hf _
section
variable {p : Program} {d : Nat} {w : World}
theorem Zlj (_:d<=w.drawn)(fd:Nat)(t:ByteArray)(o:Outcome):GOk d (endWith w fd t o):=by
 unfold endWith
 dsimp only
 repeat' split
 all_goals trivial
theorem ZeM (h:d<=w.drawn)(fr:Frame)(m:String):GOk d (endThrow fr m w):=h
theorem Zdy (h:d<=w.drawn)(fr:Frame)(v:Value):GOk d (endPrinting p fr v w):=by
 unfold endPrinting
 dsimp only
 split
 ·exact h
 ·trivial
theorem ZaF {α:Type}{s:Sem α}{a:α}{w':World}(h:d<=w.drawn)(e:s.run p w= .ok a w'):d<=w'.drawn:=by
 have:=ZhP (p:=p) s w
 rw[e] at this
 exact Nat.le_trans h this
theorem Zjz {α:Type}{s:Sem α}{es es':Array Event}{r:Result α}(h:d<=w.drawn)(e:s.runT p w es=(r,es')):d<=(rsW r).drawn:=by
 have:=Zcn (p:=p) s w es
 rw[e] at this
 exact Nat.le_trans h this
theorem ZbZ {α:Type}{s:Sem α}{es:Array Event}{a:α}{w':World}(h:d<=w.drawn)(e:(s.runT p w es).1= .ok a w'):d<=w'.drawn:=by
 have:=Zcn (p:=p) s w es
 rw[e] at this
 exact Nat.le_trans h this
theorem ZjZ {α:Type}{s:Sem α}{es:Array Event}{a:Halt}{w':World}(h:d<=w.drawn)(e:(s.runT p w es).1= .halt a w'):d<=w'.drawn:=by
 have:=Zcn (p:=p) s w es
 rw[e] at this
 exact Nat.le_trans h this
theorem Zon (h:d<=w.drawn)(fr:Frame)(l:List ByteArray)(m:String)(b:Bool):GOk d (dieOf fr l m b w):=h
theorem ZeN (h:d<=w.drawn)(fr:Frame)(cs:List Frame)(dy:Option Dying)(m:String):GOk d (endFatal p fr cs dy m w):=by
 unfold endFatal
 dsimp only
 split
 ·rename_i e
  exact Zon (ZaF h e) _ _ _ _
 ·trivial
 ·trivial
theorem ZkP (h:d<=w.drawn)(fr:Frame)(dy:Dying)(f:Fatal):GOk d (writeOn p fr dy f w):=by
 unfold writeOn
 dsimp only
 split
 ·trivial
 ·split
  ·rename_i e
   exact Zjz h e
  ·rename_i e
   exact Zjz h e
  ·trivial
  ·trivial
theorem Zsa (h:d<=w.drawn)(fr:Frame)(dy:Dying):GOk d (die p fr dy w):=by
 unfold die
 split
 ·exact ZkP h _ _ _
 ·split
  ·split
   ·exact h
   ·exact Zlj h _ _ _
  ·dsimp only
   split
   ·exact h
   ·split
    ·rename_i e
     exact ZaF h e
    ·trivial
   ·refine GOk.after ?_
    split
    ·rename_i e
     exact ZbZ h e
    ·rename_i e
     exact ZbZ h e
    ·trivial
    ·rename_i e
     exact Zdy (ZjZ h e) _ _
    ·trivial
   ·trivial
theorem Zdb (h:d<=w.drawn)(mn:Bool)(fr:Frame)(cs:List Frame)(dy:Option Dying)(v:Value):GOk d (doReturn p mn fr cs dy v w):=by
 unfold doReturn
 dsimp only
 repeat' split
 all_goals first
  |trivial
  |exact h
theorem Ze8 (h:d<=w.drawn)(fr:Frame)(cs:List Frame)(dy:Option Dying)(e:Deferred):GOk d (callDeferred p fr cs dy e w):=by
 unfold callDeferred
 refine Zjq trivial ?_
 dsimp only
 refine GOk.after ?_
 have h1:=Nat.le_trans h (Zcn (p:=p) (invoke e.target e.args) w #[])
 generalize ((invoke e.target e.args).runT p w #[]).1=r at*
 repeat' split
 all_goals first
  |trivial
  |exact h1
  |exact ZeN h1 _ _ _ _
  |exact ZeM h1 _ _
theorem ZmE (h:d<=w.drawn)(mn:Bool)(fr:Frame)(cs:List Frame)(dy:Option Dying):GOk d (unwind p mn fr cs dy w):=by
 unfold unwind
 dsimp only
 repeat' first
  |split
  |refine GOk.after ?_
 all_goals first
  |trivial
  |exact h
  |exact Ze8 h _ _ _ _
  |exact Zdy h _ _
  |exact Zdb h _ _ _ _ _
  |exact ZaF h (by assumption)
  |exact ZbZ h (by assumption)
  |exact Zdb (ZbZ h (by assumption)) _ _ _ _ _
theorem ZnO (h:d<=w.drawn)(fr:Frame)(cs:List Frame)(dy:Option Dying)(g:Nat):GOk d (early p fr cs dy g w):=by
 unfold early
 dsimp only
 repeat' split
 all_goals first
  |trivial
  |exact h
  |exact ZaF h (by assumption)
  |(have h2:=ZaF h ‹Sem.run p _ w=Result.ok _ _›;exact h2)
theorem Ze1 (h:d<=w.drawn)(ls:Bool)(fr:Frame)(cs:List Frame)(dy:Option Dying)(s:Sem Next):GOk d (stepG.apply p ls fr cs dy s w):=by
 unfold stepG.apply
 dsimp only
 have h1:d<=(rsW (if ls=true then s.runT p w #[] else(s.run p w,#[])).1).drawn:=by
  split
  ·exact Nat.le_trans h (Zcn s w #[])
  ·exact Nat.le_trans h (ZhP s w)
 generalize (if ls=true then s.runT p w #[] else(s.run p w,#[]))=x at*
 obtain⟨r,es⟩:=x
 dsimp only at h1⊢
 refine GOk.after ?_
 repeat' split
 all_goals first
  |trivial
  |exact h1
  |exact ZeN h1 _ _ _ _
  |exact ZeM h1 _ _
  |exact ZnO h1 _ _ _ _
theorem Zq5 (h:d<=w.drawn)(ls:Bool)(fr:Frame)(cs:List Frame)(dy:Option Dying):GOk d (stepG.oper p ls fr cs dy w):=by
 unfold stepG.oper
 repeat' split
 all_goals first
  |trivial
  |exact Ze1 h _ _ _ _ _
theorem Zra (h:d<=w.drawn)(mn ls:Bool)(fr:Frame)(cs:List Frame)(dy:Option Dying):GOk d (stepG.exec p mn ls fr cs dy w):=by
 unfold stepG.exec
 dsimp only
 split
 all_goals repeat' first
  |exact h
  |trivial
  |exact Ze1 h _ _ _ _ _
  |exact Zq5 h _ _ _ _
  |exact ZaF h (by assumption)
  |exact ZbZ h (by assumption)
  |exact Zdb (ZbZ h (by assumption)) _ _ _ _ _
  |exact Ze1 (ZbZ h (by assumption)) _ _ _ _ _
  |exact ZjZ h (by assumption)
  |split
  |refine GOk.after ?_
  |refine ZnW ?_ fun _=>?_
  |refine Zjq ?_ ?_
theorem ZoS (h:d<=w.drawn)(mn:Bool)(g:Goroutine)(ls:Bool):GOk d (stepG p mn g w ls):=by
 unfold stepG
 dsimp only
 split
 ·exact Zsa h _ _
 ·exact Zra h _ _ _ _ _
 ·exact ZmE h _ _ _ _
theorem ZpY (h:d<=w.drawn){rest:Rest}{cs:Array CommCase}{w':World}(e:waitingAt rest cs w=some w'):d<=w'.drawn:=by
 unfold waitingAt at e
 split at e
 ·split at e
  ·injection e with e
   subst e
   exact h
  ·cases e
 ·injection e with e
  subst e
  exact h
theorem ZqP (h:d<=w.drawn)(rest:Rest)(gs:Array Goroutine)(i:Nat)(g:Goroutine)(cases:Array CommCase)(bl:Bool)(sh:CommShape):SOk d (communicate p rest gs i g cases bl sh w).1:=by
 unfold communicate
 dsimp only
 repeat' first
  |exact h
  |trivial
  |exact ZpY h (by assumption)
  |(have h2:=ZaF h ‹Sem.run p _ w=Result.ok _ _›;exact h2)
  |(have h2:=ZaF h ‹Sem.run p _ w=Result.ok _ _›;have h3:=ZaF h2 (by assumption);exact h3)
  |split
theorem ZjX (h:d<=w.drawn)(gs:Array Goroutine)(rest:Rest):SOk d (Go.look p gs rest w):=by
 unfold Go.look
 dsimp only
 repeat' first
  |exact h
  |trivial
  |(have h2:=ZaF h ‹Sem.run p _ w=Result.ok _ _›;exact h2)
  |split
theorem Zox (w:World)(c:Nat):(drain w c).2.drawn=w.drawn:=by
 unfold drain
 split <;> rfl
theorem Zgy (m:Machine)(k:Nat)(t:Timer)(a b:Nat):(retime m k t a b).2.world.drawn=m.world.drawn:=by
 unfold retime
 dsimp only
 split
 ·exact Zox _ _
 ·rfl
theorem Zmm {m m':Machine}{v:Addr}(e:timerOp.opened m v=some m'):m'.world.drawn=m.world.drawn:=by
 unfold timerOp.opened at e
 split at e
 ·split at e
  ·injection e with e
   subst e
   rfl
  ·cases e
 ·injection e with e
  subst e
  rfl
theorem ZnK {m:Machine}{o:TimerOp}{r:Value×Machine}(e:timerOp m o= .ok r):r.2.world.drawn=m.world.drawn:=by
 unfold timerOp timerOp.named at e
 dsimp only at e
 repeat' split at e
 all_goals first
  |(injection e with e;subst e;rfl)
  |(injection e with e;subst e;exact Zgy _ _ _ _ _)
  |(injection e with e;subst e;exact(Zgy _ _ _ _ _).trans (Zmm (by assumption)))
  |cases e
theorem Zqs (m:Machine)(h:d<=m.world.drawn)(i:Nat)(ls:Bool):SOk d (runT p m i ls).1:=by
 unfold runT
 dsimp only
 have h1:=ZoS (p:=p) h (i==0) (m.gs.swapAt! i {(default:Goroutine) with status:= .finished}).1 ls
 generalize stepG p (i==0) (m.gs.swapAt! i {(default:Goroutine) with status:= .finished}).1 m.world ls=s at*
 repeat' first
  |exact h1
  |trivial
  |exact ZqP h1 _ _ _ _ _ _ _
  |exact ZjX h1 _ _
  |exact Nat.le_trans h1 (Nat.le_of_eq (ZnK (by assumption)).symm)
  |split
theorem ZoH (m:Machine)(h:d<=m.world.drawn)(k:Nat):SOk d (serve p m k):=by
 unfold serve
 dsimp only
 repeat' first
  |exact h
  |trivial
  |split
def VOk (d:Nat):Move->Prop
 | .goroutine m _=>d<=m.world.drawn
 | .machine s _=>SOk d s
theorem Ze6 (m:Machine)(h:d<=m.world.drawn):VOk d (askOn p m):=by
 unfold askOn
 dsimp only
 repeat' first
  |exact h
  |trivial
  |exact ZoH _ (ZaF h (by assumption)) _
  |split
 all_goals dsimp only[VOk,SOk,Machine.advanceTo]
 all_goals repeat' first
  |exact h
  |refine ZaF ?_ (by assumption)
  |dsimp only[Machine.advanceTo]
theorem Zq2 (m:Machine)(h:d<=m.world.drawn):VOk d (ask p m):=by
 unfold ask
 have key:∀w':World,d<=w'.drawn->VOk d (match Go.look p m.gs m.rest w' with
   | .next m=>askOn p m
   |e=> .machine e):=fun w' h'=>by
  have h1:=ZjX (p:=p) h' m.gs m.rest
  generalize Go.look p m.gs m.rest w'=s at*
  cases s
  ·exact Ze6 _ h1
  ·trivial
 repeat' first
  |trivial
  |exact key _ (ZaF h (by assumption))
  |exact Ze6 _ h
  |exact Ze6 {m with world:=_} (ZaF h (by assumption))
  |split
theorem Zqg (m:Machine)(h:d<=m.world.drawn):VOk d (move p m):=by
 unfold move
 repeat' first
  |exact h
  |trivial
  |exact Zq2 _ h
  |split
theorem Zp4 {m m':Machine}(e:step p m= .next m'):m.world.drawn<=m'.world.drawn:=by
 have h:SOk m.world.drawn (step p m):=by
  unfold step stepT
  have h1:=Zqg (p:=p) m (Nat.le_refl _)
  generalize move p m=v at*
  cases v
  ·exact Zqs _ h1 _ _
  ·exact h1
 rw[e] at h
 exact h
theorem Zf8 :∀(n:Nat) {m m':Machine},runN p n m= .next m'->m.world.drawn<=m'.world.drawn
 |0,m,m',e=>by
  injection e with e
  subst e
  exact Nat.le_refl _
 |n+1,m,m',e=>by
  unfold runN at e
  split at e
  ·exact Nat.le_trans (Zp4 (by assumption)) (Zf8 n e)
  ·cases hs:step p m with
   |next m1=>rename_i h1;exact absurd hs (h1 m1)
   |ended o w=>rw[hs] at e;cases e
theorem Zle {f:FuncId}{args:Array Value}{w:World}{R:Ending->World->Prop}(hc:Calls p f args w R):Calls p f args w fun e w'=>R e w'/\(e≠ .outgrown->w.drawn<=w'.drawn):=fun cs=>by
 obtain⟨e,w',fr,h1,h2,h3,h4⟩:=hc cs
 refine⟨e,w',fr,⟨h1,fun hn=>?_⟩,h2,h3,h4⟩
 cases e with
 |returned v=>obtain⟨n,hn⟩:=h2;exact Zf8 n hn
 |panicked c=>obtain⟨n,hn⟩:=h2;exact Zf8 n hn
 |outgrown=>exact absurd rfl hn
end
end Go.Vt
