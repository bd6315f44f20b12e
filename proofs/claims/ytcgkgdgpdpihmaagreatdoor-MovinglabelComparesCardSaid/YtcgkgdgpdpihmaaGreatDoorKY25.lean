/- For any two moving labels and any label, Is, Same and Less are the lifted comparisons. Conditions: none. (part 25 of 29.) Conditions: those that each statement names. -/
import Derived.Test.YtcgkgdgpdpihmaaGreatDoorProg
import Derived.Test.YtcgkgdgpdpihmaaGreatDoorKY11
import Derived.Test.YtcgkgdgpdpihmaaGreatDoorKY19
import Derived.Test.YtcgkgdgpdpihmaaGreatDoorKY23
import Derived.Test.YtcgkgdgpdpihmaaGreatDoorKY24
set_option linter.unusedSimpArgs false
set_option linter.unusedVariables false
set_option maxHeartbeats 2000000
set_option maxRecDepth 100000
namespace Go.Vt
open Go.RowKit Go.Proofs
open Go.Proofs.Tryz (prog)
section
def lfO (op:Int)(v w:Option Int):Option Int:=
 if op=1 then(match v,w with|some x,some y=>some (10*x+y)|_,_=>none)
 else if op=2 then(match w with|some y=>some y|none=>v)
 else if op=3 then(match v,w with|some x,some y=>some (if x=y then 1 else 0)|_,_=>none)
 else if op=4 then(match v,w with|some x,some y=>some (if x<y then 1 else 0)|_,_=>none)
 else(match v with|some x=>some (10*x)|none=>none)
structure ShP (l:List PU):Prop where
 n:l.length<=160
 k:∀u∈l,IvOk 3 u.In
abbrev allL (a b:List PU):List Za:=inL a++inL b
noncomputable def celL (a b:List PU):List Za:=celR (nrmS (allL a b)) (enR (allL a b))
theorem Zfz {l:List PU}(h:ShP l):(∀i∈inL l,IvOk 3 i)/\(inL l).length=l.length:=by
 unfold inL
 refine⟨fun i hi=>?_,ZK _ _ _⟩
 rw[Zag] at hi
 obtain⟨u,h1,rfl⟩:=List.mem_map.1 hi
 exact h.k u h1
theorem Zci {a b:List PU}(ha:ShP a)(hb:ShP b):(∀i∈allL a b,IvOk 3 i)/\(allL a b).length<=320:=by
 have h1:=Zfz ha
 have h2:=Zfz hb
 have:=ha.n
 have:=hb.n
 refine⟨fun i hi=>(List.mem_append.1 hi).elim (h1.1 i) (h2.1 i), ?_⟩
 rw[Wp]
 omega
theorem ZfZ {a b:List PU}(ha:ShP a)(hb:ShP b)(hn:(nrmS (allL a b)).length<=1024):CelIn (nrmS (allL a b)) (enR (allL a b)):=by
 obtain⟨h1,h2⟩:=Zci ha hb
 have h3:=ZbS (allL a b)
 exact⟨hn,by omega,fun i hi=>(ZfX h1 i hi).mono (by decide),(Zb1 (fun i hi=>(h1 i hi).mono (by decide))).b⟩
theorem Zku {a b:List PU}(ha:ShP a)(hb:ShP b):∀i∈celL a b,IvOk 3 i:=fun i hi=>by
 obtain⟨h1,h2⟩:=Zci ha hb
 have h3:∀i∈allL a b,RlB 3 i.From/\RlB 3 i.To:=fun i hi=>⟨(h1 i hi).a,(h1 i hi).b⟩
 have:=Zh7 (Pr:=RlB 3) (ZcV h3) (ZfB h3) i hi
 exact⟨this.1,this.2⟩
theorem Zn3 {a b:List PU}(ha:ShP a)(hb:ShP b)(hn:(nrmS (allL a b)).length<=1024):(celL a b).length<=8192:=by
 have h2:=(Zci ha hb).2
 have h3:=ZbS (allL a b)
 have h4:=ZhV (nrmS (allL a b)) (enR (allL a b))
 unfold celL
 omega
set_option maxHeartbeats 8000000 in
theorem ZiJ (v1 v2:Value)(a b:List PU)(w:World)(hv1:ArgS w v1 rP a)(hv2:ArgS w v2 rP b)(ha:ShP a)(hb:ShP b)(hn:(nrmS (allL a b)).length<=1024):
  Calls prog 23 [v1,v2].toArray w (RetM (SlS rI 20 (celL a b)) (fun q=>vSl q) (fun q=>mS 37 q) w):=by
 have:=ArgC.mk hv1
 have:=ArgC.mk hv2
 have hna:=ha.n
 have hnb:=hb.n
 have hla:=(Zfz ha).2
 have hlb:=(Zfz hb).2
 have hall:=Zci ha hb
 have p1:a.length<=1048576:=by omega
 have p2:b.length<=1048576:=by omega
 have p3:(allL a b).length<=1024/\∀i∈allL a b,IvOk B28 i:=⟨by omega,fun i hi=>(hall.1 i hi).mono (by decide)⟩
 have p4:(allL a b).length<=65536/\∀i∈allL a b,IvOk B28 i:=⟨by omega,p3.2⟩
 have p5:=ZfZ ha hb hn
 refine Zb Tryz.func23 rfl Tryz.ntmps23 rfl ?_
 repeat(first|(refine wkB ?_;intros)|(refine wnM ?_ ?_;(focus(first|exact p1|exact p2));intros))
 refine sV rfl rfl ?_ ?_ ?_
 ·rfl
 ·exact⟨by omega,by omega⟩
 intro s3
 repeat(first|(refine wkB ?_;intros)|(refine wnM ?_ ?_;(focus(first|exact p3|exact p4|exact p5));intros))
 rename_i s4
 exact Zo rfl rfl (fun w hw=>⟨s4,rfl,hw.sub suB⟩)
instance Zwb (w0:World)(L:List Blk)(v1 v2:Value)(a b:List PU)[h1:LstC w0 L v1 PU rP a][h2:LstC w0 L v2 PU rP b]:SpecR prog w0 L 23 [v1,v2] (SlS rI 20 (celL a b)) (fun q=>vSl q) (fun q=>mS 37 q) ((ShP a/\ShP b)/\(nrmS (allL a b)).length<=1024):=⟨fun hp w hw=>ZiJ v1 v2 a b w (h1.out w hw) (h2.out w hw) hp.1.1 hp.1.2 hp.2⟩
noncomputable def lf1 (op:Int)(a b:List PU)(c:Za)(out:List PU):List PU:=match lfO op (atL a (midR c)) (atL b (midR c)) with
 |some x=>out++[⟨c,x⟩]
 |none=>out
noncomputable def lfS (op:Int)(a b:List PU)(cs:List Za):Nat->List PU
 |0=>[]
 |i+1=>lf1 op a b (gi cs (i:Int)) (lfS op a b cs i)
theorem ZfU (op:Int)(a b:List PU)(cs:List Za):∀i,(lfS op a b cs i).length<=i
 |0=>Wl _
 |i+1=>by
  have h1:=ZfU op a b cs i
  rw[lfS]
  unfold lf1
  split
  ·simp;exact h1
  ·omega
noncomputable def lfU (op:Int)(a b:List PU):List PU:=lfS op a b (celL a b) (celL a b).length
noncomputable def lfR (op:Int)(a b:List PU):List PU:=jnL (lfU op a b) (lfU op a b).length
theorem Zkw {l:List PU}{t:Rl}{x:Int}{N:Int}(h:∀u∈l, -N<=u.Label/\u.Label<=N)(e:atL l t=some x): -N<=x/\x<=N:=by
 unfold atL at e
 rw[Option.map_eq_some_iff] at e
 obtain⟨u,h1,rfl⟩:=e
 exact h u (List.mem_of_find?_eq_some h1)
set_option maxHeartbeats 64000000 in
theorem ZiR (op:Int)(v1 v2:Value)(a b:List PU)(w:World)(hop:op=1\/op=2\/op=3\/op=4\/op=5)(hv1:ArgS w v1 rP a)(hv2:ArgS w v2 rP b)(ha:ShP a)(hb:ShP b)(hn:(nrmS (allL a b)).length<=1024)(hA:∀u∈a, -1000<=u.Label/\u.Label<=1000)(hB:∀u∈b, -1000<=u.Label/\u.Label<=1000):
  Calls prog 46 [.int .i64 op,v1,v2].toArray w (RetM (SlS rP 21 (lfR op a b)) (fun q=>vSl q) (fun q=>mS 46 q) w):=by
 have:=ArgC.mk hv1
 have:=ArgC.mk hv2
 have hna:=ha.n
 have hnb:=hb.n
 have hcl:=Zn3 ha hb hn
 have hco:=Zku ha hb
 have p1:(ShP a/\ShP b)/\(nrmS (allL a b)).length<=1024:=⟨⟨ha,hb⟩,hn⟩
 have hul:(lfU op a b).length<=1048576:=by have:=ZfU op a b (celL a b) (celL a b).length;unfold lfU;omega
 have hfin:∀s:List PU,s=lfU op a b->jnL s s.length=lfR op a b:=fun s h=>by rw[h];rfl
 have hU:lfU op a b=lfS op a b (celL a b) (celL a b).length:=rfl
 refine Zb Tryz.func46 rfl Tryz.ntmps46 rfl ?_
 repeat(first|(refine wkB ?_;intros)|(refine wnM ?_ ?_;(focus(exact p1));intros))
 rename_i r
 refine Z4 (S:=SlS rP 21 (lfU op a b)) (fun _=>True) (fun q=>[(7,vSl q)]) (fun q=>mS 46 q) ?_ (fun q _=>?_)
 ·rw[hU]
  clear hfin hul hU
  generalize celL a b=cs at*
  refine Zm (S:=(_:Nat)×(o:List PU)×SlS rP 21 o) (fun q=>q.1<=cs.length/\q.2.1=lfS op a b cs q.1) (fun q=>[(0, .int .i64 op),(1,v1),(2,v2),(7,vSl q.2.2),(8,vSl r),(9, .int .i64 (q.1:Nat))]) (fun q=>mS 46 q.2.2++mS 37 r) (fun q=>cs.length-q.1) ⟨0,[],SlS.no⟩ ⟨Wm _,rfl⟩ sbB suB (fun q hq=>?_)
  obtain⟨i,out,s⟩:=q
  obtain⟨hq,ho⟩:=hq
  dsimp only at hq ho⊢
  have hln:out.length<=i:=by rw[ho];exact ZfU op a b cs i
  have hend:i=cs.length->out=lfS op a b cs cs.length:=fun h=>by rw[ho,h]
  have hnx:lf1 op a b (gi cs (i:Int)) out=lfS op a b cs (i+1):=by rw[ho];rfl
  clear ho
  repeat(refine wkB ?_;intros)
  refine Zk rfl (fun h=>?_) (fun h=>?_)
  ·have hlt:i<cs.length:=by have:=Wa h;omega
   rcases r.cases 37 with⟨y0,y1,y2⟩|⟨bc,cc,sp,hcc,y1,y2,yne⟩
   ·rw[y0] at hlt;cases hlt
   simp only[y1,y2]
   have hci:=hco (gi cs (i:Int)) (Zs (by omega))
   have hmB:=Zqc hci
   have hLa:=fun t x=>Zkw (l:=a) (t:=t) (x:=x) (N:=1000) hA
   have hLb:=fun t x=>Zkw (l:=b) (t:=t) (x:=x) (N:=1000) hB
   have q1:a.length<=1048576/\(∀u∈a,IvOk B28 u.In)/\RtB (midR (gi cs (i:Int))):=⟨by omega,fun u hu=>(ha.k u hu).mono (by decide),hmB.mono (by decide)⟩
   have q2:b.length<=1048576/\(∀u∈b,IvOk B28 u.In)/\RtB (midR (gi cs (i:Int))):=⟨by omega,fun u hu=>(hb.k u hu).mono (by decide),hmB.mono (by decide)⟩
   unfold lf1 at hnx
   rcases hop with rfl|rfl|rfl|rfl|rfl
   all_goals repeat(first|(refine wkB ?_;intros)|(refine wnM ?_ ?_;(focus(first|exact hci|exact q1|exact q2));intros))
   ·rcases hv:atL a (midR (gi cs (i:Int))) with _|x <;> rw[hv] at hnx
    rotate_left
    ·rcases hw:atL b (midR (gi cs (i:Int))) with _|y <;> rw[hw] at hnx
     rotate_left
     ·have bx:=hLa _ _ hv
      have by_:=hLb _ _ hw
      simp only[Option.getD_some,Option.getD_none,Option.isSome_some,Option.isSome_none]
      have ho:lfO 1 (some x) (some y)=some (10*x+y):=by simp[lfO]
      rw[ho] at hnx
      dsimp only at hnx
      repeat(first|(refine wkB ?_;intros)|(refine wnM ?_ ?_;(focus(exact⟨by omega,by omega⟩));intros))
      refine sU (k:=21) (enc:=rP) (s:=s) rfl rfl ?_ ?_ ?_ ?_
      ·rfl
      ·rfl
      ·exact⟨by decide,by omega,by omega⟩
      intro s'
      repeat(first|(refine wkB ?_;intros)|(refine wnM ?_ ?_;(focus(exact⟨by omega,by omega⟩));intros))
      exact Zc ⟨i+1,_,s'⟩ ⟨hlt,hnx⟩ (by(try simp only[y1]);exact sbB) (by(try simp only[y2,Wf,Wg]);exact suB) (by show cs.length-(i+1)<cs.length-i;omega)
     ·have bx:=hLa _ _ hv
      simp only[Option.getD_some,Option.getD_none,Option.isSome_some,Option.isSome_none]
      have ho:lfO 1 (some x) (none)=none:=by simp[lfO]
      rw[ho] at hnx
      dsimp only at hnx
      repeat(first|(refine wkB ?_;intros)|(refine wnM ?_ ?_;(focus(exact⟨by omega,by omega⟩));intros))
      exact Zc ⟨i+1,_,s⟩ ⟨hlt,hnx⟩ (by(try simp only[y1]);exact sbB) (by(try simp only[y2,Wf,Wg]);exact suB) (by show cs.length-(i+1)<cs.length-i;omega)
    ·rcases hw:atL b (midR (gi cs (i:Int))) with _|y <;> rw[hw] at hnx
     rotate_left
     ·have by_:=hLb _ _ hw
      simp only[Option.getD_some,Option.getD_none,Option.isSome_some,Option.isSome_none]
      have ho:lfO 1 (none) (some y)=none:=by simp[lfO]
      rw[ho] at hnx
      dsimp only at hnx
      repeat(first|(refine wkB ?_;intros)|(refine wnM ?_ ?_;(focus(exact⟨by omega,by omega⟩));intros))
      exact Zc ⟨i+1,_,s⟩ ⟨hlt,hnx⟩ (by(try simp only[y1]);exact sbB) (by(try simp only[y2,Wf,Wg]);exact suB) (by show cs.length-(i+1)<cs.length-i;omega)
     ·simp only[Option.getD_some,Option.getD_none,Option.isSome_some,Option.isSome_none]
      have ho:lfO 1 (none) (none)=none:=by simp[lfO]
      rw[ho] at hnx
      dsimp only at hnx
      repeat(first|(refine wkB ?_;intros)|(refine wnM ?_ ?_;(focus(exact⟨by omega,by omega⟩));intros))
      exact Zc ⟨i+1,_,s⟩ ⟨hlt,hnx⟩ (by(try simp only[y1]);exact sbB) (by(try simp only[y2,Wf,Wg]);exact suB) (by show cs.length-(i+1)<cs.length-i;omega)
   ·rcases hv:atL a (midR (gi cs (i:Int))) with _|x <;> rw[hv] at hnx
    rotate_left
    ·rcases hw:atL b (midR (gi cs (i:Int))) with _|y <;> rw[hw] at hnx
     rotate_left
     ·have bx:=hLa _ _ hv
      have by_:=hLb _ _ hw
      simp only[Option.getD_some,Option.getD_none,Option.isSome_some,Option.isSome_none]
      have ho:lfO 2 (some x) (some y)=some (y):=by simp[lfO]
      rw[ho] at hnx
      dsimp only at hnx
      repeat(first|(refine wkB ?_;intros)|(refine wnM ?_ ?_;(focus(exact⟨by omega,by omega⟩));intros))
      refine sU (k:=21) (enc:=rP) (s:=s) rfl rfl ?_ ?_ ?_ ?_
      ·rfl
      ·rfl
      ·exact⟨by decide,by omega,by omega⟩
      intro s'
      repeat(first|(refine wkB ?_;intros)|(refine wnM ?_ ?_;(focus(exact⟨by omega,by omega⟩));intros))
      exact Zc ⟨i+1,_,s'⟩ ⟨hlt,hnx⟩ (by(try simp only[y1]);exact sbB) (by(try simp only[y2,Wf,Wg]);exact suB) (by show cs.length-(i+1)<cs.length-i;omega)
     ·have bx:=hLa _ _ hv
      simp only[Option.getD_some,Option.getD_none,Option.isSome_some,Option.isSome_none]
      have ho:lfO 2 (some x) (none)=some (x):=by simp[lfO]
      rw[ho] at hnx
      dsimp only at hnx
      repeat(first|(refine wkB ?_;intros)|(refine wnM ?_ ?_;(focus(exact⟨by omega,by omega⟩));intros))
      refine sU (k:=21) (enc:=rP) (s:=s) rfl rfl ?_ ?_ ?_ ?_
      ·rfl
      ·rfl
      ·exact⟨by decide,by omega,by omega⟩
      intro s'
      repeat(first|(refine wkB ?_;intros)|(refine wnM ?_ ?_;(focus(exact⟨by omega,by omega⟩));intros))
      exact Zc ⟨i+1,_,s'⟩ ⟨hlt,hnx⟩ (by(try simp only[y1]);exact sbB) (by(try simp only[y2,Wf,Wg]);exact suB) (by show cs.length-(i+1)<cs.length-i;omega)
    ·rcases hw:atL b (midR (gi cs (i:Int))) with _|y <;> rw[hw] at hnx
     rotate_left
     ·have by_:=hLb _ _ hw
      simp only[Option.getD_some,Option.getD_none,Option.isSome_some,Option.isSome_none]
      have ho:lfO 2 (none) (some y)=some (y):=by simp[lfO]
      rw[ho] at hnx
      dsimp only at hnx
      repeat(first|(refine wkB ?_;intros)|(refine wnM ?_ ?_;(focus(exact⟨by omega,by omega⟩));intros))
      refine sU (k:=21) (enc:=rP) (s:=s) rfl rfl ?_ ?_ ?_ ?_
      ·rfl
      ·rfl
      ·exact⟨by decide,by omega,by omega⟩
      intro s'
      repeat(first|(refine wkB ?_;intros)|(refine wnM ?_ ?_;(focus(exact⟨by omega,by omega⟩));intros))
      exact Zc ⟨i+1,_,s'⟩ ⟨hlt,hnx⟩ (by(try simp only[y1]);exact sbB) (by(try simp only[y2,Wf,Wg]);exact suB) (by show cs.length-(i+1)<cs.length-i;omega)
     ·simp only[Option.getD_some,Option.getD_none,Option.isSome_some,Option.isSome_none]
      have ho:lfO 2 (none) (none)=none:=by simp[lfO]
      rw[ho] at hnx
      dsimp only at hnx
      repeat(first|(refine wkB ?_;intros)|(refine wnM ?_ ?_;(focus(exact⟨by omega,by omega⟩));intros))
      exact Zc ⟨i+1,_,s⟩ ⟨hlt,hnx⟩ (by(try simp only[y1]);exact sbB) (by(try simp only[y2,Wf,Wg]);exact suB) (by show cs.length-(i+1)<cs.length-i;omega)
   ·rcases hv:atL a (midR (gi cs (i:Int))) with _|x <;> rw[hv] at hnx
    rotate_left
    ·rcases hw:atL b (midR (gi cs (i:Int))) with _|y <;> rw[hw] at hnx
     rotate_left
     ·have bx:=hLa _ _ hv
      have by_:=hLb _ _ hw
      simp only[Option.getD_some,Option.getD_none,Option.isSome_some,Option.isSome_none]
      repeat(refine wkB ?_;intros)
      by_cases c:x=y
      ·simp only[Wc c]
       have ho:lfO 3 (some x) (some y)=some (1):=by simp[lfO,c]
       rw[ho] at hnx
       dsimp only at hnx
       repeat(first|(refine wkB ?_;intros)|(refine wnM ?_ ?_;(focus(exact⟨by omega,by omega⟩));intros))
       refine sU (k:=21) (enc:=rP) (s:=s) rfl rfl ?_ ?_ ?_ ?_
       ·rfl
       ·rfl
       ·exact⟨by decide,by omega,by omega⟩
       intro s'
       repeat(first|(refine wkB ?_;intros)|(refine wnM ?_ ?_;(focus(exact⟨by omega,by omega⟩));intros))
       exact Zc ⟨i+1,_,s'⟩ ⟨hlt,hnx⟩ (by(try simp only[y1]);exact sbB) (by(try simp only[y2,Wf,Wg]);exact suB) (by show cs.length-(i+1)<cs.length-i;omega)
      ·simp only[We c]
       have ho:lfO 3 (some x) (some y)=some (0):=by simp[lfO,c]
       rw[ho] at hnx
       dsimp only at hnx
       repeat(first|(refine wkB ?_;intros)|(refine wnM ?_ ?_;(focus(exact⟨by omega,by omega⟩));intros))
       refine sU (k:=21) (enc:=rP) (s:=s) rfl rfl ?_ ?_ ?_ ?_
       ·rfl
       ·rfl
       ·exact⟨by decide,by omega,by omega⟩
       intro s'
       repeat(first|(refine wkB ?_;intros)|(refine wnM ?_ ?_;(focus(exact⟨by omega,by omega⟩));intros))
       exact Zc ⟨i+1,_,s'⟩ ⟨hlt,hnx⟩ (by(try simp only[y1]);exact sbB) (by(try simp only[y2,Wf,Wg]);exact suB) (by show cs.length-(i+1)<cs.length-i;omega)
     ·have bx:=hLa _ _ hv
      simp only[Option.getD_some,Option.getD_none,Option.isSome_some,Option.isSome_none]
      repeat(refine wkB ?_;intros)
      by_cases c:x=(0:Int)
      ·simp only[Wc c]
       have ho:lfO 3 (some x) (none)=none:=by simp[lfO]
       rw[ho] at hnx
       dsimp only at hnx
       repeat(first|(refine wkB ?_;intros)|(refine wnM ?_ ?_;(focus(exact⟨by omega,by omega⟩));intros))
       exact Zc ⟨i+1,_,s⟩ ⟨hlt,hnx⟩ (by(try simp only[y1]);exact sbB) (by(try simp only[y2,Wf,Wg]);exact suB) (by show cs.length-(i+1)<cs.length-i;omega)
      ·simp only[We c]
       have ho:lfO 3 (some x) (none)=none:=by simp[lfO]
       rw[ho] at hnx
       dsimp only at hnx
       repeat(first|(refine wkB ?_;intros)|(refine wnM ?_ ?_;(focus(exact⟨by omega,by omega⟩));intros))
       exact Zc ⟨i+1,_,s⟩ ⟨hlt,hnx⟩ (by(try simp only[y1]);exact sbB) (by(try simp only[y2,Wf,Wg]);exact suB) (by show cs.length-(i+1)<cs.length-i;omega)
    ·rcases hw:atL b (midR (gi cs (i:Int))) with _|y <;> rw[hw] at hnx
     rotate_left
     ·have by_:=hLb _ _ hw
      simp only[Option.getD_some,Option.getD_none,Option.isSome_some,Option.isSome_none]
      repeat(refine wkB ?_;intros)
      by_cases c:(0:Int)=y
      ·simp only[Wc c]
       have ho:lfO 3 (none) (some y)=none:=by simp[lfO]
       rw[ho] at hnx
       dsimp only at hnx
       repeat(first|(refine wkB ?_;intros)|(refine wnM ?_ ?_;(focus(exact⟨by omega,by omega⟩));intros))
       exact Zc ⟨i+1,_,s⟩ ⟨hlt,hnx⟩ (by(try simp only[y1]);exact sbB) (by(try simp only[y2,Wf,Wg]);exact suB) (by show cs.length-(i+1)<cs.length-i;omega)
      ·simp only[We c]
       have ho:lfO 3 (none) (some y)=none:=by simp[lfO]
       rw[ho] at hnx
       dsimp only at hnx
       repeat(first|(refine wkB ?_;intros)|(refine wnM ?_ ?_;(focus(exact⟨by omega,by omega⟩));intros))
       exact Zc ⟨i+1,_,s⟩ ⟨hlt,hnx⟩ (by(try simp only[y1]);exact sbB) (by(try simp only[y2,Wf,Wg]);exact suB) (by show cs.length-(i+1)<cs.length-i;omega)
     ·simp only[Option.getD_some,Option.getD_none,Option.isSome_some,Option.isSome_none]
      repeat(refine wkB ?_;intros)
      have ho:lfO 3 (none) (none)=none:=by simp[lfO]
      rw[ho] at hnx
      dsimp only at hnx
      repeat(first|(refine wkB ?_;intros)|(refine wnM ?_ ?_;(focus(exact⟨by omega,by omega⟩));intros))
      exact Zc ⟨i+1,_,s⟩ ⟨hlt,hnx⟩ (by(try simp only[y1]);exact sbB) (by(try simp only[y2,Wf,Wg]);exact suB) (by show cs.length-(i+1)<cs.length-i;omega)
   ·rcases hv:atL a (midR (gi cs (i:Int))) with _|x <;> rw[hv] at hnx
    rotate_left
    ·rcases hw:atL b (midR (gi cs (i:Int))) with _|y <;> rw[hw] at hnx
     rotate_left
     ·have bx:=hLa _ _ hv
      have by_:=hLb _ _ hw
      simp only[Option.getD_some,Option.getD_none,Option.isSome_some,Option.isSome_none]
      repeat(refine wkB ?_;intros)
      by_cases c:x<y
      ·simp only[Wc c]
       have ho:lfO 4 (some x) (some y)=some (1):=by simp[lfO,c]
       rw[ho] at hnx
       dsimp only at hnx
       repeat(first|(refine wkB ?_;intros)|(refine wnM ?_ ?_;(focus(exact⟨by omega,by omega⟩));intros))
       refine sU (k:=21) (enc:=rP) (s:=s) rfl rfl ?_ ?_ ?_ ?_
       ·rfl
       ·rfl
       ·exact⟨by decide,by omega,by omega⟩
       intro s'
       repeat(first|(refine wkB ?_;intros)|(refine wnM ?_ ?_;(focus(exact⟨by omega,by omega⟩));intros))
       exact Zc ⟨i+1,_,s'⟩ ⟨hlt,hnx⟩ (by(try simp only[y1]);exact sbB) (by(try simp only[y2,Wf,Wg]);exact suB) (by show cs.length-(i+1)<cs.length-i;omega)
      ·simp only[We c]
       have ho:lfO 4 (some x) (some y)=some (0):=by simp[lfO,c]
       rw[ho] at hnx
       dsimp only at hnx
       repeat(first|(refine wkB ?_;intros)|(refine wnM ?_ ?_;(focus(exact⟨by omega,by omega⟩));intros))
       refine sU (k:=21) (enc:=rP) (s:=s) rfl rfl ?_ ?_ ?_ ?_
       ·rfl
       ·rfl
       ·exact⟨by decide,by omega,by omega⟩
       intro s'
       repeat(first|(refine wkB ?_;intros)|(refine wnM ?_ ?_;(focus(exact⟨by omega,by omega⟩));intros))
       exact Zc ⟨i+1,_,s'⟩ ⟨hlt,hnx⟩ (by(try simp only[y1]);exact sbB) (by(try simp only[y2,Wf,Wg]);exact suB) (by show cs.length-(i+1)<cs.length-i;omega)
     ·have bx:=hLa _ _ hv
      simp only[Option.getD_some,Option.getD_none,Option.isSome_some,Option.isSome_none]
      repeat(refine wkB ?_;intros)
      by_cases c:x<(0:Int)
      ·simp only[Wc c]
       have ho:lfO 4 (some x) (none)=none:=by simp[lfO]
       rw[ho] at hnx
       dsimp only at hnx
       repeat(first|(refine wkB ?_;intros)|(refine wnM ?_ ?_;(focus(exact⟨by omega,by omega⟩));intros))
       exact Zc ⟨i+1,_,s⟩ ⟨hlt,hnx⟩ (by(try simp only[y1]);exact sbB) (by(try simp only[y2,Wf,Wg]);exact suB) (by show cs.length-(i+1)<cs.length-i;omega)
      ·simp only[We c]
       have ho:lfO 4 (some x) (none)=none:=by simp[lfO]
       rw[ho] at hnx
       dsimp only at hnx
       repeat(first|(refine wkB ?_;intros)|(refine wnM ?_ ?_;(focus(exact⟨by omega,by omega⟩));intros))
       exact Zc ⟨i+1,_,s⟩ ⟨hlt,hnx⟩ (by(try simp only[y1]);exact sbB) (by(try simp only[y2,Wf,Wg]);exact suB) (by show cs.length-(i+1)<cs.length-i;omega)
    ·rcases hw:atL b (midR (gi cs (i:Int))) with _|y <;> rw[hw] at hnx
     rotate_left
     ·have by_:=hLb _ _ hw
      simp only[Option.getD_some,Option.getD_none,Option.isSome_some,Option.isSome_none]
      repeat(refine wkB ?_;intros)
      by_cases c:(0:Int)<y
      ·simp only[Wc c]
       have ho:lfO 4 (none) (some y)=none:=by simp[lfO]
       rw[ho] at hnx
       dsimp only at hnx
       repeat(first|(refine wkB ?_;intros)|(refine wnM ?_ ?_;(focus(exact⟨by omega,by omega⟩));intros))
       exact Zc ⟨i+1,_,s⟩ ⟨hlt,hnx⟩ (by(try simp only[y1]);exact sbB) (by(try simp only[y2,Wf,Wg]);exact suB) (by show cs.length-(i+1)<cs.length-i;omega)
      ·simp only[We c]
       have ho:lfO 4 (none) (some y)=none:=by simp[lfO]
       rw[ho] at hnx
       dsimp only at hnx
       repeat(first|(refine wkB ?_;intros)|(refine wnM ?_ ?_;(focus(exact⟨by omega,by omega⟩));intros))
       exact Zc ⟨i+1,_,s⟩ ⟨hlt,hnx⟩ (by(try simp only[y1]);exact sbB) (by(try simp only[y2,Wf,Wg]);exact suB) (by show cs.length-(i+1)<cs.length-i;omega)
     ·simp only[Option.getD_some,Option.getD_none,Option.isSome_some,Option.isSome_none]
      repeat(refine wkB ?_;intros)
      have ho:lfO 4 (none) (none)=none:=by simp[lfO]
      rw[ho] at hnx
      dsimp only at hnx
      repeat(first|(refine wkB ?_;intros)|(refine wnM ?_ ?_;(focus(exact⟨by omega,by omega⟩));intros))
      exact Zc ⟨i+1,_,s⟩ ⟨hlt,hnx⟩ (by(try simp only[y1]);exact sbB) (by(try simp only[y2,Wf,Wg]);exact suB) (by show cs.length-(i+1)<cs.length-i;omega)
   ·rcases hv:atL a (midR (gi cs (i:Int))) with _|x <;> rw[hv] at hnx
    rotate_left
    ·rcases hw:atL b (midR (gi cs (i:Int))) with _|y <;> rw[hw] at hnx
     rotate_left
     ·have bx:=hLa _ _ hv
      have by_:=hLb _ _ hw
      simp only[Option.getD_some,Option.getD_none,Option.isSome_some,Option.isSome_none]
      have ho:lfO 5 (some x) (some y)=some (10*x):=by simp[lfO]
      rw[ho] at hnx
      dsimp only at hnx
      repeat(first|(refine wkB ?_;intros)|(refine wnM ?_ ?_;(focus(exact⟨by omega,by omega⟩));intros))
      refine sU (k:=21) (enc:=rP) (s:=s) rfl rfl ?_ ?_ ?_ ?_
      ·rfl
      ·rfl
      ·exact⟨by decide,by omega,by omega⟩
      intro s'
      repeat(first|(refine wkB ?_;intros)|(refine wnM ?_ ?_;(focus(exact⟨by omega,by omega⟩));intros))
      exact Zc ⟨i+1,_,s'⟩ ⟨hlt,hnx⟩ (by(try simp only[y1]);exact sbB) (by(try simp only[y2,Wf,Wg]);exact suB) (by show cs.length-(i+1)<cs.length-i;omega)
     ·have bx:=hLa _ _ hv
      simp only[Option.getD_some,Option.getD_none,Option.isSome_some,Option.isSome_none]
      have ho:lfO 5 (some x) (none)=some (10*x):=by simp[lfO]
      rw[ho] at hnx
      dsimp only at hnx
      repeat(first|(refine wkB ?_;intros)|(refine wnM ?_ ?_;(focus(exact⟨by omega,by omega⟩));intros))
      refine sU (k:=21) (enc:=rP) (s:=s) rfl rfl ?_ ?_ ?_ ?_
      ·rfl
      ·rfl
      ·exact⟨by decide,by omega,by omega⟩
      intro s'
      repeat(first|(refine wkB ?_;intros)|(refine wnM ?_ ?_;(focus(exact⟨by omega,by omega⟩));intros))
      exact Zc ⟨i+1,_,s'⟩ ⟨hlt,hnx⟩ (by(try simp only[y1]);exact sbB) (by(try simp only[y2,Wf,Wg]);exact suB) (by show cs.length-(i+1)<cs.length-i;omega)
    ·rcases hw:atL b (midR (gi cs (i:Int))) with _|y <;> rw[hw] at hnx
     rotate_left
     ·have by_:=hLb _ _ hw
      simp only[Option.getD_some,Option.getD_none,Option.isSome_some,Option.isSome_none]
      have ho:lfO 5 (none) (some y)=none:=by simp[lfO]
      rw[ho] at hnx
      dsimp only at hnx
      repeat(first|(refine wkB ?_;intros)|(refine wnM ?_ ?_;(focus(exact⟨by omega,by omega⟩));intros))
      exact Zc ⟨i+1,_,s⟩ ⟨hlt,hnx⟩ (by(try simp only[y1]);exact sbB) (by(try simp only[y2,Wf,Wg]);exact suB) (by show cs.length-(i+1)<cs.length-i;omega)
     ·simp only[Option.getD_some,Option.getD_none,Option.isSome_some,Option.isSome_none]
      have ho:lfO 5 (none) (none)=none:=by simp[lfO]
      rw[ho] at hnx
      dsimp only at hnx
      repeat(first|(refine wkB ?_;intros)|(refine wnM ?_ ?_;(focus(exact⟨by omega,by omega⟩));intros))
      exact Zc ⟨i+1,_,s⟩ ⟨hlt,hnx⟩ (by(try simp only[y1]);exact sbB) (by(try simp only[y2,Wf,Wg]);exact suB) (by show cs.length-(i+1)<cs.length-i;omega)
  ·have hge:i=cs.length:=by have:=Wb h;omega
   obtain⟨s',f1,f2⟩:=SlS.turn 46 (hend hge) s
   repeat(refine wkB ?_;intros)
   exact Zh s' trivial (by rw[f1];exact sbB) (by rw[f2];exact suB)
 repeat(first|(refine wkB ?_;intros)|(refine wnM ?_ ?_;(focus(exact hul));intros))
 rename_i r2
 exact Zo rfl rfl (fun w hw=>⟨r2,rfl,hw.sub suB⟩)
end
section
theorem NfP.ok {l:List PU}(h:NfP l):∀u∈l,okI u.In:=fun u hu=>h.nf.ok (absQ u) (List.mem_map_of_mem hu)
theorem NfP.bf {l:List PU}(h:NfP l){i j:Nat}(hij:i<j)(hj:j<l.length):bfI (gi l (i:Int)).In (gi l (j:Int)).In:=by
 have:=(List.pairwise_map.1 h.nf.pw)
 have:=List.pairwise_iff_getElem.1 this i j (by omega) hj hij
 rw[Zr hj,Zr (by omega)]
 exact this.bf
theorem ZlT (l:List PU){i:Nat}(h:i<l.length):gi (mpN toU l l.length) (i:Int)=toU (gi l (i:Int)):=by
 rw[Zag,Zr (by rw[Ws];exact h),Zr h,List.getElem_map]
theorem ZjA (l:List PU):(mpN toU l l.length).length=l.length:=ZK toU l l.length
theorem ZBP {l:List PU}(h:NfP l)(t:Rl):∃c,Cut (mpN toU l l.length) t c:=by
 have hm:∀n,n<=l.length->∃c,c<=n/\(∀j:Nat,j<c->ri (gi l (j:Int)).In.To<ri t)/\∀j:Nat,c<=j->j<n->ri t<=ri (gi l (j:Int)).In.To:=fun n=>by
  induction n with
  |zero=>exact fun _=>⟨0,Wl _,fun j hj=>by omega,fun j h1 h2=>by omega⟩
  |succ n ih=>
   intro hn
   obtain⟨c,c1,c2,c3⟩:=ih (by omega)
   by_cases c0:ri (gi l (n:Int)).In.To<ri t
   ·refine⟨n+1,Wl _,fun j hj=>?_,fun j h1 h2=>by omega⟩
    rcases(by omega:j<n\/j=n) with h1|rfl
    ·have hb:=h.bf h1 (by omega)
     have ho:=h.ok (gi l (n:Int)) (Zs (by omega))
     unfold bfI at hb
     unfold okI at ho
     grind
    ·exact c0
   ·refine⟨c,by omega,c2,fun j h1 h2=>?_⟩
    rcases(by omega:j<n\/j=n) with h3|rfl
    ·exact c3 j h1 h3
    ·grind
 obtain⟨c,c1,c2,c3⟩:=hm l.length (Wl _)
 refine⟨c,⟨by rw[ZjA];exact c1,fun j hj=>?_,fun j h1 h2=>?_⟩⟩
 ·rw[ZlT l (by omega)];exact c2 j hj
 ·rw[ZjA] at h2
  rw[ZlT l h2];exact c3 j h1 h2
theorem ZkF (us:List PU)(x:Int){i:Za}:∀m,m<=us.length->(i∈whL us x m↔∃u∈us.take m,u.Label=x/\i=u.In)
 |0,_=>by simp[whL]
 |m+1,hm=>by
  have ih:=ZkF us x (i:=i) m (by omega)
  rw[Wn (by omega),<-Zr (by omega),whL]
  simp only[Wv,Wo]
  split
  ·rename_i hc
   rw[Wv,Wo,ih]
   constructor
   ·rintro(⟨u,h1,h2⟩|h1)
    ·exact⟨u, .inl h1,h2⟩
    ·exact⟨_, .inr rfl,hc,h1⟩
   ·rintro⟨u,h1|h1,h2⟩
    ·exact .inl ⟨u,h1,h2⟩
    ·rw[h1] at h2;exact .inr h2.2
  ·rename_i hc
   rw[ih]
   constructor
   ·rintro⟨u,h1,h2⟩;exact⟨u, .inl h1,h2⟩
   ·rintro⟨u,h1|h1,h2⟩
    ·exact⟨u,h1,h2⟩
    ·rw[h1] at h2;exact(hc h2.1).elim
theorem Zew {us:List PU}{x:Int}{i:Za}:i∈whL us x us.length↔∃u∈us,u.Label=x/\i=u.In:=by
 rw[ZkF us x _ (Wl _),List.take_length]
theorem Zhl {l:List PU}(h:NfP l)(x:Int):(∀i∈whL l x l.length,IvOk 3 i)/\∀i∈whL l x l.length,okI i:=by
 constructor
 ·intro i hi
  obtain⟨u,h1,_,rfl⟩:=Zew.1 hi
  exact h.k u h1
 ·intro i hi
  obtain⟨u,h1,_,rfl⟩:=Zew.1 hi
  exact h.ok u h1
theorem Zqy {l:List PU}(h:NfP l)(x:Int):swpR kpU (whL l x l.length) []=nrmS (whL l x l.length):=by
 have h1:=Zhl h x
 have h2:=ZbE l x l.length
 have h3:=h.len
 exact ZdR (by decide) (by omega) h1.1 h1.2
theorem Zrg {l:List PU}(h:NfP l)(x:Int):SwOk (whL l x l.length) []:=by
 have h1:=Zhl h x
 have h2:=ZbE l x l.length
 have h3:=h.len
 exact SwOk.of (K:=3) (by decide) (by simp;omega) h1.1 (fun i hi=>by cases hi)
theorem ZfD (l:List PU):pIv l=inL l:=by
 unfold pIv
 rw[Zag,Zag,List.map_map,inL,Zag]
 rfl
theorem ZhA {l:List PU}(h:NfP l):(∀i∈inL l,IvOk 3 i)/\(∀i∈inL l,okI i)/\(inL l).length=l.length:=by
 unfold inL
 refine⟨fun i hi=>?_,fun i hi=>?_,ZK _ _ _⟩
 ·rw[Zag] at hi
  obtain⟨u,h1,rfl⟩:=List.mem_map.1 hi
  exact h.k u h1
 ·rw[Zag] at hi
  obtain⟨u,h1,rfl⟩:=List.mem_map.1 hi
  exact h.ok u h1
theorem ZrE {l:List PU}(h:NfP l):pDom l=nrmS (inL l):=by
 have h1:=ZhA h
 have h3:=h.len
 unfold pDom
 rw[ZfD]
 exact ZdR (by decide) (by omega) h1.1 h1.2.1
theorem ZrT {l:List PU}(h:NfP l):SwOk (pIv l) []:=by
 have h1:=ZhA h
 have h3:=h.len
 rw[ZfD]
 exact SwOk.of (K:=3) (by decide) (by simp only[Wx];omega) h1.1 (fun i hi=>by cases hi)
end
section
noncomputable def memB (i:Za)(z:Ri):Bool:= @decide (memI i z) (Classical.propDecidable _)
theorem Zc2 {i:Za}{z:Ri}:memB i z=true↔memI i z:=by unfold memB;exact @decide_eq_true_iff _ (Classical.propDecidable _)
noncomputable def vlA (l:List PU)(z:Ri):Option Int:=(l.find? (fun u=>memB u.In z)).map (·.Label)
theorem ZkB (l:List PU)(t:Rl):atL l t=vlA l (ri t):=by
 unfold atL vlA
 congr 2
 funext u
 rw[Bool.eq_iff_iff,Zc2]
 exact Zf9
theorem Zea {z z':Ri}:∀{l:List PU},(∀u∈l,memI u.In z↔memI u.In z')->vlA l z=vlA l z'
 |[],_=>rfl
 |u::l,h=>by
  have ih:=Zea (l:=l) (fun u hu=>h u (.tail _ hu))
  unfold vlA at ih⊢
  rw[List.find?_cons,List.find?_cons,show memB u.In z=memB u.In z' by rw[Bool.eq_iff_iff,Zc2,Zc2];exact h u (.head _)]
  split
  ·rfl
  ·exact ih
theorem Zb7 {l:List PU}{z:Ri}{x:Int}(h:vlA l z=some x):∃u∈l,memI u.In z/\u.Label=x:=by
 unfold vlA at h
 rw[Option.map_eq_some_iff] at h
 obtain⟨u,h1,h2⟩:=h
 exact⟨u,List.mem_of_find?_eq_some h1,Zc2.1 (by have:=List.find?_some h1;exact this),h2⟩
theorem Zr3 {l:List PU}{z:Ri}(h:∃u∈l,memI u.In z):∃x,vlA l z=some x:=by
 obtain⟨u,h1,h2⟩:=h
 cases e:vlA l z with
 |some x=>exact⟨x,rfl⟩
 |none=>
  unfold vlA at e
  rw[Option.map_eq_none_iff,List.find?_eq_none] at e
  exact absurd (Zc2.2 h2) (e u h1)
theorem Zs2 {l:List PU}(h:l.Pairwise (fun u w=>bfI u.In w.In)){u w:PU}(hu:u∈l)(hw:w∈l){t:Ri}(h1:memI u.In t)(h2:memI w.In t):u=w:=by
 rcases Zfc h u hu w hw with e|e|e
 ·exact e
 ·exact((Zkh.2 e).dis (t:=t) h1 h2).elim
 ·exact((Zkh.2 e).dis (t:=t) h2 h1).elim
theorem Zjh {l:List PU}(h:l.Pairwise (fun u w=>bfI u.In w.In)){z:Ri}{x:Int}:vlA l z=some x↔Has (l.map absQ) z x:=by
 constructor
 ·intro e
  obtain⟨u,h1,h2,h3⟩:=Zb7 e
  exact⟨absQ u,List.mem_map_of_mem h1,h2,h3⟩
 ·rintro⟨u,hu,h1,h2⟩
  obtain⟨w,hw,rfl⟩:=List.mem_map.1 hu
  obtain⟨y,hy⟩:=Zr3 ⟨w,hw,h1⟩
  obtain⟨w',hw',h3,h4⟩:=Zb7 hy
  have e:=Zs2 h hw hw' h1 h3
  rw[hy,<-h4,<-e]
  exact congrArg some h2
theorem Zc3 {p:List Za}{c:List Rl}{i:Za}:∀n,n<=c.length->(i∈celS p c n↔∃k,k<n/\((hlB p (gi c (k:Int))=true/\i=⟨gi c (k:Int),gi c (k:Int),false,false⟩)\/(k+1<c.length/\spB p (gi c (k:Int)) (gi c ((k+1:Nat):Int))=true/\i=⟨gi c (k:Int),gi c ((k+1:Nat):Int),true,true⟩)))
 |0,_=>⟨(fun h=>by cases h),fun⟨k,h,_⟩=>by omega⟩
 |n+1,hn=>by
  have ih:=Zc3 (p:=p) (c:=c) (i:=i) n (by omega)
  have hI:i∈celI p c n (celS p c n)↔i∈celS p c n\/(hlB p (gi c (n:Int))=true/\i=⟨gi c (n:Int),gi c (n:Int),false,false⟩):=by
   unfold celI
   split
   ·rename_i h
    rw[Wv,Wo]
    exact⟨fun h1=>h1.imp id fun h2=>⟨h,h2⟩,fun h1=>h1.imp id (·.2)⟩
   ·rename_i h
    exact⟨.inl,fun h1=>h1.elim id fun h2=>(h h2.1).elim⟩
  have hJ:i∈celS p c (n+1)↔i∈celI p c n (celS p c n)\/(n+1<c.length/\spB p (gi c (n:Int)) (gi c ((n+1:Nat):Int))=true/\i=⟨gi c (n:Int),gi c ((n+1:Nat):Int),true,true⟩):=by
   show i∈celJ p c n (celI p c n (celS p c n))↔_
   unfold celJ
   split
   ·rename_i h
    rw[Wv,Wo]
    exact⟨fun h1=>h1.imp id fun h2=>⟨h.1,h.2,h2⟩,fun h1=>h1.imp id (·.2.2)⟩
   ·rename_i h
    exact⟨.inl,fun h1=>h1.elim id fun h2=>(h ⟨h2.1,h2.2.1⟩).elim⟩
  rw[hJ,hI,ih]
  constructor
  ·rintro((⟨k,h1,h2⟩|h)|h)
   ·exact⟨k,by omega,h2⟩
   ·exact⟨n,by omega, .inl h⟩
   ·exact⟨n,by omega, .inr h⟩
  ·rintro⟨k,h1,h2⟩
   rcases(by omega:k<n\/k=n) with h3|rfl
   ·exact .inl (.inl ⟨k,h3,h2⟩)
   ·rcases h2 with h2|h2
    ·exact .inl (.inr h2)
    ·exact .inr h2
theorem ZhH {c:List Rl}{z:Ri}(h0:ri (gi c ((0:Nat):Int))<=z):∀n,0<n->n<=c.length->∃k,k<n/\ri (gi c (k:Int))<=z/\(k+1<n->z<ri (gi c ((k+1:Nat):Int)))
 |0,h,_=>by omega
 |n+1,_,hn=>by
  by_cases hz:n=0
  ·subst hz;exact⟨0,by omega,h0,fun h=>by omega⟩
  obtain⟨k,h1,h2,h3⟩:=ZhH h0 n (by omega) (by omega)
  rcases(by omega:k+1<n\/k+1=n) with h4|h4
  ·exact⟨k,by omega,h2,fun _=>h3 h4⟩
  ·by_cases h5:ri (gi c (n:Int))<=z
   ·exact⟨n,by omega,h5,fun h=>by omega⟩
   ·exact⟨k,by omega,h2,fun _=>by rw[h4];grind⟩
theorem Znn {p:List Za}{c:List Rl}{n:Nat}(h:SrR n c)(hm:∀i∈p,i.From∈c/\i.To∈c){z:Ri}(hz:HoldP p z):∃i∈celS p c c.length,memI i z:=by
 have hz0:=hz
 obtain⟨j,hj,hz⟩:=hz
 obtain⟨m1,m2⟩:=hm j hj
 have f1:=h.fst m1
 have hlen:0<c.length:=List.length_pos_of_mem m1
 have hz1:ri j.From<=z/\z<=ri j.To:=by unfold memI at hz;grind
 obtain⟨k,h1,h2,h3⟩:=ZhH (c:=c) (z:=z) (by grind) c.length hlen (Wl _)
 by_cases e:ri (gi c (k:Int))=z
 ·refine⟨⟨gi c (k:Int),gi c (k:Int),false,false⟩,(Zc3 _ (Wl _)).2 ⟨k,h1, .inl ⟨ZfN.2 (by rw[e];exact hz0),rfl⟩⟩, .inr ⟨e,rfl⟩, .inr ⟨e.symm,rfl⟩⟩
 ·have hlt:ri (gi c (k:Int))<z:=by grind
  have hk:k+1<c.length:=by
   rcases(by omega:k+1<c.length\/k+1=c.length) with h4|h4
   ·exact h4
   ·have:=h.lst h4 m2
    grind
  have h5:=h3 hk
  exact⟨⟨gi c (k:Int),gi c ((k+1:Nat):Int),true,true⟩,(Zc3 _ (Wl _)).2 ⟨k,h1, .inr ⟨hk,(Zgg h hm hk hlt h5).2 hz0,rfl⟩⟩, .inl hlt, .inl h5⟩
theorem Zj7 {p:List Za}{c:List Rl}{n:Nat}(h:SrR n c){i j:Za}(hi:i∈celS p c c.length)(hj:j.From∈c/\j.To∈c){z z':Ri}(hz:memI i z)(hz':memI i z'):memI j z↔memI j z':=by
 obtain⟨k,hk,⟨_,rfl⟩|⟨hk1,_,rfl⟩⟩:=(Zc3 _ (Wl _)).1 hi
 ·unfold memI at hz hz'
  dsimp only at hz hz'
  have:z=z':=by grind
  rw[this]
 ·have e1:=h.mid hk1 hj.1
  have e2:=h.mid hk1 hj.2
  unfold memI at hz hz'⊢
  dsimp only at hz hz'
  grind
theorem Ztb {p:List Za}{c:List Rl}{n:Nat}(h:SrR n c)(hD:∀x∈c,Dsc x){i:Za}(hi:i∈celS p c c.length):memI i (ri (midR i)):=by
 obtain⟨k,hk,⟨_,rfl⟩|⟨hk1,_,rfl⟩⟩:=(Zc3 _ (Wl _)).1 hi
 ·have:=(ZjH (c:=⟨gi c (k:Int),gi c (k:Int),false,false⟩) (hD _ (Zs (by omega))) (hD _ (Zs (by omega)))).1 rfl
  rw[this]
  exact⟨.inr ⟨rfl,rfl⟩, .inr ⟨rfl,rfl⟩⟩
 ·have:=(ZjH (c:=⟨gi c (k:Int),gi c ((k+1:Nat):Int),true,true⟩) (hD _ (Zs (by omega))) (hD _ (Zs (by omega)))).2 (h.at (Nat.lt_succ_self k) hk1)
  exact⟨.inl this.1, .inl this.2⟩
end
section
theorem Zjy {R:Rl->Rl->Prop}(hR:∀x,¬R x x):∀{ys xs:List Rl},ys.Pairwise R->(∀y∈ys,y∈xs)->ys.length<=xs.length
 |[],_,_,_=>Wm _
 |y::ys,xs,h,k=>by
  obtain⟨h1,h2⟩:=List.pairwise_cons.1 h
  have ih:=Zjy hR (ys:=ys) (xs:=xs.erase y) h2 (fun z hz=>(List.mem_erase_of_ne (fun e=>hR y (by have:=h1 z hz;rwa [e] at this))).2 (k z (.tail _ hz)))
  have hm:=k y (.head _)
  have hl:=List.length_erase_of_mem hm
  have hp:=List.length_pos_of_mem hm
  rw[Wu]
  omega
theorem Zmm {l:List Za}(hl:l.length<=1024)(hk:∀i∈l,IvOk B28 i):(nrmS l).length<=2*l.length:=by
 have h1:=(ZeN hl hk).1
 have h2:∀i∈nrmS l,i.From∈enR l/\i.To∈enR l:=ZcV (Pr:=fun x=>x∈enR l) fun i hi=>⟨(ZcI hk).2 ⟨i,hi, .inl rfl⟩,(ZcI hk).2 ⟨i,hi, .inr rfl⟩⟩
 have h3:((nrmS l).map (·.From)).Pairwise (fun x y=>ri x<ri y):=by
  rw[List.pairwise_map]
  refine h1.p.imp_of_mem fun {i j} hi hj hb=>?_
  have hv:=h1.v i hi
  unfold bLt bdL bdF at hb hv
  dsimp only at hb hv
  rcases hb with hb|⟨hb,b1,b2⟩ <;> rcases hv with hv|⟨hv,b3,b4⟩
  ·grind
  ·grind
  ·grind
  ·rw[b4] at b1;cases b1
 have h4:=Zjy (fun x (h:ri x<ri x)=>by grind) h3 (xs:=enR l) (fun y hy=>by
  obtain⟨i,hi,rfl⟩:=List.mem_map.1 hy
  exact(h2 i hi).1)
 have h5:=ZbS l
 rw[Ws] at h4
 omega
theorem ZhU {a b:List PU}(ha:ShP a)(hb:ShP b):(nrmS (allL a b)).length<=1024:=by
 obtain⟨h1,h2⟩:=Zci ha hb
 have:=Zmm (l:=allL a b) (by omega) (fun i hi=>(h1 i hi).mono (by decide))
 omega
def DscL (l:List PU):Prop:=∀u∈l,Dsc u.In.From/\Dsc u.In.To
noncomputable def ctL (a b:List PU):List Rl:=cutR (nrmS (allL a b)) (enR (allL a b))
theorem Znl (a b:List PU):celL a b=celS (nrmS (allL a b)) (ctL a b) (ctL a b).length:=rfl
theorem ZeX {a b:List PU}{u:PU}(h:u∈a\/u∈b):u.In∈allL a b:=by
 unfold allL inL
 rw[Wv,Zag,Zag]
 exact h.imp (fun h=>List.mem_map_of_mem h) (fun h=>List.mem_map_of_mem h)
structure LfP (a b:List PU):Prop where
 sa:ShP a
 sb:ShP b
 da:DscL a
 db:DscL b
theorem LfP.bk {a b:List PU}(h:LfP a b):∀i∈allL a b,IvOk B28 i:=fun i hi=>((Zci h.sa h.sb).1 i hi).mono (by decide)
theorem LfP.dk {a b:List PU}(h:LfP a b):∀i∈allL a b,Dsc i.From/\Dsc i.To:=fun i hi=>by
 unfold allL inL at hi
 rw[Wv,Zag,Zag,List.mem_map,List.mem_map] at hi
 rcases hi with⟨u,h1,rfl⟩|⟨u,h1,rfl⟩
 ·exact h.da u h1
 ·exact h.db u h1
theorem LfP.sr {a b:List PU}(h:LfP a b):SrR (enR (allL a b)++enR (nrmS (allL a b))).length (ctL a b):=ZfK (ZfZ h.sa h.sb (ZhU h.sa h.sb))
theorem LfP.mem {a b:List PU}(h:LfP a b){x:Rl}:x∈ctL a b↔(∃i∈allL a b,x=i.From\/x=i.To)\/∃i∈nrmS (allL a b),x=i.From\/x=i.To:=by
 have hc:=ZfZ h.sa h.sb (ZhU h.sa h.sb)
 have hn:∀i∈nrmS (allL a b),IvOk B28 i:=ZfX h.bk
 have h2:=(Zb1 h.bk).b
 have h3:=(Zb1 hn).b
 unfold ctL cutR
 rw[ZeK (fun x hx=>(List.mem_append.1 hx).elim (h2 x) (h3 x)) _ (Wl _),List.take_length,Wv,ZcI h.bk,ZcI hn]
theorem LfP.pc {a b:List PU}(h:LfP a b):∀i∈nrmS (allL a b),i.From∈ctL a b/\i.To∈ctL a b:=fun i hi=>⟨h.mem.2 (.inr ⟨i,hi, .inl rfl⟩),h.mem.2 (.inr ⟨i,hi, .inr rfl⟩)⟩
theorem LfP.uc {a b:List PU}(h:LfP a b){u:PU}(hu:u∈a\/u∈b):u.In.From∈ctL a b/\u.In.To∈ctL a b:=⟨h.mem.2 (.inl ⟨_,ZeX hu, .inl rfl⟩),h.mem.2 (.inl ⟨_,ZeX hu, .inr rfl⟩)⟩
theorem LfP.dc {a b:List PU}(h:LfP a b):∀x∈ctL a b,Dsc x:=fun x hx=>by
 have hn:∀i∈nrmS (allL a b),Dsc i.From/\Dsc i.To:=ZcV h.dk
 rcases h.mem.1 hx with⟨i,h1,rfl|rfl⟩|⟨i,h1,rfl|rfl⟩
 ·exact(h.dk i h1).1
 ·exact(h.dk i h1).2
 ·exact(hn i h1).1
 ·exact(hn i h1).2
theorem LfP.at {a b:List PU}(h:LfP a b){i:Za}(hi:i∈celL a b){z:Ri}(hz:memI i z):atL a (midR i)=vlA a z/\atL b (midR i)=vlA b z:=by
 rw[Znl] at hi
 have hm:=Ztb h.sr h.dc hi
 rw[ZkB,ZkB]
 exact⟨Zea fun u hu=>Zj7 h.sr hi (h.uc (.inl hu)) hm hz,Zea fun u hu=>Zj7 h.sr hi (h.uc (.inr hu)) hm hz⟩
theorem LfP.cov {a b:List PU}(h:LfP a b){z:Ri}(hz:∃u,(u∈a\/u∈b)/\memI u.In z):∃i∈celL a b,memI i z:=by
 obtain⟨u,h1,h2⟩:=hz
 rw[Znl]
 exact Znn h.sr h.pc (((ZeN (by have:=(Zci h.sa h.sb).2;omega) h.bk).2 z).2 ⟨_,ZeX h1,h2⟩)
theorem ZnU (op:Int):lfO op none none=none:=by
 unfold lfO
 split
 ·rfl
 ·split
  ·rfl
  ·split
   ·rfl
   ·split <;> rfl
theorem Zj0 {op:Int}{a b:List PU}{cs:List Za}{u:PU}:∀n,n<=cs.length->(u∈lfS op a b cs n↔u.In∈cs.take n/\lfO op (atL a (midR u.In)) (atL b (midR u.In))=some u.Label)
 |0,_=>by simp[lfS]
 |n+1,hn=>by
  have ih:=Zj0 (op:=op) (a:=a) (b:=b) (cs:=cs) (u:=u) n (by omega)
  rw[lfS,Wn (by omega),<-Zr (by omega),Wv,Wo]
  generalize gi cs (n:Int)=c at*
  unfold lf1
  split
  ·rename_i x hx
   rw[Wv,Wo,ih]
   constructor
   ·rintro(h|rfl)
    ·exact⟨.inl h.1,h.2⟩
    ·exact⟨.inr rfl,hx⟩
   ·rintro⟨h1|h1,h2⟩
    ·exact .inl ⟨h1,h2⟩
    ·right
     rw[h1,hx] at h2
     obtain⟨I,x'⟩:=u
     injection h2 with h2
     dsimp only at h1 h2
     rw[h1,h2]
  ·rename_i hx
   rw[ih]
   constructor
   ·exact fun h=>⟨.inl h.1,h.2⟩
   ·rintro⟨h1|h1,h2⟩
    ·exact⟨h1,h2⟩
    ·rw[h1,hx] at h2;cases h2
theorem Zeh {op:Int}{a b:List PU}{u:PU}:u∈lfU op a b↔u.In∈celL a b/\lfO op (atL a (midR u.In)) (atL b (midR u.In))=some u.Label:=by
 unfold lfU
 rw[Zj0 _ (Wl _),List.take_length]
theorem Zjm {op:Int}{a b:List PU}{cs:List Za}:∀i,i<=cs.length->((lfS op a b cs i).map (·.In)).Sublist (cs.take i)
 |0,_=>Wk _
 |i+1,hi=>by
  have ih:=Zjm (op:=op) (a:=a) (b:=b) (cs:=cs) i (by omega)
  rw[lfS,Wn (by omega),<-Zr (by omega)]
  unfold lf1
  split
  ·rw[List.map_append]
   exact ih.append (Wj _)
  ·exact ih.trans (List.sublist_append_left _ _)
theorem Zrc {op:Int}{a b:List PU}(h:LfP a b){z:Ri}{x:Int}:Has ((lfU op a b).map absQ) z x↔lfO op (vlA a z) (vlA b z)=some x:=by
 constructor
 ·rintro⟨w,hw,h1,h2⟩
  obtain⟨u,hu,rfl⟩:=List.mem_map.1 hw
  obtain⟨h3,h4⟩:=Zeh.1 hu
  obtain⟨e1,e2⟩:=h.at h3 h1
  rw[<-e1,<-e2,h4]
  exact congrArg some h2
 ·intro e
  have hc:∃i∈celL a b,memI i z:=by
   refine h.cov ?_
   cases ea:vlA a z with
   |some y=>obtain⟨u,h1,h2,_⟩:=Zb7 ea;exact⟨u, .inl h1,h2⟩
   |none=>
    cases eb:vlA b z with
    |some y=>obtain⟨u,h1,h2,_⟩:=Zb7 eb;exact⟨u, .inr h1,h2⟩
    |none=>rw[ea,eb,ZnU] at e;cases e
  obtain⟨i,h1,h2⟩:=hc
  obtain⟨e1,e2⟩:=h.at h1 h2
  rw[<-e1,<-e2] at e
  exact⟨absQ ⟨i,x⟩,List.mem_map_of_mem (Zeh.2 ⟨h1,e⟩),h2,rfl⟩
theorem Zkz {op:Int}{a b:List PU}(h:LfP a b):NF ((lfR op a b).map absQ)/\(∀z x,Has ((lfR op a b).map absQ) z x↔lfO op (vlA a z) (vlA b z)=some x)/\∀u∈lfR op a b,IvOk 3 u.In:=by
 have hb:=ZfJ (p:=nrmS (allL a b)) h.sr _ (Wl _)
 have hs:=Zjm (op:=op) (a:=a) (b:=b) (cs:=celL a b) _ (Wl _)
 rw[List.take_length] at hs
 have hpw:(lfU op a b).Pairwise (fun u w=>bfI u.In w.In):=List.pairwise_map.1 (hb.pw.sublist hs)
 have hk:∀u∈lfU op a b,IvOk 3 u.In:=fun u hu=>Zku h.sa h.sb _ (Zeh.1 hu).1
 have hv:∀u∈lfU op a b,okI u.In:=fun u hu=>hb.ok _ (Zeh.1 hu).1
 have hj:=Zlj (l:=lfU op a b) (K:=3) hk hv hpw _ (Wl _)
 rw[List.take_length] at hj
 exact⟨hj.1.nf,fun z x=>(hj.1.has z x).trans (Zrc h),hj.2⟩
end
section
open Fv (va red)
noncomputable def mtF (a b:Za):Zj×Bool:=if cl a.From b.From<0 then(b.From,b.OpenFrom) else if cl a.From b.From=0 then(a.From,a.OpenFrom||b.OpenFrom) else(a.From,a.OpenFrom)
noncomputable def mtT (a b:Za):Zj×Bool:=if 0<cl a.To b.To then(b.To,b.OpenTo) else if cl a.To b.To=0 then(a.To,a.OpenTo||b.OpenTo) else(a.To,a.OpenTo)
noncomputable def mt (a b:Za):Za:=⟨(mtF a b).1,(mtT a b).1,(mtF a b).2,(mtT a b).2⟩
noncomputable def mtO (a b:Za):Bool:=decide (cl (mt a b).From (mt a b).To<0)||(decide (cl (mt a b).From (mt a b).To=0)&&(!(mt a b).OpenFrom&& !(mt a b).OpenTo))
theorem Zpq {K:Nat}{a b:Za}(ha:IvOk K a)(hb:IvOk K b):IvOk K (mt a b):=by
 unfold mt mtF mtT
 constructor <;> dsimp only
 ·split
  ·exact hb.a
  ·split <;> exact ha.a
 ·split
  ·exact hb.b
  ·split <;> exact ha.b
set_option maxHeartbeats 1000000 in
instance Zz0 (a b:Za):SpecC prog 141 [vIv a,vIv b] (.tuple #[vIv (mt a b), .bool (mtO a b)]) (IvOk BQ a/\IvOk BQ b):=⟨fun hp w=>by
 obtain⟨ha,hb⟩:=hp
 have hm:=Zpq ha hb
 refine Zb Tryz.func141 rfl Tryz.ntmps141 rfl ?_
 repeat(first|(refine wkB ?_;intros)|(refine wnM ?_ ?_;(focus(exact⟨ha.a,hb.a⟩));intros))
 rename_i b2 b3 b4 b6
 refine Z4 (S:=Unit) (fun _=>True) (fun _=>[(2, .pointer (some ⟨b2,0,none⟩)),(3, .pointer (some ⟨b3,0,none⟩)),(4, .pointer (some ⟨b4,0,none⟩)),(6, .pointer (some ⟨b6,0,none⟩))]) (fun _=>[⟨b6,Zi (Ze ⟨(mtF a b).1,a.To,(mtF a b).2,a.OpenTo⟩),37⟩,⟨b4,Zi (Ze Zad),37⟩,⟨b3,Zi (Ze b),37⟩,⟨b2,Zi (Ze a),37⟩]) ?_ (fun _ _=>?_)
 ·by_cases h1:cl a.From b.From<0
  ·rw[show mtF a b=(b.From,b.OpenFrom) by unfold mtF;rw[if_pos h1]]
   simp only[Wc h1]
   repeat(refine wkB ?_;intros)
   (refine ZB (.v [0,1,2,3,4] (.e1 5 (.v [6] (.e1 7 (.fin))))) ([⟨b3,Zi (Ze b),37⟩]) (h:=?_);refine wkX ?_)
   repeat(refine wkT ?_;intros)
   repeat(refine wkB ?_;intros)
   exact Zh () trivial sbB slB
  ·simp only[We h1]
   repeat(refine wkB ?_;intros)
   by_cases h2:cl a.From b.From=0
   ·rw[show mtF a b=(a.From,a.OpenFrom||b.OpenFrom) by unfold mtF;rw[if_neg h1,if_pos h2]]
    simp only[Wc h2]
    repeat(refine wkB ?_;intros)
    rcases h3:a.OpenFrom with _|_
    ·repeat(refine wkB ?_;intros)
     exact Zh () trivial sbB slB
    ·repeat(refine wkB ?_;intros)
     exact Zh () trivial sbB slB
   ·rw[show mtF a b=(a.From,a.OpenFrom) by unfold mtF;rw[if_neg h1,if_neg h2]]
    simp only[We h2]
    repeat(refine wkB ?_;intros)
    exact Zh () trivial sbB slB
 repeat(first|(refine wkB ?_;intros)|(refine wnM ?_ ?_;(focus(exact⟨ha.b,hb.b⟩));intros))
 refine Z4 (S:=Unit) (fun _=>True) (fun _=>[(4, .pointer (some ⟨b4,0,none⟩)),(6, .pointer (some ⟨b6,0,none⟩))]) (fun _=>[⟨b6,Zi (Ze (mt a b)),37⟩,⟨b4,Zi (Ze Zad),37⟩]) ?_ (fun _ _=>?_)
 ·by_cases h1:0<cl a.To b.To
  ·rw[show mt a b=⟨(mtF a b).1,b.To,(mtF a b).2,b.OpenTo⟩ by unfold mt mtT;rw[if_pos h1]]
   simp only[Wc h1]
   repeat(refine wkB ?_;intros)
   (refine ZB (.v [0,1,2,3,4] (.e1 5 (.v [6] (.e1 7 (.fin))))) ([⟨b3,Zi (Ze b),37⟩]) (h:=?_);refine wkX ?_)
   repeat(refine wkT ?_;intros)
   repeat(refine wkB ?_;intros)
   exact Zh () trivial sbB slB
  ·simp only[We h1]
   repeat(refine wkB ?_;intros)
   by_cases h2:cl a.To b.To=0
   ·rw[show mt a b=⟨(mtF a b).1,a.To,(mtF a b).2,a.OpenTo||b.OpenTo⟩ by unfold mt mtT;rw[if_neg h1,if_pos h2]]
    simp only[Wc h2]
    repeat(refine wkB ?_;intros)
    rcases h3:a.OpenTo with _|_
    ·repeat(refine wkB ?_;intros)
     exact Zh () trivial sbB slB
    ·repeat(refine wkB ?_;intros)
     exact Zh () trivial sbB slB
   ·rw[show mt a b=⟨(mtF a b).1,a.To,(mtF a b).2,a.OpenTo⟩ by unfold mt mtT;rw[if_neg h1,if_neg h2]]
    simp only[We h2]
    repeat(refine wkB ?_;intros)
    exact Zh () trivial sbB slB
 repeat(first|(refine wkB ?_;intros)|(refine wnM ?_ ?_;(focus(exact⟨hm.a,hm.b⟩));intros))
 unfold mtO
 generalize mt a b=m at*
 (refine ZB (.v [0,1,2,3,4,5,6,7,8,9,10,11,12,13,14,15,16] (.e1 17 (.e1 18 (.fin)))) ([⟨b6,Zi (Ze m),37⟩]) (h:=?_);refine wkX ?_)
 repeat(refine wkT ?_;intros)
 rcases h1:decide (cl m.From m.To<0) with _|_
 ·repeat(refine wkT ?_;intros)
  rcases h2:decide (cl m.From m.To=0) with _|_
  ·repeat(refine wkT ?_;intros)
   repeat(refine wkB ?_;intros)
   exact ZF rfl (Zae rfl) (Zw rfl) (fun w hw=>ZP hw)
  ·repeat(refine wkT ?_;intros)
   rcases h3:m.OpenFrom with _|_
   ·repeat(refine wkT ?_;intros)
    repeat(refine wkB ?_;intros)
    exact ZF rfl (Zae rfl) (Zw rfl) (fun w hw=>ZP hw)
   ·repeat(refine wkT ?_;intros)
    repeat(refine wkB ?_;intros)
    exact ZF rfl (Zae rfl) (Zw rfl) (fun w hw=>ZP hw)
 ·repeat(refine wkT ?_;intros)
  repeat(refine wkB ?_;intros)
  exact ZF rfl (Zae rfl) (Zw rfl) (fun w hw=>ZP hw)⟩
noncomputable def enF (a b:Za):Bool:=decide (cl a.To b.To<0)||(decide (cl a.To b.To=0)&&(a.OpenTo|| !b.OpenTo))
instance ZsD (a b:Za):SpecC prog 183 [vIv a,vIv b] (.bool (enF a b)) (IvOk BQ a/\IvOk BQ b):=⟨fun hp w=>by
 obtain⟨ha,hb⟩:=hp
 refine Zb Tryz.func183 rfl Tryz.ntmps183 rfl ?_
 repeat(first|(refine wkB ?_;intros)|(refine wnM ?_ ?_;(focus(exact⟨ha.b,hb.b⟩));intros))
 unfold enF
 generalize cl a.To b.To=n at*
 by_cases h1:n<0
 ·simp only[Wc h1]
  repeat(refine wkB ?_;intros)
  exact rtT rfl rfl
 ·simp only[We h1]
  repeat(refine wkB ?_;intros)
  by_cases h2:n=0
  ·simp only[Wc h2]
   repeat(refine wkB ?_;intros)
   obtain⟨fa,ta,oa,ca⟩:=a
   simp only at h1 h2⊢
   cases ca
   ·repeat(refine wkB ?_;intros)
    exact rtT rfl rfl
   ·repeat(refine wkB ?_;intros)
    exact rtT rfl rfl
  ·simp only[We h2]
   repeat(refine wkB ?_;intros)
   exact rtT rfl rfl⟩
end
section
abbrev UB :=ZH
abbrev rB :=ZaB
noncomputable def ref:List UL->List UL->List UB
 |[],_=>[]
 |_::_,[]=>[]
 |x::a,y::b=>(if mtO x.In y.In=true then [⟨mt x.In y.In,x.F,y.F⟩] else [])++(if enF x.In y.In=true then ref a (y::b) else ref (x::a) b)
termination_by a b=>a.length+b.length
theorem ZlM (a:List UL):ref a []=[]:=by cases a <;> rw[ref]
theorem ZnR {a b:List UL}{i k:Nat}(hi:i<a.length)(hk:k<b.length):ref (a.drop i) (b.drop k)=(if mtO (gi a (i:Int)).In (gi b (k:Int)).In=true then [⟨mt (gi a (i:Int)).In (gi b (k:Int)).In,(gi a (i:Int)).F,(gi b (k:Int)).F⟩] else [])++(if enF (gi a (i:Int)).In (gi b (k:Int)).In=true then ref (a.drop (i+1)) (b.drop k) else ref (a.drop i) (b.drop (k+1))):=by
 rw[Zr hi,Zr hk,List.drop_eq_getElem_cons hi,List.drop_eq_getElem_cons hk,ref]
theorem Zch :∀(a b:List UL),(ref a b).length<=a.length+b.length
 |[],_=>by rw[ref];exact Wm _
 |_::_,[]=>by rw[ref];exact Wm _
 |x::a,y::b=>by
  have h1:=Zch a (y::b)
  have h2:=Zch (x::a) b
  rw[ref,Wp]
  simp only[Wu] at h1 h2⊢
  split <;> split <;> simp only[Wu,Wx] <;> omega
termination_by a b=>a.length+b.length
set_option maxHeartbeats 8000000 in
theorem ZiY (v v2:Value)(a b:List UL)(w:World)(hv:ArgS w v rU a)(hd:ArgS w v2 rU b)(hl:a.length<=1024)(hl2:b.length<=1024)(hok:∀u∈a,IvOk BQ u.In)(hok2:∀u∈b,IvOk BQ u.In):
  Calls prog 144 [v,v2].toArray w (RetM (SlS rB 22 (ref a b)) (fun s=>vSl s) (fun s=>mS 184 s) w):=by
 refine Zb Tryz.func144 rfl Tryz.ntmps144 rfl ?_
 obtain⟨p,cp,rfl⟩:=hv.form
 obtain⟨p2,cp2,rfl⟩:=hd.form
 repeat(refine wkB ?_;intros)
 refine Zm (S:=(i:Nat)×(k:Nat)×(o:List UB)×SlS rB 22 o) (fun s=>s.1<=a.length/\s.2.1<=b.length/\s.2.2.1++ref (a.drop s.1) (b.drop s.2.1)=ref a b/\s.2.2.1.length<=s.1+s.2.1) (fun s=>[(0, .slice p a.length cp),(1, .slice p2 b.length cp2),(5,vSl s.2.2.2),(6, .int .i64 (s.1:Nat)),(7, .int .i64 (s.2.1:Nat))]) (fun s=>mS 184 s.2.2.2) (fun s=>a.length-s.1+(b.length-s.2.1)) ⟨0,0,[],SlS.no⟩ ⟨Wm _,Wm _,rfl,Wl _⟩ sbB slB (fun s hm=>?_)
 obtain⟨i,k,o,s⟩:=s
 obtain⟨hi,hk,ho,hn⟩:=hm
 dsimp only at hi hk ho hn⊢
 repeat(refine wkB ?_;intros)
 by_cases c1:i<a.length
 ·have e1:decide ((i:Int)<(a.length:Int))=true:=Wc (by omega)
  simp only[e1]
  repeat(refine wkB ?_;intros)
  by_cases c2:k<b.length
  ·have e2:decide ((k:Int)<(b.length:Int))=true:=Wc (by omega)
   simp only[e2]
   refine Zk rfl (fun _=>?_) (fun h=>by cases h)
   have hne:a≠[]:=fun h0=>by rw[h0] at c1;simp at c1
   have hne2:b≠[]:=fun h0=>by rw[h0] at c2;simp at c2
   obtain⟨bw,ow,cw,hvw,hcw,hrow⟩:=hv.blk (k:=20) hne []
   injection hvw with q1 q2 q3
   subst q1
   subst q3
   have hrow':∀L,RowC w L bw ow UL rU a:=fun L=>⟨fun w' hw'=>hrow.out w' (hw'.sub (Wk _))⟩
   obtain⟨bd,od,cd,hvd,hcd,hrowd⟩:=hd.blk (k:=20) hne2 []
   injection hvd with q1 q2 q3
   subst q1
   subst q3
   have hrowd':∀L,RowC w L bd od UL rU b:=fun L=>⟨fun w' hw'=>hrowd.out w' (hw'.sub (Wk _))⟩
   have ho1:=hok _ (Zs (i:=(i:Int)) (xs:=a) (by omega))
   have ho2:=hok2 _ (Zs (i:=(k:Int)) (xs:=b) (by omega))
   rw[ZnR c1 c2] at ho
   repeat(refine wkB ?_;intros)
   (refine Zb6 [0,1,2,3,4,5,6,7,8,9,10,11,12,13] [14] [15,16] (([]:List Blk)) (h:=?_);refine wkI ?_)
   (repeat(first|refine wkH ?_|(refine tC rfl rfl ?_ ?_;focus(exact⟨ho1,ho2⟩))))
   repeat(refine wkT ?_;intros)
   repeat(refine wkB ?_;intros)
   rename_i b8
   rcases hmo:mtO (gi a (i:Int)).In (gi b (k:Int)).In with _|_
   ·rw[hmo,if_neg (by decide)] at ho
    repeat(refine wkB ?_;intros)
    (refine ZB (.v [0,1,2,3,4,5,6,7,8,9,10] (.fin)) (([]:List Blk)) (h:=?_);refine wkX ?_)
    (repeat(first|refine wkH ?_|(refine tC rfl rfl ?_ ?_;focus(exact⟨ho1,ho2⟩))))
    repeat(refine wkT ?_;intros)
    repeat(refine wkB ?_;intros)
    rcases hef:enF (gi a (i:Int)).In (gi b (k:Int)).In with _|_
    ·rw[hef,if_neg (by decide),Wg] at ho
     repeat(first|(refine wkB ?_;intros)|(refine wnM ?_ ?_;(focus(exact⟨by omega,by omega⟩));intros))
     exact Zc ⟨i,k+1,_,s⟩ ⟨hi,c2,ho,by dsimp only;omega⟩ sbB suB (by show a.length-i+(b.length-(k+1))<a.length-i+(b.length-k);omega)
    ·rw[hef,if_pos rfl,Wg] at ho
     repeat(first|(refine wkB ?_;intros)|(refine wnM ?_ ?_;(focus(exact⟨by omega,by omega⟩));intros))
     exact Zc ⟨i+1,k,_,s⟩ ⟨c1,hk,ho,by dsimp only;omega⟩ sbB suB (by show a.length-(i+1)+(b.length-k)<a.length-i+(b.length-k);omega)
   ·rw[hmo,if_pos rfl] at ho
    repeat(refine wkB ?_;intros)
    (refine ZB (.v [0,1,2,3,4,5,6,7,8,9,10,11,12] (.e1 13 (.e1 14 (.e1 15 (.fin))))) ([⟨b8,rI (mt (gi a (i:Int)).In (gi b (k:Int)).In),37⟩]) (h:=?_);refine wkX ?_)
    (repeat(refine wkH ?_))
    repeat(refine wkT ?_;intros)
    refine eU (k:=22) (enc:=rB) (s:=s) rfl rfl ?_ ?_ ?_ ?_
    ·rfl
    ·rfl
    ·exact⟨by decide,by omega,by omega⟩
    intro s'
    repeat(refine wkT ?_;intros)
    repeat(refine wkB ?_;intros)
    repeat(refine wkB ?_;intros)
    (refine ZB (.v [0,1,2,3,4,5,6,7,8,9,10] (.fin)) (([]:List Blk)) (h:=?_);refine wkX ?_)
    (repeat(first|refine wkH ?_|(refine tC rfl rfl ?_ ?_;focus(exact⟨ho1,ho2⟩))))
    repeat(refine wkT ?_;intros)
    repeat(refine wkB ?_;intros)
    rcases hef:enF (gi a (i:Int)).In (gi b (k:Int)).In with _|_
    ·rw[hef,if_neg (by decide),<-List.append_assoc] at ho
     repeat(first|(refine wkB ?_;intros)|(refine wnM ?_ ?_;(focus(exact⟨by omega,by omega⟩));intros))
     exact Zc ⟨i,k+1,_,s'⟩ ⟨hi,c2,ho,by dsimp only;rw[Wp,List.length_singleton];omega⟩ sbB suB (by show a.length-i+(b.length-(k+1))<a.length-i+(b.length-k);omega)
    ·rw[hef,if_pos rfl,<-List.append_assoc] at ho
     repeat(first|(refine wkB ?_;intros)|(refine wnM ?_ ?_;(focus(exact⟨by omega,by omega⟩));intros))
     exact Zc ⟨i+1,k,_,s'⟩ ⟨c1,hk,ho,by dsimp only;rw[Wp,List.length_singleton];omega⟩ sbB suB (by show a.length-(i+1)+(b.length-k)<a.length-i+(b.length-k);omega)
  ·have e2:decide ((k:Int)<(b.length:Int))=false:=We (by omega)
   simp only[e2]
   have hz:ref (a.drop i) (b.drop k)=[]:=by rw[List.drop_eq_nil_of_le (show b.length<=k by omega),ZlM]
   rw[hz,Wh] at ho
   subst ho
   refine Zk rfl (fun h=>by cases h) (fun _=>?_)
   repeat(refine wkB ?_;intros)
   exact Zo rfl rfl (fun w hw=>⟨s,rfl,hw.sub suB⟩)
 ·have e1:decide ((i:Int)<(a.length:Int))=false:=We (by omega)
  simp only[e1]
  have hz:ref (a.drop i) (b.drop k)=[]:=by rw[List.drop_eq_nil_of_le (show a.length<=i by omega),ref]
  rw[hz,Wh] at ho
  subst ho
  repeat(refine wkB ?_;intros)
  exact Zo rfl rfl (fun w hw=>⟨s,rfl,hw.sub suB⟩)
instance ZvL (w0:World)(L:List Blk)(v v2:Value)(a b:List UL)[h1:LstC w0 L v UL rU a][h2:LstC w0 L v2 UL rU b]:SpecR prog w0 L 144 [v,v2] (SlS rB 22 (ref a b)) (fun s=>vSl s) (fun s=>mS 184 s) ((a.length<=1024/\b.length<=1024)/\(∀u∈a,IvOk BQ u.In)/\∀u∈b,IvOk BQ u.In):=⟨fun hp w hw=>ZiY v v2 a b w (h1.out w hw) (h2.out w hw) hp.1.1 hp.1.2 hp.2.1 hp.2.2⟩
end
end Go.Vt
