/- For any up to 8 stretches, Normal returns the normal form of their units in any order, if no two have an instant in common, and ErrOverlap otherwise. Conditions: none. (part 26 of 28.) Conditions: those that each statement names. -/
import Derived.Test.YtcgkgdgpdpihmaaGreatDoorProg
import Derived.Test.YtcgkgdgpdpihmaaGreatDoorKZ20
import Derived.Test.YtcgkgdgpdpihmaaGreatDoorKZ22
import Derived.Test.YtcgkgdgpdpihmaaGreatDoorKZ23
import Derived.Test.YtcgkgdgpdpihmaaGreatDoorKZ24
import Derived.Test.YtcgkgdgpdpihmaaGreatDoorKZ25
set_option linter.unusedSimpArgs false
set_option linter.unusedVariables false
set_option maxHeartbeats 2000000
set_option maxRecDepth 100000
namespace Go.Vt
open Go.RowKit Go.Proofs
open Go.Proofs.Tryz (prog)
section
def wl (n:Int):Rl:=rl (n:Rat)
theorem ZsT {a b:Int}:ri (wl a)<ri (wl b)↔a<b:=by
 unfold wl
 rw[ZsW]
 exact Rat.intCast_lt_intCast
theorem ZcE {n:Int}(h:M (n:Rat)<=1):RlB KR (wl n):=(ZrQ h (Wl _)).mono (by decide)
def kI0 :Za:=⟨wl 0,wl 4,false,true⟩
def kI1 :Za:=⟨wl 4,wl 6,false,false⟩
def kI2 :Za:=⟨wl 6,wl 9,true,false⟩
def exU :List PU:=[⟨kI0,1⟩,⟨kI1,2⟩,⟨kI2,1⟩]
def exT :List UL:=[⟨kI0,1⟩,⟨kI1,2⟩,⟨kI2,1⟩]
theorem ZrU :mpN toU exU exU.length=exT:=rfl
theorem ZcV :IvOk KR kI0/\IvOk KR kI1/\IvOk KR kI2:=⟨⟨ZcE (by decide),ZcE (by decide)⟩,⟨ZcE (by decide),ZcE (by decide)⟩,⟨ZcE (by decide),ZcE (by decide)⟩⟩
theorem kx :ri (wl 0)<ri (wl 2)/\ri (wl 2)<ri (wl 3)/\ri (wl 3)<ri (wl 4)/\ri (wl 4)<ri (wl 6)/\ri (wl 6)<ri (wl 9):=by
 simp only[ZsT]
 decide
theorem ZqP :Cut exT (wl 4) 0:=by
 obtain⟨h1,h2,h3,h4,h5⟩:=kx
 refine⟨Wm _,fun j hj=>by omega,fun j _ hj=>?_⟩
 have hj':j<3:=hj
 rcases(by omega:j=0\/j=1\/j=2) with rfl|rfl|rfl
 ·show ri (wl 4)<=ri (wl 4);grind
 ·show ri (wl 4)<=ri (wl 6);grind
 ·show ri (wl 4)<=ri (wl 9);grind
theorem Zs2 :AtR exT (ri (wl 4)) (some 2):=by
 obtain⟨h1,h2,h3,h4,h5⟩:=kx
 refine⟨.inl ⟨1,by decide, ?_,fun j hj=>?_,fun j hj=>?_,rfl⟩⟩
 ·show(ri (wl 4)<ri (wl 4)\/(ri (wl 4)=ri (wl 4)/\false=false))/\(ri (wl 4)<ri (wl 6)\/_)
  exact⟨.inr ⟨rfl,rfl⟩, .inl h4⟩
 ·obtain rfl:j=0:=by omega
  rintro⟨-,h|h⟩
  ·exact absurd (show ri (wl 4)<ri (wl 4) from h) (by grind)
  ·cases (show true=false from h.2)
 ·rcases(by omega:j=0\/j=1) with rfl|rfl
  ·show ri (wl 0)<=ri (wl 4);grind
  ·show ri (wl 4)<=ri (wl 4);grind
theorem Zuq :flL exU 1 2 2=[wl 4]:=by decide
theorem Zt8 :cmI' (lbL exU)=[1,2,1]:=by decide
theorem ZoT :whL exU 1 exU.length=[kI0,kI2]:=by decide
theorem Zjj {i:Za}(h:IvOk KR i):BdOk (bdF i)/\BdOk (bdL i):=⟨⟨h.a⟩,⟨h.b⟩⟩
theorem Zth :SwOk [kI0,kI2] []:=⟨by decide,fun i hi=>by
 simp only[Ww,List.not_mem_nil,or_false] at hi
 rcases hi with rfl|rfl
 ·exact Zjj ZcV.1
 ·exact Zjj ZcV.2.2,fun i hi=>by cases hi⟩
theorem ZlC :Sep [kI0,kI2]:=by
 obtain⟨h1,h2,h3,h4,h5⟩:=kx
 refine⟨List.pairwise_cons.2 ⟨fun j hj=>?_,List.pairwise_singleton _ _⟩,fun i hi=>?_⟩
 ·rw[Wo] at hj
  rw[hj]
  exact .inl h4
 ·simp only[Ww,List.not_mem_nil,or_false] at hi
  rcases hi with rfl|rfl
  ·exact .inl (show ri (wl 0)<ri (wl 4) by grind)
  ·exact .inl h5
theorem ivEq {i j:Za}(hi:IvOk KR i)(hj:IvOk KR j)(h:absI i=absI j):i=j:=by
 obtain⟨a,b,c,d⟩:=i
 obtain⟨a',b',c',d'⟩:=j
 injection h with e1 e2 e3 e4
 have e1':=(Zcm hi.a.o hj.a.o).1 e1
 have e2':=(Zcm hi.b.o hj.b.o).1 e2
 simp only at e1' e2' e3 e4
 rw[e1',e2',e3,e4]
theorem sepEq {l m:List Za}(hl:Sep l)(hm:Sep m)(kl:∀i∈l,IvOk KR i)(km:∀i∈m,IvOk KR i)(H:∀t,HoldP l t↔HoldP m t):l=m:=by
 have h:=hl.uniq hm H
 have hlen:l.length=m.length:=by
  have:=congrArg List.length h
  simpa using this
 refine List.ext_getElem hlen fun j h1 h2=>ivEq (kl _ (List.getElem_mem h1)) (km _ (List.getElem_mem h2)) ?_
 have:=congrArg (fun z:List (GU Ri Unit)=>z[j]?) h
 simpa [List.getElem?_eq_getElem h1,List.getElem?_eq_getElem h2] using this
theorem Zpo :swpR kpU [kI0,kI2] []=[kI0,kI2]:=by
 have hle:∀i∈[kI0,kI2],bLe (bdF i) (bdL i):=fun i hi=>(ZlC.v i hi).le
 obtain⟨h1,h2,h3⟩:=ZnP (kp:=kpU) rfl hle (fun i (hi:i∈[])=>by cases hi)
 have hk:∀i∈[kI0,kI2],IvOk KR i:=fun i hi=>by
  simp only[Ww,List.not_mem_nil,or_false] at hi
  rcases hi with rfl|rfl
  ·exact ZcV.1
  ·exact ZcV.2.2
 have hb:=ZpG (Pb:=fun b=>RlB KR b.at_) kpU (is:=[kI0,kI2]) (js:=[]) (fun i hi=>⟨(hk i hi).a,(hk i hi).b⟩) (fun i hi=>by cases hi)
 refine sepEq ⟨h2,h3⟩ ZlC (fun i hi=>⟨(hb i hi).1,(hb i hi).2⟩) hk (fun t=>?_)
 unfold HoldP
 rw[h1 t]
 simp[kpU]
def nmU :List PU:=[⟨⟨wl 2,wl 3,true,true⟩,5⟩,⟨⟨wl 0,wl 2,false,false⟩,5⟩]
def nmT :List UL:=[⟨⟨wl 2,wl 3,true,true⟩,5⟩,⟨⟨wl 0,wl 2,false,false⟩,5⟩]
theorem ZoL :∀u∈nmT,UIn u:=fun u hu=>by
 simp only[nmT,Ww,List.not_mem_nil,or_false] at hu
 rcases hu with rfl|rfl
 ·exact⟨⟨ZcE (by decide),ZcE (by decide)⟩⟩
 ·exact⟨⟨ZcE (by decide),ZcE (by decide)⟩⟩
theorem ZlG :UVal nmT:=⟨ZoL,fun u hu=>by
 obtain⟨h1,h2,h3,h4,h5⟩:=kx
 simp only[nmT,Ww,List.not_mem_nil,or_false] at hu
 rcases hu with rfl|rfl
 ·exact .inl h2
 ·exact .inl h1⟩
theorem Zlh :(nmT.map absU).Pairwise Dis:=by
 refine List.pairwise_cons.2 ⟨fun j hj=>?_,List.pairwise_singleton _ _⟩
 rw[List.map_cons,List.map_nil,Wo] at hj
 subst hj
 rintro t ⟨⟨h1, -⟩, -,h2⟩
 have h1':ri (wl 2)<t:=h1.elim id (fun h=>by cases (show true=false from h.2))
 have h2':t<ri (wl 2)\/t=ri (wl 2):=h2.imp id (·.1)
 grind
theorem Zr1 :(nrmR nmT).map absU=[⟨ri (wl 0),ri (wl 3),false,true,5⟩]:=by
 obtain⟨h1,h2,h3,h4,h5⟩:=kx
 obtain⟨k1,k2⟩:=Zfp ZlG Zlh
 refine k1.uniq (NF.one (.inl (show ri (wl 0)<ri (wl 3) by grind)) (fun h=>absurd (show ri (wl 0)=ri (wl 3) from h) (by grind))) (fun t v=>?_)
 rw[k2 t v]
 show Has [absU _,absU _] t v↔_
 rw[Zaf,Zcu,Zcu]
 show((((ri (wl 2)<t\/(ri (wl 2)=t/\true=false))/\(t<ri (wl 3)\/(t=ri (wl 3)/\true=false)))/\(5:Int)=v)\/(((ri (wl 0)<t\/(ri (wl 0)=t/\false=false))/\(t<ri (wl 2)\/(t=ri (wl 2)/\false=false)))/\(5:Int)=v))↔((ri (wl 0)<t\/(ri (wl 0)=t/\false=false))/\(t<ri (wl 3)\/(t=ri (wl 3)/\true=false)))/\(5:Int)=v
 grind
theorem ZrZ :nrmE nmT=0:=(Zff ZlG).2 Zlh
theorem Zrh :∃u:PU,mNorm nmU=[u]/\u.In.OpenTo=true:=by
 have h:=Zr1
 have hn:mNorm nmU=mpN ofU (nrmR nmT) (nrmR nmT).length:=rfl
 rw[hn]
 generalize nrmR nmT=l at h
 have hlen:l.length=1:=by
  have:=congrArg List.length h
  simpa using this
 obtain⟨u,rfl⟩:=List.length_eq_one_iff.1 hlen
 have h1:absU u=_:=(List.cons.inj h).1
 exact⟨ofU u,rfl,congrArg GU.ob h1⟩
theorem Zpi :PFine exU:=by
 obtain⟨h1,h2,h3,h4,h5⟩:=kx
 have a4:ri (wl 0)<ri (wl 4):=by grind
 refine⟨⟨fun u hu=>?_,fun u _ _=>rfl, ?_⟩,fun u hu=>?_,fun u hu=>?_,by decide⟩
 ·simp only[exU,List.map_cons,List.map_nil,Ww,List.not_mem_nil,or_false] at hu
  rcases hu with rfl|rfl|rfl
  ·exact .inl a4
  ·exact .inl h4
  ·exact .inl h5
 ·refine List.pairwise_cons.2 ⟨fun j hj=>?_,List.pairwise_cons.2 ⟨fun j hj=>?_,List.pairwise_singleton _ _⟩⟩
  ·simp only[List.map_cons,List.map_nil,Ww,List.not_mem_nil,or_false] at hj
   rcases hj with rfl|rfl
   ·exact⟨.inr ⟨rfl, .inl rfl⟩,fun _ _ _=>(by decide:(1:Int)≠2),fun _ _=>(by decide:(1:Int)≠2),fun _ _=>(by decide:(1:Int)≠2)⟩
   ·exact⟨.inl h4,fun h=>absurd (show ri (wl 4)=ri (wl 6) from h) (by grind),fun h=>absurd (show ri (wl 4)=ri (wl 6) from h) (by grind),fun h=>absurd (show ri (wl 4)=ri (wl 6) from h) (by grind)⟩
  ·simp only[List.map_cons,List.map_nil,Ww,List.not_mem_nil,or_false] at hj
   subst hj
   exact⟨.inr ⟨rfl, .inr rfl⟩,fun _ _ _=>(by decide:(2:Int)≠1),fun _ _=>(by decide:(2:Int)≠1),fun _ _=>(by decide:(2:Int)≠1)⟩
 ·simp only[exU,Ww,List.not_mem_nil,or_false] at hu
  rcases hu with rfl|rfl|rfl
  ·exact⟨ZcV.1⟩
  ·exact⟨ZcV.2.1⟩
  ·exact⟨ZcV.2.2⟩
 ·simp only[exU,Ww,List.not_mem_nil,or_false] at hu
  rcases hu with rfl|rfl|rfl <;> exact⟨rfl,rfl⟩
end
section
theorem divInt1 (n:Int):Rat.divInt n 1=(n:Rat):=by
 rw[Rat.divInt_eq_div]
 have h:((1:Int):Rat)=1:=rfl
 rw[h]
 grind
instance Zu7 (n:Int):SpecC prog 61 [.int .i64 n] (vR (wl n)) (-9223372036854775808<=n/\n<=9223372036854775807):=⟨fun hp w=>by
 have p1:(1:Int)≠0/\(-9223372036854775808<=n/\n<=9223372036854775807)/\(-9223372036854775808<=(1:Int)/\(1:Int)<=9223372036854775807):=by omega
 refine Zb Tryz.func61 rfl Tryz.ntmps61 rfl ?_
 repeat(first|(refine wkB ?_;intros)|(refine wnM ?_ ?_;(focus(exact p1));intros))
 simp only[divInt1]
 exact rtC rfl rfl⟩
set_option maxHeartbeats 8000000 in
theorem Zh9 (w:World):Calls prog 60 [].toArray w (RetM (SlS rP 21 exU) (fun s=>vSl s) (fun s=>mS 46 s) w):=by
 refine Zb Tryz.func60 rfl Tryz.ntmps60 rfl ?_
 repeat(first|(refine wkB ?_;intros)|(refine wnM ?_ ?_;(focus(decide));intros))
 rename_i b
 exact ZA rfl rfl (fun w hw=>⟨SlS.at_ b 3 [] ⟨Wl _,rfl⟩ (by decide),rfl,hw⟩)
instance Zt4 (w0:World)(L:List Blk):SpecR prog w0 L 60 [] (SlS rP 21 exU) (fun s=>vSl s) (fun s=>mS 46 s) True:=⟨fun _ w _=>Zh9 w⟩
instance lst2 {α:Type}{enc:α->Array Value}{k:Nat}{x y:α}{sp:List Value}[he:EncC enc k](w0:World)(L:List Blk)(b c:Nat)(T:TypeId)[h:AtC w0 L b (row enc [x,y] sp) T]:LstC w0 L (.slice (some ⟨b,0,none⟩) 2 (c+2)) α enc [x,y]:=⟨fun w hw=>by
 obtain⟨fz,hb⟩:=h.out w hw
 exact ZbF (c:=c+2) hb (Nat.le_add_left 2 c)⟩
set_option maxHeartbeats 16000000 in
theorem ZhP (w:World):Calls prog 13 [].toArray w (Ret (.bool true) w):=by
 have i1:CtC (mpN toU exU exU.length) (wl 4) 0:=⟨ZqP⟩
 have i2:AtC' (mpN toU exU exU.length) (ri (wl 4)) (some 2):=⟨Zs2⟩
 have hk:=ZcV
 have p1:exU.length<=1048576/\RlB KR (wl 4)/\∀u∈mpN toU exU exU.length,IvOk BQ u.In:=⟨by decide,ZcE (by decide),fun u hu=>by
  rw[ZrU] at hu
  simp only[exT,Ww,List.not_mem_nil,or_false] at hu
  rcases hu with rfl|rfl|rfl
  ·exact hk.1
  ·exact hk.2.1
  ·exact hk.2.2⟩
 have p2:exU.length<=1048576/\SwOk (whL exU 1 exU.length) []:=⟨by decide,by rw[ZoT];exact Zth⟩
 have p3:exU.length<=1048576:=by decide
 have p4:NrP (mpN toU nmU nmU.length)/\∀u∈mpN toU nmU nmU.length,UIn u:=⟨.inl (by rw[Zag];decide),ZoL⟩
 have p5:=Zpi
 refine Zb Tryz.func13 rfl Tryz.ntmps13 rfl ?_
 repeat(first|(refine wkB ?_;intros)|(refine wnM ?_ ?_;(focus(first|exact p1|exact p2|exact p3|exact p4|exact p5|decide));intros))
 rename_i sx sw sf bn sn
 obtain⟨u,hu,ho⟩:=Zrh
 have hwh:swpR kpU (whL exU 1 exU.length) []=[kI0,kI2]:=by rw[ZoT,Zpo]
 obtain⟨sn',f1,f2⟩:=SlS.turn 46 hu sn
 obtain⟨sw',f3,f4⟩:=SlS.turn 37 hwh sw
 obtain⟨sf',f5,f6⟩:=SlS.turn 35 (show flL exU 1 2 (exU.length-1)=[wl 4] from Zuq) sf
 have he:nrmE (mpN toU nmU nmU.length)=0:=ZrZ
 rw[show vSl sn=vSl sn' from f1.symm,show mS 46 sn=mS 46 sn' from f2.symm]
 simp only[show nrmE (mpN toU [⟨⟨wl 2,wl 3,true,true⟩,5⟩,⟨⟨Z9,wl 2,false,false⟩,5⟩] ([⟨⟨wl 2,wl 3,true,true⟩,5⟩,⟨⟨Z9,wl 2,false,false⟩,5⟩]:List PU).length)=0 from ZrZ,<-f3,<-f4,<-f5,<-f6,Option.getD_some,Option.isSome_some]
 rcases sx.cases 46 with⟨y0,y1,y2⟩|⟨bx,cx,spx,hcx,y1,y2,yne⟩
 ·cases y0
 rcases sw'.cases 37 with⟨z0,z1,z2⟩|⟨bw,cw,spw,hcw,z1,z2,zne⟩
 ·cases z0
 rcases sf'.cases 35 with⟨x0,x1,x2⟩|⟨bf,cf,spf,hcf,x1,x2,xne⟩
 ·cases x0
 rcases sn'.cases 46 with⟨v0,v1,v2⟩|⟨bm,cm,spm,hcm,v1,v2,vne⟩
 ·cases v0
 simp only[y1,y2,z1,z2,x1,x2,v1,v2,Wf,Wg]
 have hLx:∀L [h:AtC w L bx (row rP exU spx) 46],LstC w L (.slice (some ⟨bx,0,none⟩) exU.length cx) PU rP exU:=fun L h=>⟨fun w' hw'=>by
  obtain⟨fz,hb⟩:=h.out w' hw'
  exact ZbF (c:=cx) hb hcx.1⟩
 have g1:(1:Int)<([kI0,kI2].length:Nat):=by decide
 have g2:(2:Int)<(exU.length:Nat):=by decide
 have g3:(0:Int)<([wl 4].length:Nat):=by decide
 have g4:(0:Int)<([u].length:Nat):=by simp
 have d1:((([kI0,kI2]:List Za).length:Nat):Int)=2:=rfl
 have d2:gi [kI0,kI2] 1=(gi exU 2).In:=rfl
 have d3:((([wl 4]:List Rl).length:Nat):Int)=1:=rfl
 have d4:gi [wl 4] 0=wl 4:=rfl
 have d5:((([u]:List PU).length:Nat):Int)=1:=rfl
 have d6:(gi [u] 0).In.OpenTo=true:=ho
 have d7:(((cmI' (lbL exU)).length:Nat):Int)=3:=by rw[Zt8];rfl
 (refine ZE (.v [0,1,2,3,4,5,6,7,8,9,10,11,12,13,14,15,16,17,18,19,20,21,22,23,24,25,26,27,28,29,30,31,32,33,34,35,36,37,38,39,40,41,42,43,44,45,46,47,48,49,50,51,52,53,54] (.e1 55 (.v [56,57,58] (.e1 59 (.fin))))) ([⟨bm,row rP [u] spm,46⟩,⟨bf,row Zv [wl 4] spf,35⟩,⟨bw,row rI [kI0,kI2] spw,37⟩,⟨bx,row rP exU spx,46⟩]) (h:=?_);refine wkX ?_)
 (repeat(first|refine wkH ?_|(refine tC rfl rfl ?_ ?_;focus(first|exact p5|decide))))
 try simp only[Wc (rfl:(0:Int)=0)]
 (repeat(first|refine wkH ?_|(refine tC rfl rfl ?_ ?_;focus(first|exact p5|decide))))
 try simp only[Wc (rfl:(2:Int)=2)]
 (repeat(first|refine wkH ?_|(refine tC rfl rfl ?_ ?_;focus(first|exact p5|decide))))
 try simp only[Wc d1]
 (repeat(first|refine wkH ?_|(refine tC rfl rfl ?_ ?_;focus(first|exact p5|decide))))
 try simp only[Wc d2]
 (repeat(first|refine wkH ?_|(refine tC rfl rfl ?_ ?_;focus(first|exact p5|decide))))
 try simp only[Wc d3]
 (repeat(first|refine wkH ?_|(refine tC rfl rfl ?_ ?_;focus(first|exact p5|decide))))
 try simp only[Wc d4]
 (repeat(first|refine wkH ?_|(refine tC rfl rfl ?_ ?_;focus(first|exact p5|decide))))
 try simp only[Wc d5]
 (repeat(first|refine wkH ?_|(refine tC rfl rfl ?_ ?_;focus(first|exact p5|decide))))
 try simp only[d6]
 (repeat(first|refine wkH ?_|(refine tC rfl rfl ?_ ?_;focus(first|exact p5|decide))))
 repeat(first|(refine wkT ?_;intros)|(refine tC rfl rfl ?_ ?_;focus(exact p3))|(refine uC rfl rfl ?_ ?_;focus(exact p3))|(refine eN rfl rfl ?_ ?_;(focus(exact p3));intro _;(try simp only[Wf,Wg,Wh])))
 try simp only[Wc d7]
 repeat(refine wkT ?_;intros)
 repeat(refine wkB ?_;intros)
 exact rtT rfl rfl
instance ZsN :SpecC prog 13 [] (.bool true) True:=⟨fun _ w=>ZhP w⟩
end
section
section
variable {α : Type} {enc : α -> Array Value} {k : Nat} {xs : List α}
def vO0 :Option (Nat×Nat×List Value)->Value
 |none=> .slice none 0 0
 |some t=> .slice (some ⟨t.1,0,none⟩) 0 t.2.1
def vE (s:SlS enc k xs):Value:=vO0 s.s
instance ZzH {P:Program}{w0:World}{n:Nat}{L:List Blk}{E:Env}{T e sz:Nat}{x z1:Operand}{s:SlS enc k xs}[hx:IsC (evl E x) (vSl s)][hy:IsC (evl E z1) (.int .i64 0)][h:UndC P T (.slice e)][hs:SizeC P e sz]:YlC P w0 n L E (.slice T x none (some z1) none) (vE s):=by
 obtain⟨s,h1,h2⟩:=s
 have hy':IsC (evl E z1) (.int .i64 ((0:Nat):Int)):=hy
 cases s with
 |none=>
  have hx':IsC (evl E x) (.slice none 0 0):=by
   have e:xs=[]:=h1.1 rfl
   subst e
   exact hx
  exact⟨(Zkf (k:=0) (c:=0) (l:=0) (p:=none)).out ⟨Wl _,Wl _⟩⟩
 |some t=>
  have hx':IsC (evl E x) (.slice (some ⟨t.1,0,none⟩) xs.length t.2.1):=hx
  exact⟨(Zkf (k:=0) (c:=t.2.1) (l:=xs.length) (p:=some ⟨t.1,0,none⟩)).out ⟨Wm _,(h2 t rfl).1⟩⟩
instance lstE (w0:World)(L:List Blk)(s:SlS enc k xs):LstC w0 L (vE s) α enc []:=⟨fun w hw=>by
 obtain⟨s,h1,h2⟩:=s
 cases s with
 |none=>exact⟨.inl ⟨rfl,rfl⟩⟩
 |some t=>exact⟨.inr ⟨_,_,rfl,Wm _,fun i f k u hi=>by cases hi⟩⟩⟩
end
end
end Go.Vt
namespace Go.Vt
open Go.RowKit Go.Proofs
open Go.Proofs.Tryz (prog)
attribute [local irreducible] movV
set_option maxHeartbeats 32000000 in
theorem lnormal_spec (v:Value)(l:List St)(w:World)(hv:ArgS w v rSt l)(hl:l.length<=9223372036854775807)(hk:∀x∈l,StOk x):
  Calls prog 4 [v].toArray w (Ret (.bool true) w):=by
 have:=ArgC.mk hv
 refine Zb Tryz.func4 rfl Tryz.ntmps4 rfl ?_
 obtain⟨p,cp,rfl⟩:=hv.form
 repeat(refine wkB ?_;intros)
 refine Z2 (S:=SlS rP 21 (unL l (min l.length 8))) (fun _=>True) (fun q=>[(0, .slice p l.length cp),(3,vSl q),(4, .slice none 0 0),(5, .bool (ovL l (min l.length 8)))]) (fun q=>mS 46 q) ?_ (fun q _=>?_)
 ·refine Zp (S:=(_:Nat)×(o:List PU)×Bool×SlS rP 21 o) (fun q=>q.1<=min l.length 8/\q.2.1=unL l q.1/\q.2.2.1=ovL l q.1) (fun q=>[(0, .slice p l.length cp),(3,vSl q.2.2.2),(4, .slice none 0 0),(5, .bool q.2.2.1),(6, .int .i64 (q.1:Nat))]) (fun q=>mS 46 q.2.2.2) (fun q=>8-q.1) ⟨0,[],false,SlS.no⟩ ⟨Wm _,rfl,rfl⟩ sbB suB (fun q hq=>?_)
  obtain⟨i,out,bo,o⟩:=q
  obtain⟨hq,ho,hb⟩:=hq
  dsimp only at hq ho hb⊢
  have hln:out.length=i:=by rw[ho];exact ZbO l i
  have hend:i=min l.length 8->out=unL l (min l.length 8):=fun h=>by rw[ho,h]
  have hendb:i=min l.length 8->bo=ovL l (min l.length 8):=fun h=>by rw[hb,h]
  have hnxt:out++[uSt (gi l (i:Int))]=unL l (i+1):=by rw[ho];rfl
  have hnxb:(bo||ovB out (uSt (gi l (i:Int))))=ovL l (i+1):=by rw[ho,hb];rfl
  have hok:i<=l.length->∀u∈out,IvOk 3 u.In:=fun h=>by rw[ho];exact ZfD hk i h
  clear ho hb
  repeat(refine wkB ?_;intros)
  by_cases c1:i<l.length
  ·simp only[Wc (show(i:Int)<(l.length:Nat) by omega)]
   repeat(refine wkB ?_;intros)
   refine Zi rfl (fun h=>?_) (fun h=>?_)
   ·have c2:i<8:=by have:=Wa h;omega
    obtain⟨bw,ow,rfl,hrow'⟩:=hv.opn (k:=12) c1
    have hki:=(hk (gi l (i:Int)) (Zt (by omega))).a
    have hla:=(hk (gi l (i:Int)) (Zt (by omega))).l
    repeat(refine wkB ?_;intros)
    (refine Zca [0,1,2,3,4,5,6,7,8,9,10,11,12,13] [14] [15] (([]:List Blk)) (h:=?_);refine wkI ?_)
    (repeat(first|refine wkH ?_|(refine tC rfl rfl ?_ ?_;focus(first|exact hki|exact⟨by omega,by omega⟩))))
    repeat(refine wkT ?_;intros)
    rename_i b7
    have hu3:=ZgP hki
    unfold uSt at hnxt hnxb
    obtain⟨u,hu⟩:∃u:PU,u=⟨ivS (gi l (i:Int)).In,(gi l (i:Int)).Label % 5⟩:=⟨_,rfl⟩
    simp only[<-hu] at hnxt hnxb⊢
    have hu3':IvOk 3 u.In:=by rw[hu];exact hu3
    clear hu hu3
    repeat(refine wkB ?_;intros)
    refine ZV (S:=Unit) (fun _=>True) (fun _=>[(0, .slice (some ⟨bw,ow,none⟩) l.length cp),(3,vSl o),(4, .slice none 0 0),(5, .bool (ovL l (i+1))),(6, .int .i64 (i:Nat)),(7, .pointer (some ⟨b7,0,none⟩))]) (fun _=>⟨b7,rP u,46⟩::mS 46 o) ?_ (fun _ _=>?_)
    ·cases bo
     ·rw[<-hnxb]
      have hio:=Zjf (l:=out) (hok (by omega))
      have p1:out.length<=1048576:=by omega
      have p2:CbIn (inL out) [u.In]:=⟨by rw[hio.2];omega,by simp,fun j hj=>(hio.1 j hj).mono (by decide),fun j hj=>by rw[List.mem_singleton.1 hj];exact hu3'.mono (by decide)⟩
      unfold ovB
      (refine ZE (.v [0,1,2,4,5] (.e2 3 (.e1 6 (.e1 7 (.v [8,9,10] (.e1 11 (.fin))))) 6 (.e1 3 (.e1 7 (.v [8,9,10] (.e1 11 (.fin))))))) ([⟨b7,rP u,46⟩]) (h:=?_);refine wkX ?_)
      repeat' (first|(with_reducible refine And.intro ?_ ?_)|(with_reducible exact True.intro)|(refine wkT ?_;intros)|(refine tC rfl rfl ?_ ?_;focus(first|exact p1|exact p2))|(refine uC rfl rfl ?_ ?_;focus(first|exact p1|exact p2))|(refine eN rfl rfl ?_ ?_;(focus(first|exact p1|exact p2));intro _;(try simp only[Wf,Wg,Wh]))|fail)
      all_goals(rw[Bool.false_or];exact Zg () trivial sbB suB)
     ·rw[<-hnxb]
      (refine ZE (.v [0,1,2,3,4,5,6,7,8,9,10] (.e1 11 (.fin))) (([]:List Blk)) (h:=?_);refine wkX ?_)
      (repeat(refine wkH ?_))
      repeat(refine wkT ?_;intros)
      rw[Bool.true_or]
      exact Zg () trivial sbB suB
    repeat(refine wkB ?_;intros)
    refine sU (k:=21) (enc:=rP) (s:=o) rfl rfl ?_ ?_ ?_ ?_
    ·rfl
    ·rfl
    ·exact⟨by decide,by omega,by omega⟩
    intro s'
    repeat(first|(refine wkB ?_;intros)|(refine wnM ?_ ?_;(focus(exact⟨by omega,by omega⟩));intros))
    exact Zf ⟨i+1,_,_,s'⟩ ⟨by show i+1<=min l.length 8;omega,hnxt,rfl⟩ sbB suB (by show 8-(i+1)<8-i;omega)
   ·have hge:i=min l.length 8:=by have:=Wb h;omega
    obtain⟨s',f1,f2⟩:=SlS.turn 46 (hend hge) o
    rw[<-hendb hge]
    repeat(refine wkB ?_;intros)
    exact Zg s' trivial (by rw[f1];exact sbB) (by rw[f2];exact suB)
  ·have hge:i=min l.length 8:=by omega
   obtain⟨s',f1,f2⟩:=SlS.turn 46 (hend hge) o
   rw[<-hendb hge]
   simp only[We (show¬(i:Int)<(l.length:Nat) by omega)]
   repeat(refine wkB ?_;intros)
   exact Zg s' trivial (by rw[f1];exact sbB) (by rw[f2];exact suB)
 have p0:l.length<=9223372036854775807/\∀x∈l,StOk x:=⟨hl,hk⟩
 repeat(first|(refine wkB ?_;intros)|(refine wnM ?_ ?_;(focus(exact p0));intros))
 rename_i r8
 obtain⟨law1,law2⟩:=Zp2 hk
 have hU:=Zjs hk (show min l.length 8<=l.length by omega)
 have hun:=ZbO l (min l.length 8)
 have pn:NrP (mpN toU (unL l (min l.length 8)) (unL l (min l.length 8)).length)/\∀u∈mpN toU (unL l (min l.length 8)) (unL l (min l.length 8)).length,UIn u:=⟨.inl (by rw[Zag];omega),hU.i⟩
 have ha:=Zqx hk
 obtain⟨pb,be,bm⟩:=Zrx ha
 have hf:=ha.lf MvP.nil
 have pc:(ShP (movV l)/\ShP [])/\(nrmS (allL (movV l) [])).length<=1024:=⟨⟨hf.sa,hf.sb⟩,Ze4 hf.sa hf.sb⟩
 have hco:=Zjq hf.sa hf.sb
 have hcl:=ZhM hf.sa hf.sb pc.2
 have n1:=ha.nf.len
 have n2:(mNorm (unL l (min l.length 8))).length<=1048576/\(movV l).length<=1048576:=by
  refine⟨?_,by omega⟩
  have h1:=ZhN (mpN toU (unL l (min l.length 8)) (unL l (min l.length 8)).length)
  unfold mNorm
  rw[Zag]
  rw[Zag] at h1
  omega
 have n3:(mNorm (bkL (movV l) (celL (movV l) []) (celL (movV l) []).length)).length<=1048576/\(movV l).length<=1048576:=⟨by rw[bm];omega,by omega⟩
 generalize unL l (min l.length 8)=us at*
 generalize ovL l (min l.length 8)=ov at*
 generalize movV l=a at*
 repeat(first|(refine wkB ?_;intros)|(refine wnM ?_ ?_;(focus(exact pn));intros))
 rename_i r9
 refine Zcy (S:=Unit) (fun _=>True) (fun _=>[(92, .bool false),(3,vSl q),(4, .slice none 0 0),(8,vSl r8)]) (fun _=>mS 46 r9++(mS 46 r8++mS 46 q)) ?_ (fun _ _=>?_)
 ·cases ov
  ·obtain⟨e1,e2⟩:=law2 rfl
   rw[e1]
   simp only[show decide ((0:Int)=11)=false from rfl,show(false != false)=false from rfl]
   repeat(first|(refine wkB ?_;intros)|(refine wnM ?_ ?_;(focus(exact n2));intros))
   simp only[show decide ((0:Int)=0)=true from rfl,Wc e2,Bool.not_true]
   repeat(first|(refine wkB ?_;intros)|(refine wnM ?_ ?_;(focus(exact n2));intros))
   exact Zg () trivial sbB suB
  ·obtain⟨e1,e2⟩:=law1 rfl
   rw[e1]
   have e3:(mNorm us).length=0:=by rw[e2];rfl
   simp only[show decide ((11:Int)=11)=true from rfl,show(true != true)=false from rfl]
   repeat(refine wkB ?_;intros)
   simp only[e3,show decide ((0:Int)<((0:Nat):Int))=false from rfl]
   repeat(refine wkB ?_;intros)
   exact Zg () trivial sbB suB
 repeat(first|(refine wkB ?_;intros)|(refine wnM ?_ ?_;(focus(exact pc));intros))
 rename_i s11
 have hak:∀u∈a,IvOk B28 u.In:=fun u hu=>(ha.nf.k u hu).mono (by decide)
 clear law1 law2 hU hun pn pc hf n2
 generalize celL a []=c at*
 rw[show((c.length:Nat):Int)-1=((c.length:Nat):Int)-1-((0:Nat):Int) by omega]
 refine Z2 (S:=SlS rP 21 (bkL a c c.length)) (fun _=>True) (fun o=>[(4,vSl o),(8,vSl r8)]) (fun o=>mS 46 o++mS 46 r8) ?_ (fun o _=>?_)
 ·refine Zp (S:=(_:Nat)×(o:List PU)×SlS rP 21 o) (fun q=>q.1<=c.length/\q.2.1=bkL a c q.1) (fun q=>[(4,vSl q.2.2),(8,vSl r8),(11,vSl s11),(12, .int .i64 (((c.length:Nat):Int)-1-(q.1:Nat)))]) (fun q=>mS 46 q.2.2++(mS 37 s11++mS 46 r8)) (fun q=>c.length-q.1) ⟨0,[],SlS.no⟩ ⟨Wm _,rfl⟩ sbB suB (fun q hq=>?_)
  obtain⟨m,out,o⟩:=q
  obtain⟨hm,ho⟩:=hq
  dsimp only at hm ho⊢
  have hln:out.length=m:=by rw[ho];exact ZfL a c m
  have hend:m=c.length->out=bkL a c c.length:=fun h=>by rw[ho,h]
  have hnxt:out++[bkU a (gi c ((c.length:Int)-1-(m:Int)))]=bkL a c (m+1):=by rw[ho];rfl
  have e12:((c.length:Nat):Int)-1-(m:Nat)-1=((c.length:Nat):Int)-1-((m+1:Nat):Int):=by omega
  clear ho
  repeat(refine wkB ?_;intros)
  refine Zi rfl (fun h=>?_) (fun h=>?_)
  ·have hlt:m<c.length:=by have:=Wa h;omega
   rcases s11.cases 37 with⟨y0,y1,y2⟩|⟨bc,cc,sp,hcc,y1,y2,yne⟩
   ·rw[y0] at hlt;cases hlt
   simp only[y1,y2,Wf,Wg]
   have hci:=hco (gi c ((c.length:Int)-1-(m:Int))) (Zt (by omega))
   have hmB:=Zp1 hci
   have q1:a.length<=1048576/\(∀u∈a,IvOk B28 u.In)/\RtB (midR (gi c ((c.length:Int)-1-(m:Int)))):=⟨by omega,hak,hmB.mono (by decide)⟩
   unfold bkU at hnxt
   repeat(first|(refine wkB ?_;intros)|(refine wnM ?_ ?_;(focus(first|exact hci|exact q1));intros))
   refine sU (k:=21) (enc:=rP) (s:=o) rfl rfl ?_ ?_ ?_ ?_
   ·rfl
   ·rfl
   ·exact⟨by decide,by omega,by omega⟩
   intro s'
   repeat(first|(refine wkB ?_;intros)|(refine wnM ?_ ?_;(focus(exact⟨by omega,by omega⟩));intros))
   simp only[e12]
   exact Zf ⟨m+1,_,s'⟩ ⟨hlt,hnxt⟩ (by simp only[y1];exact sbB) (by simp only[y2,Wf,Wg];exact suB) (by show c.length-(m+1)<c.length-m;omega)
  ·have hge:m=c.length:=by have:=Wb h;omega
   obtain⟨s',f1,f2⟩:=SlS.turn 46 (hend hge) o
   repeat(refine wkB ?_;intros)
   exact Zg s' trivial (by rw[f1];exact sbB) (by rw[f2];exact suB)
 repeat(first|(refine wkB ?_;intros)|(refine wnM ?_ ?_;(focus(exact pb));intros))
 rw[be]
 simp only[show decide ((0:Int)=0)=true from rfl]
 repeat(first|(refine wkB ?_;intros)|(refine wnM ?_ ?_;(focus(exact n3));intros))
 simp only[Wc bm]
 repeat(refine wkB ?_;intros)
 exact rtT rfl rfl
end Go.Vt
namespace Go.Proofs.YtcgkgdgpdpihmaaGreatDoor
open Go.ChangeShapes Go.WideShapes Go.ChangeAt Go.RowKit Go.Deep
def norArgs :Array Value:=#[.slice none 0 0]
theorem Zp5 (os:Os)(args:Array Value):laidMet Tryz.prog Rows.movinglabelNormalRow.laid ((laidWorld os).forCall (fun _ _=>0) ⟨#[],args,[]⟩).memory:=
 laidMet_of_run3 8 (by kernel_rfl) (by kernel_rfl) (by kernel_rfl)
theorem Zlt (os:Os){H:Type}(enc:TypeId×Value->H):∃places,DataW.whole enc Tryz.prog ((laidWorld os).forCall (fun _ _=>0) ⟨#[],norArgs,[]⟩).memory Tryz.f4.params.toList Rows.movinglabelNormalSpec.vars false norArgs.toList 8=some ([.nil],[],places):=
 ⟨[],by kernel_rfl⟩
theorem ZhA (H:Type)(enc:TypeId×Value->H)(W:World)(base:Nat)(args:Array Value)(ds gs:List (DataW H))(before:List MemPlace)
  (hval:∀(j:Nat) t v,Tryz.f4.params[j]? =some t->args[j]? =some v->Value.okWide Tryz.prog W .any base t v)
  (hW:DataW.Whole enc Tryz.prog Tryz.f4.params.toList Rows.movinglabelNormalSpec.vars false W args.toList ds gs before):
  Calls Tryz.prog 4 args W fun e W'=>∃v,e= .returned v/\Rows.movinglabelNormalSpec.post enc Tryz.prog Tryz.f4 false true false false W args v W':=by
 have hW':=hW
 obtain⟨p,q,hA0,hV,rfl,hfz,hnd⟩:=hW
 have hA:DataW.TrodAll enc Tryz.prog W 0 (fun _=>true) true Tryz.f4.params.toList args.toList ds p:=hA0
 rw[Tryz.params4] at hA hval
 obtain⟨v0,vs0,d0,ds0,p0,q0,hargs0,rfl,rfl,h0,r0⟩:=trodAll_cons hA
 obtain⟨rfl,rfl,rfl⟩:=trodAll_nil r0
 obtain rfl:args=#[v0]:=by cases args;simp_all
 obtain⟨rfl,rfl⟩:=trodVars_none hV
 clear hA0
 simp only[List.append_nil] at hW'
 have hlt:∀x∈p0,x.block<W.heap.size:=fun x hx=>by simpa using hW'.lt x hx
 have h0k:=h0
 obtain⟨fuel0,hf0⟩:=h0
 obtain⟨ws0,hws0,hok0,hlen0⟩:=Zof (okWide_slice Tryz.underlying23 (hval 0 23 v0 rfl rfl)) hf0
 refine(Go.Vt.lnormal_spec v0 ws0 W hws0 hlen0 hok0).mono fun e' W' ⟨he',⟨hb,_⟩⟩=>?_
 subst he'
 exact⟨_,rfl,⟨_,_,_,[],_,[],hW',trodAll_mk1 (shut_bool Tryz.underlying4 _),trodAll_mk1 (Below.trod rlaidOut (by kernel_rfl) (of_decide_eq_true (by kernel_rfl)) h0k hb (fun x hx=>hlt x hx)),(by first|rfl|(simp;done)),hb.frame _,fun h=>by cases h⟩⟩
theorem nor_lifted (os:Os)(started:os.Started)(H:Type)(enc:TypeId×Value->H)(F:Stop.Interp):
  ReturnsInHanded {} Tryz.checked os 4 .any ((OpenSpec.ofChange Rows.movinglabelNormalSpec).preRow enc Tryz.prog Tryz.f4 Rows.movinglabelNormalRow.domain false Rows.movinglabelNormalRow.laid) (((OpenSpec.ofChange Rows.movinglabelNormalSpec).at F).post enc Tryz.prog Tryz.f4 false true false false):=by
 obtain⟨places,hx⟩:=Zlt os enc
 refine returnsInHanded_of_row (C:=Tryz.checked) (s:=OpenSpec.ofChange Rows.movinglabelNormalSpec) rown started (by kernel_rfl) Tryz.func4
  (witness_row_at (enc:=enc) (C:=Tryz.checked) false (laidWorld os) norArgs rfl (by kernel_rfl) (by kernel_rfl) (by kernel_rfl)
   (OpenSpec.preRow_of_cond 8 hx (by kernel_rfl) (fun k hk=>by cases hk) (by kernel_rfl) (Zp5 os _))) ?_
 intro W base args ds gs before hval hW _ _ _ _ _ _
 exact ZhA H enc W base args ds gs before hval hW
end Go.Proofs.YtcgkgdgpdpihmaaGreatDoor
