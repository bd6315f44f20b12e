/- that the gaps between reports are those of the chain (part 27 of 32.) Conditions: those that each statement names. -/
import Derived.Test.YtjicdlilgjdefaaGreatDoorCards
import Derived.Test.YtjicdlilgjdefaaGreatDoorTie
import Derived.WalkKit
import Derived.ProofKit
import Derived.OpenShut
import Derived.SizedLaws
import Derived.Deep.DeepHandedRow
import Derived.Deep.DeepLaidRun
import Derived.Deep.SlicePairs
import Derived.Carry
import Derived.Lib.LaidU8
import Derived.Test.YtjicdlilgjdefaaGreatDoorKG4
import Derived.Test.YtjicdlilgjdefaaGreatDoorKG9
import Derived.Test.YtjicdlilgjdefaaGreatDoorKG18
import Derived.Test.YtjicdlilgjdefaaGreatDoorKG20
import Derived.Test.YtjicdlilgjdefaaGreatDoorKG22
import Derived.Test.YtjicdlilgjdefaaGreatDoorKG24
import Derived.Test.YtjicdlilgjdefaaGreatDoorKG26
set_option linter.unusedSimpArgs false
set_option linter.unusedVariables false
set_option maxHeartbeats 2000000
set_option maxRecDepth 100000
namespace Go.Vt
open Go.RowKit Go.Proofs
open Go.Proofs.Tryz (prog)
def exR :List Zb:=exL.map (·.Report)
theorem Zo3 :chainL (cCp 2 exL) exL.length=[0,2,3]:=by decide+kernel
def exK :List Zc:=[tmd 0 0 0 0,tmd 2 2 4 0,tmd 9 3 4 0]
theorem ZkR :kpT 2 exL=exK:=by decide+kernel
theorem Zv1 :(gpT 5 exK (exK.length-1)).length=1:=by decide+kernel
theorem ZqN :∀x∈exL,TkOk x:=fun x hx=>by
 have h1:M (0:Rat)<=8/\M (1:Rat)<=8/\M (2:Rat)<=8/\M (9:Rat)<=8:=by decide+kernel
 simp only[exL,Ww,List.not_mem_nil,or_false] at hx
 rcases hx with rfl|rfl|rfl|rfl
 ·exact⟨h1.1,by decide,by decide⟩
 ·exact⟨h1.2.1,by decide,by decide⟩
 ·exact⟨h1.2.2.1,by decide,by decide⟩
 ·exact⟨h1.2.2.2,by decide,by decide⟩
theorem ZwM :∀x∈exK,TkOk x:=fun x hx=>ZqN x (by
 rw[<-ZkR] at hx
 exact Zgs hx)
theorem Zt1 :Inc (spL exK):=fun i hi=>by
 have h:i=0\/i=1:=by
  have:(spL exK).length=3:=rfl
  omega
 rcases h with rfl|rfl
 ·decide+kernel
 ·decide+kernel
def exU :List PU:=(thrT exK 5 exK.length).1
theorem Ztr :exU.length=2/\(gi exU 0).In=⟨⟨0,0,false⟩,⟨2,0,false⟩,false,false⟩/\(gi exU 0).F=⟨0,2,0,0⟩/\(gi exU 1).In.From=⟨9,0,false⟩:=by decide+kernel
theorem ZsZ (r:Zb):corX [] r=((r.Time:Rat),0):=by
 have h:r.Device∉devL ([]:List Za):=fun h=>by
  obtain⟨x,hx, -⟩:=Zg4.1 h
  cases hx
 unfold corX
 rw[ZeN (OffR.no (.inr h))]
 simp only[if_true]
 refine Prod.ext ?_ rfl
 show(r.Time:Rat)-Rat.divInt (0+0) 2=(r.Time:Rat)
 rw[show Rat.divInt (0+0) 2=0 by decide+kernel]
 grind
theorem ZjZ :∀cs:List Zb,tmXL [] cs=cs.map fun r=>⟨(r.Time:Rat),r⟩
 |[]=>rfl
 |r::cs=>by
  have ih:=ZjZ cs
  unfold tmXL at*
  rw[List.filterMap_cons,List.map_cons,<-ih]
  unfold tmF
  rw[ZsZ]
  rfl
theorem Zvh :ofL exR 1=exR:=by decide+kernel
theorem Zt2 :repL exR [] 1=exL:=by
 unfold repL
 rw[Zvh,ZjZ]
 decide+kernel
theorem ZqK {κ:Type}[DecidableEq κ]{X:List (κ×Bool)}(h:AddOk [] X []):X=[]:=List.length_eq_zero_iff.1 (Nat.le_zero.1 h.len)
theorem ZpQ {R:List (Zb×Bool)}(h:AddOk [] R exR):tmX R [] 1=exL:=by
 rw[ZkU (rs:=exR) (es:=[]) (fun r _=>by have:=h.mem r;simpa using this) (fun y=>Iff.rfl)]
 exact Zt2
theorem Zl8 :∀r∈exR,RepV r:=fun r hr=>by
 simp only[exR,exL,List.map_cons,List.map_nil,Ww,List.not_mem_nil,or_false] at hr
 rcases hr with rfl|rfl|rfl|rfl <;> (constructor <;> decide)
theorem ZvQ {R:List (Zb×Bool)}(h:AddOk [] R exR):KtX 2 R []:=⟨⟨Wi h.len (by decide),by decide,(fun y hy=>by cases hy),fun r hr=>Zl8 r (by have:=(h.mem r).1 hr;simpa using this)⟩,by decide⟩
theorem ZqZ {R:List (Zb×Bool)}(h:AddOk [] R exR):explX 2 R [] (tmd 1 1 9 0).Report=4:=by
 have hs:statR (sorted (pKR R)) (tmd 1 1 9 0).Report=statR exR (tmd 1 1 9 0).Report:=Zps fun z=>((Za2 (pKR R)).mem_iff).trans (by have:=h.mem z;simpa using this)
 unfold explX
 rw[hs,show(tmd 1 1 9 0).Report.Object=1 from rfl,ZpQ h,ZkR]
 decide+kernel
instance lst3K {α:Type}{enc:α->Array Value}{k:Nat}{x y z:α}{sp:List Value}[he:EncC enc k](w0:World)(L:List Blk)(b c:Nat)(T:TypeId)[h:AtC w0 L b (row enc [x,y,z] sp) T]:LstC w0 L (.slice (some ⟨b,0,none⟩) 3 (c+3)) α enc [x,y,z]:=⟨fun w hw=>by
 obtain⟨fz,hb⟩:=h.out w hw
 exact Zee (c:=c+3) hb (Nat.le_add_left 3 c)⟩
instance lst4K {α:Type}{enc:α->Array Value}{k:Nat}{x y z u:α}{sp:List Value}[he:EncC enc k](w0:World)(L:List Blk)(b c:Nat)(T:TypeId)[h:AtC w0 L b (row enc [x,y,z,u] sp) T]:LstC w0 L (.slice (some ⟨b,0,none⟩) 4 (c+4)) α enc [x,y,z,u]:=⟨fun w hw=>by
 obtain⟨fz,hb⟩:=h.out w hw
 exact Zee (c:=c+4) hb (Nat.le_add_left 4 c)⟩
abbrev sEx :ZR:=⟨2,5⟩
set_option maxHeartbeats 8000000 in
theorem Zoy (w:World):Calls prog 10 ([]:List Value).toArray w (Ret (.bool true) w):=by
 refine Zg Tryz.func10 rfl Tryz.ntmps10 rfl ?_
 have hc:exL.length<=4096/\(∀x∈exL,TkOk x)/\(-1048576<=sEx.MaxSpeed/\sEx.MaxSpeed<=1048576):=⟨by decide,ZqN,by decide⟩
 have hcl:decide ((((cI (chainL (cCp 2 exL) exL.length)).length:Nat):Int)=3)=true:=by rw[Zo3];rfl
 repeat(first|(refine wkM ?_;intros)|(refine wnM ?_ ?_;(focus(first|exact trivial|exact hc));intros))
 rename_i b1 s1 c1
 obtain⟨c,e1,e2⟩:=SlS.turn 3 (show cI (chainL (cCp 2 exL) exL.length)=[0,2,3] by rw[Zo3];rfl) c1
 rw[<-e1]
 simp only[<-e2,hcl,Bool.not_true]
 clear e1 e2 c1
 rcases c.cases 3 with⟨y0, -, -⟩|⟨bc,cc,sq,hc2,y1,y2,yne⟩
 ·cases y0
 rcases s1.cases 56 with⟨x0, -, -⟩|⟨bs,cb,sp,hc1,x1,x2,xne⟩
 ·cases x0
 simp only[x1,x2,y1,y2,Wf,Wg]
 have hl3:([0,2,3]:List Int).length=3:=rfl
 have hl4:exL.length=4:=rfl
 repeat(refine wkM ?_;intros)
 simp only[Wc (show gi ([0,2,3]:List Int) 0=0 from rfl),Bool.not_true]
 repeat(refine wkM ?_;intros)
 simp only[Wc (show gi ([0,2,3]:List Int) 1=2 from rfl),Bool.not_true]
 repeat(refine wkM ?_;intros)
 simp only[Wc (show gi ([0,2,3]:List Int) 2=3 from rfl),Bool.not_true]
 repeat(refine wkM ?_;intros)
 have hth:exK.length<=19/\(∀x∈exK,TkOk x)/\Inc (spL exK)/\(-2147483648<=sEx.MaxGap/\sEx.MaxGap<=2147483648):=⟨by decide,ZwM,Zt1,by decide⟩
 refine Zav (S:=SlS rP 36 exU) (fun _=>True) (fun q=>[(0, .bool false),(1, .pointer (some ⟨b1,0,none⟩)),(2, .slice (some ⟨bs,0,none⟩) exL.length cb),(4,vSl q)]) (fun q=>mS 115 q++[⟨bs,row Zi exL sp,56⟩,⟨b1,Zv sEx,32⟩]) ?_ (fun u _=>?_)
 ·(refine ZX (.v [0,1,2,3,4,5,6,7,8,10] (.e1 9 (.e1 11 (.e1 12 (.fin))))) (_) (h:=?_);refine wkX ?_)
  (repeat(refine wkH ?_))
  repeat(first|(refine wkT ?_;intros)|(refine tC rfl rfl ?_ ?_;focus(exact hth))|(refine uC rfl rfl ?_ ?_;focus(exact hth))|(refine eN rfl rfl ?_ ?_;(focus(exact hth));intro _;(try simp only[Wf,Wg,Wh])))
  rename_i bq s9
  obtain⟨u,e1,e2⟩:=SlS.turn 115 (show(thrT [gi exL 0,gi exL 2,gi exL 3] 5 [gi exL 0,gi exL 2,gi exL 3].length).1=exU from rfl) s9
  exact Zt u trivial (by simp only[e1];exact sbB) (by simp only[e2];exact suB)
 clear y1 y2 yne hc2 hcl c x1 x2 s1
 repeat(first|(refine wkM ?_;intros)|(refine wnM ?_ ?_;(focus(exact trivial));intros))
 rename_i pn
 obtain⟨px,m1,m2⟩:=pn
 simp only[Wf,Wg]
 refine Zav (S:={R:List (Zb×Bool) // AddOk [] R exR}) (fun _=>True) (fun q=>[(0, .bool false),(1, .pointer (some ⟨b1,0,none⟩)),(2, .slice (some ⟨bs,0,none⟩) exL.length cb),(4,vSl u),(5, .pointer (some ⟨px,0,none⟩)),(7, .int .i64 0)]) (fun q=>⟨m1, .obj (mRp q.1),177⟩::⟨m2, .obj (mEx []),178⟩::⟨px,vIn m1 m2,180⟩::(mS 115 u++[⟨bs,row Zi exL sp,56⟩,⟨b1,Zv sEx,32⟩])) ?_ (fun q _=>?_)
 ·(refine ZX (.v [0,1,2,3,4,5,6,7,8,9,10,11,12,13,14,15,16] (.e1 17 (.v [18] (.e1 19 (.v [20,21,22] (.e1 23 (.e1 24 (.fin)))))))) ([⟨bs,row Zi exL sp,56⟩]) (h:=?_);refine wkX ?_)
  (repeat(refine wkH ?_))
  repeat(refine wkT ?_;intros)
  rename_i bt
  have hadd:([]:List (Zb×Bool)).length+exR.length<=4096/\([]:List (Za×Bool)).length+([]:List Za).length<=4096/\SetM ([]:List (Zb×Bool))/\SetM ([]:List (Za×Bool))/\(∀r∈exR,RepV r)/\∀y∈([]:List Za),ExV y:=⟨by decide,by decide,SetM.nil,SetM.nil,Zl8,(fun y hy=>by cases hy)⟩
  refine eZ rfl rfl ?_ ?_ ?_
  ·intro q
   exact suB
  ·exact hadd
  intro q
  repeat(refine wkT ?_;intros)
  obtain⟨⟨⟨R,X⟩,z⟩,k1,k2⟩:=q
  have hX:=ZqK k2
  simp only at hX k1⊢
  subst hX
  exact Zt ⟨R,k1⟩ trivial sbB suB
 obtain⟨R,hp⟩:=q
 have hk:KtX sEx.MaxSpeed R []:=ZvQ hp
 have hkg:KtX sEx.MaxSpeed R []/\(-2147483648<=sEx.MaxGap/\sEx.MaxGap<=2147483648):=⟨hk,by decide⟩
 have hlg:(gpT 5 (kpT 2 (tmX R [] 1)) ((kpT 2 (tmX R [] 1)).length-1)).length=1:=by
  rw[ZpQ hp,ZkR]
  exact Zv1
 obtain⟨v1, -, -, -⟩:=Ztr
 have w2:decide ((gi exU 0).In=(⟨Zbh,⟨((2:Int):Rat),0,false⟩,false,false⟩:Ze))=true:=by decide+kernel
 have w3:decide ((gi exU 0).F=(⟨0,((2:Int):Rat),0,0⟩:ZG))=true:=by decide+kernel
 have w4:decide ((gi exU 1).In.From=(⟨((9:Int):Rat),0,false⟩:Zp))=true:=by decide+kernel
 generalize exU=U at*
 rcases u.cases 115 with⟨z0, -, -⟩|⟨bu,cu,su,hc4,z1,z2,zne⟩
 ·rw[z0] at v1
  cases v1
 simp only[z1,z2,Wf,Wg]
 repeat(first|(refine wkM ?_;intros)|(refine wnM ?_ ?_;(focus(exact hkg));intros))
 rename_i g
 refine Zav (S:=Unit) (fun _=>True) (fun _=>[(0, .bool false),(4, .slice (some ⟨bu,0,none⟩) U.length cu),(7, .int .i64 0),(8,vSl g),(9, .int .i64 0),(10, .int .i64 4),(11, .int .i64 0)]) (fun _=>mS 111 g++[⟨bu,row rP U su,115⟩]) ?_ (fun _ _=>?_)
 ·(refine ZX (.v [0,1,2,3,4,5,6,7,8,9] (.e1 10 (.e1 11 (.fin)))) (_) (h:=?_);refine wkX ?_)
  (repeat(first|refine wkH ?_|(refine tC rfl rfl ?_ ?_;focus(exact hk))))
  rw[show explX 2 R [] (ZJ (gi exL 1)).Report=4 from ZqZ hp]
  repeat(refine wkT ?_;intros)
  exact Zt () trivial sbB suB
 clear hc hth hk hkg
 generalize gpT 5 (kpT 2 (tmX R [] 1)) ((kpT 2 (tmX R [] 1)).length-1)=G at*
 repeat(refine wkM ?_;intros)
 refine jD 51 51 (h:=?_)
 (repeat(refine wkH ?_))
 simp only[Wc (show((U.length:Nat):Int)=2 by omega)]
 (repeat(first|refine wkH ?_|(refine tC rfl rfl ?_ ?_;focus(exact⟨by decide,by decide⟩))))
 simp only[w2]
 (repeat(first|refine wkH ?_|(refine tC rfl rfl ?_ ?_;focus(exact⟨by decide,by decide⟩))))
 simp only[w3]
 (repeat(first|refine wkH ?_|(refine tC rfl rfl ?_ ?_;focus(exact⟨by decide,by decide⟩))))
 simp only[w4]
 (repeat(refine wkH ?_))
 simp only[Wc (show(0:Int)=0 from rfl)]
 (repeat(refine wkH ?_))
 simp only[Wc (show((G.length:Nat):Int)=1 by omega)]
 (repeat(refine wkH ?_))
 try simp only[Wc (show(0:Int)=0 from rfl)]
 (repeat(refine wkH ?_))
 try simp only[Wc (show(4:Int)=4 from rfl)]
 (repeat(refine wkH ?_))
 refine Zn ?_
 refine Zr ?_
 repeat(refine wkM ?_;intros)
 exact rtT rfl rfl
instance ZGn :SpecC prog 10 [] (.bool true) True:=⟨fun _ w=>Zoy w⟩
end Go.Vt
namespace Go.Vt
open Go.RowKit Go.Proofs
open Go.Proofs.Tryz (prog)
instance (priority :=low) batMem {bs:List Bat}(w0:World)(L:List Blk)(s:BatO bs)[h:SblC s.mem L]:BatC w0 L (vSl s.o) bs:=⟨fun w hw=>s.reads (hw.sub h.out)⟩
theorem InkO.ink {rs:List Zb}{es:List Za}(w0:World)(s:InkO rs es):InkX w0 s.mem s.px s.R s.X:=by
 unfold InkO.mem
 exact inkXOwn w0 _ s.px s.m1 s.m2 s.R s.X 180
instance (priority :=low) inkMem {rs:List Zb}{es:List Za}(w0:World)(L:List Blk)(s:InkO rs es)[h:SblC s.mem L]:InkX w0 L s.px s.R s.X:=by
 obtain⟨m1,m2,Tx,h1,h2,h3⟩:=(s.ink w0).out
 exact⟨m1,m2,Tx,⟨fun w hw=>h1.out w (hw.sub h.out)⟩,⟨fun w hw=>h2.out w (hw.sub h.out)⟩,⟨fun w hw=>h3.out w (hw.sub h.out)⟩⟩
instance (priority :=50) osAny {α:Type}{enc:α->Array Value}{k:Nat}{xs:List α}(T:TypeId)(s:SlS enc k xs)(A L L1:List Blk)[h:OwnS T s L L1]:OwnS T s (A++L) (A++L1):=⟨by
 refine(h.out.append_left A).trans ?_
 rw[<-List.append_assoc,<-List.append_assoc]
 exact List.perm_append_comm.append_right _⟩
class BmC (M L:List Blk)(L1:outParam (List Blk)):Prop where
 out:L.Perm (M++L1)
instance (priority :=high) bmHere (M L:List Blk):BmC M (M++L) L:=⟨.refl _⟩
instance (priority :=high) bmHere0 (M:List Blk):BmC M M []:=⟨by rw[Wh]⟩
instance (priority :=low) bmThere (M:List Blk)(e:Blk)(L L1:List Blk)[h:BmC M L L1]:BmC M (e::L) (e::L1):=⟨(h.out.cons e).trans List.perm_middle.symm⟩
instance (priority :=low) bmSkip (M A L L1:List Blk)[h:BmC M L L1]:BmC M (A++L) (A++L1):=⟨by
 refine(h.out.append_left A).trans ?_
 rw[<-List.append_assoc,<-List.append_assoc]
 exact List.perm_append_comm.append_right _⟩
instance (priority :=low) sbpBat {bs:List Bat}(s:BatO bs)(A L L1:List Blk)[h:BmC s.mem L L1][g:SbpC A L1]:SbpC (s.mem++A) L:=⟨by
 obtain⟨L',hp⟩:=g.out
 exact⟨L',h.out.trans (by rw[List.append_assoc];exact hp.append_left _)⟩⟩
theorem ZpP (ps:List (List Png))(cs:List (List Cll)):∀i,i<=ps.length->(bR (batL ps cs i)).length=tot (ps.take i)/\∀r∈bR (batL ps cs i),∃x,r=rptP x
 |0,_=>⟨rfl,(fun r h=>by cases h)⟩
 |i+1,h=>by
  obtain⟨h1,h2⟩:=ZpP ps cs i (by omega)
  rw[batL,Zi9,ZpV]
  refine⟨?_,fun r hr=>?_⟩
  ·rw[Wp,h1,Ws,Zd1 h]
  ·rcases List.mem_append.1 hr with hr|hr
   ·exact h2 r hr
   ·obtain⟨x, -,rfl⟩:=List.mem_map.1 hr
    exact⟨x,rfl⟩
theorem ZqB (ps:List (List Png))(cs:List (List Cll)):∀i,i<=cs.length->(bE (batL ps cs i)).length=tot (cs.take i)/\∀r∈bE (batL ps cs i),∃x,r=excC x
 |0,_=>⟨rfl,(fun r h=>by cases h)⟩
 |i+1,h=>by
  obtain⟨h1,h2⟩:=ZqB ps cs i (by omega)
  rw[batL,Ziw,ZpA]
  refine⟨?_,fun r hr=>?_⟩
  ·rw[Wp,h1,Ws,Zd1 h]
  ·rcases List.mem_append.1 hr with hr|hr
   ·exact h2 r hr
   ·obtain⟨x, -,rfl⟩:=List.mem_map.1 hr
    exact⟨x,rfl⟩
structure BsOk (bs:List Bat):Prop where
 n:bs.length<=4
 r:(bR bs).length<=12
 e:(bE bs).length<=6
 rv:∀r∈bR bs,RepV r
 ev:∀y∈bE bs,ExV y
theorem ZvP {ps:List (List Png)}{cs:List (List Cll)}(h:shB ps cs=true)(hn:ps.length=cs.length):BsOk (batL ps cs ps.length):=by
 unfold shB at h
 simp only[Wq,decide_eq_true_eq] at h
 obtain⟨⟨h1,h2⟩,h3⟩:=h
 obtain⟨a1,a2⟩:=ZpP ps cs ps.length (Wl _)
 obtain⟨b1,b2⟩:=ZqB ps cs ps.length (by omega)
 rw[List.take_length] at a1
 rw[List.take_of_length_le (by omega)] at b1
 refine⟨by rw[Zg6];exact h1,by omega,by omega,fun r hr=>?_,fun y hy=>?_⟩
 ·obtain⟨x,rfl⟩:=a2 r hr
  exact Zv6 x
 ·obtain⟨x,rfl⟩:=b2 y hy
  exact ZvD x
theorem Zws {ps:List (List Png)}{cs:List (List Cll)}(h:shB ps cs=true):ps.length<=1048576/\tot ps<=1048576/\tot cs<=1048576:=by
 unfold shB at h
 simp only[Wq,decide_eq_true_eq] at h
 omega
theorem BsOk.rs {bs:List Bat}(h:BsOk bs):RsOk (bR bs) (bE bs):=⟨h.r,h.e,fun y hy=>(h.ev y hy).b,h.rv⟩
theorem BsOk.all {bs:List Bat}(h:BsOk bs):bs.length<=1048576/\(bR bs).length<=1048576/\(bE bs).length<=1048576:=by
 have:=h.n;have:=h.r;have:=h.e;omega
theorem BsOk.ink {bs:List Bat}(h:BsOk bs):(bs.length<=1048576/\(bR bs).length<=4096/\(bE bs).length<=4096)/\(∀r∈bR bs,RepV r)/\∀y∈bE bs,ExV y:=by
 have:=h.n;have:=h.r;have:=h.e
 exact⟨by omega,h.rv,h.ev⟩
theorem InkO.memR {rs:List Zb}{es:List Za}(s:InkO rs es)(r:Zb):r∈pKR s.R↔r∈rs:=by
 have:=s.r.mem r
 simpa using this
theorem InkO.memE {rs:List Zb}{es:List Za}(s:InkO rs es)(y:Za):y∈pKE s.X↔y∈es:=by
 have:=s.e.mem y
 simpa using this
theorem InkO.xok {rs:List Zb}{es:List Za}(s:InkO rs es)(h:RsOk rs es):XOk s.R s.X:=by
 have h1:=s.r.len
 have h2:=s.e.len
 rw[Wx,Nat.zero_add] at h1 h2
 exact⟨Wi h1 h.n,Wi h2 h.en,fun y hy=>h.ee y ((s.memE y).1 hy),fun r hr=>h.rr r ((s.memR r).1 hr)⟩
theorem InkO.tm {rs:List Zb}{es:List Za}(s:InkO rs es)(o:Int):tmX s.R s.X o=repL rs es o:=ZkU (fun r _=>s.memR r) s.memE
theorem Zwz (a b:Int): -1048576<=(setT a b).MaxSpeed/\(setT a b).MaxSpeed<=1048576:=by
 show-1048576<=1+a % 24/\1+a % 24<=1048576
 omega
theorem Zv8 (a b:Int): -2147483648<=(setT a b).MaxGap/\(setT a b).MaxGap<=2147483648:=by
 show-2147483648<=1+b % 30/\1+b % 30<=2147483648
 omega
end Go.Vt
namespace Go.Proofs.YtjicdlilgjdefaaGreatDoor
open Go.ChangeShapes Go.WideShapes Go.ChangeAt Go.RowKit Go.Deep Go.Vt
theorem rown :ownKnob Tryz.prog.godebug=none:=by kernel_rfl
theorem rlaidOut :laidOutB Tryz.prog=true:=by kernel_rfl
theorem ru5 :Tryz.prog.underlying 5=some (.int .u8):=by kernel_rfl
theorem ru4 :Tryz.prog.underlying 4=some .bool:=by kernel_rfl
theorem rc5 :Tryz.prog.cellsOf 5=1:=by kernel_rfl
theorem rc4 :Tryz.prog.cellsOf 4=1:=by kernel_rfl
theorem ZbR {n:Int}(h:(Lit.int .u8 n).wf=true):0<=n/\n<=255:=by
 simp only[Lit.wf,Bool.and_eq_true,decide_eq_true_eq] at h
 exact⟨h.1,h.2⟩
def LeW {H:Type}(P:Program)(t:TypeId)(d:DataW H):Prop:=∀n∈d.weights P t,n<=reachBytes
theorem ZtX {H:Type}{P:Program}{ts:List TypeId}{ds:List (DataW H)}(h:(DataW.weightsEach P ts ds).all (· <=reachBytes)=true){j:Nat}{t:TypeId}{d:DataW H}(ht:ts[j]? =some t)(hd:ds[j]? =some d):LeW P t d:=fun n hn=>by
 have:=List.all_eq_true.1 h _ (DataW.weights_mem_each ht hd n hn)
 simpa using this
theorem Zet {H:Type}{P:Program}{e:TypeId}:∀{l:List (DataW H)} {d:DataW H},d∈l->∀n∈d.weights P e,n∈DataW.weightsAll P e l
 |[],_,h,_,_=>by cases h
 |x::l,d,h,n,hn=>by
  simp only[DataW.weightsAll,List.mem_append]
  rcases List.mem_cons.1 h with rfl|h
  ·exact .inl hn
  ·exact .inr (Zet h n hn)
theorem Zpw {H:Type}{P:Program}{t e:TypeId}{elems spare:List (DataW H)}(hu:P.underlying t=some (.slice e))(h:LeW P t (.slice elems spare)):(elems.length+spare.length)*P.bytesOf e<=reachBytes/\∀d∈elems,LeW P e d:=by
 have hw:(DataW.slice elems spare).weights P t=(elems.length+spare.length)*P.bytesOf e::(DataW.weightsAll P e elems++DataW.weightsAll P e spare):=by simp[DataW.weights,hu]
 unfold LeW at h
 rw[hw] at h
 exact⟨h _ (.head _),fun d hd n hn=>h n (.tail _ (List.mem_append_left _ (Zet hd n hn)))⟩
theorem Zio {H:Type}{P:Program}{t:TypeId}{fs:Array Field}{parts:List (DataW H)}(hu:P.underlying t=some (.struct fs))(h:LeW P t (.agg parts)){i:Nat}{f:Field}{d:DataW H}(hf:fs[i]? =some f)(hd:parts[i]? =some d):LeW P f.type d:=fun n hn=>by
 have hw:(DataW.agg parts).weights P t=DataW.weightsEach P (fs.toList.map (·.type)) parts:=by simp[DataW.weights,hu]
 unfold LeW at h
 rw[hw] at h
 exact h n (DataW.weights_mem_each (by simp[hf]) hd n hn)
theorem Zf2 {H:Type}{eH:TypeId×Value->H}{P:Program}{W:World}{base:Nat}{sp:Nat->Bool}{held:Bool}{fuel:Nat}{v:Value}{x:DataW H×List MemPlace}{α:Type}[Inhabited α]{enc:α->Array Value}{k:Nat}[he:EncC enc k]{t e:TypeId}(ht:P.underlying t=some (.slice e))(hc:P.cellsOf e=k){Q:α->Prop}
  (hel:∀n (cs:List Value) y,DataW.trod eH P W base sp held n e cs=some y->LeW P e y.1->∃x:α,cs=(enc x).toList/\Q x)
  (h:DataW.trod eH P W base sp held fuel t [v]=some x) (hw:LeW P t x.1):
  ∃(s:Sl)(xs:List α),v=vSlc s/\ArgS W (vSlc s) enc xs/\(∀x∈xs,Q x)/\xs.length*P.bytesOf e<=reachBytes:=by
 rcases open_slice ht h with⟨h0,_⟩|⟨a,len,cap,m,n,D,Pl,hcs,hb,hl,hm,hmm,hx,hcl⟩
 ·simp at h0
  subst h0
  exact⟨⟨none,0,0⟩,[],rfl,⟨.inl ⟨rfl,rfl⟩⟩,(fun x hx=>by cases hx),by simp⟩
 ·simp at hcs
  subst hcs
  have hlm:len<=m:=by rw[hmm];split <;> omega
  have hx1:x.1= .slice ((List.range len).map D) ((List.range (m-len)).map fun j=>D (len+j)):=by rw[hx]
  rw[hx1] at hw
  obtain⟨w1,w2⟩:=Zpw ht hw
  have each:∀i,i<len->∃z:α,(∃cs',W.cells? base (a.add (i*k)) k=some cs'/\cs'=(enc z).toList)/\Q z:=fun i hi=>by
   obtain⟨cs',c1,c2⟩:=hcl i (by omega)
   rw[hc] at c1
   obtain⟨z,z1,z2⟩:=hel _ _ _ c2 (w2 _ (List.mem_map.2 ⟨i,List.mem_range.2 hi,rfl⟩))
   exact⟨z,⟨cs',c1,z1⟩,z2⟩
  obtain⟨q,hq⟩:=choose_lt each
  refine⟨⟨some a,len,cap⟩,(List.range len).map q,rfl,⟨.inr ⟨a,cap,by simp[vSlc],by simpa using hl,fun i f k' u hi hk hu=>?_⟩⟩,fun z hz=>?_, ?_⟩
  ·simp only[List.length_map,List.length_range] at hi
   obtain rfl:k'=k:=by rw[<-hk default,he.size]
   simp only[List.getElem_map,List.getElem_range] at hu
   obtain⟨cs',c1,c2⟩:=(hq i hi).1
   obtain⟨_,hlen,hcell⟩:=World.cells?_some c1
   have hf:f<k':=by
    have:=(Array.getElem?_eq_some_iff.1 hu).1
    rw[he.size] at this
    exact this
   have h1:=hcell f (by omega)
   rw[Zfy] at h1
   rw[h1]
   subst c2
   simpa using hu
  ·obtain⟨i,hi,rfl⟩:=List.mem_map.1 hz
   exact(hq i (List.mem_range.1 hi)).2
  ·simp only[List.length_map,List.length_range] at w1⊢
   exact Nat.le_trans (Nat.mul_le_mul_right _ (Nat.le_add_right _ _)) w1
theorem ZuL :∃f0 f1 f2 f3 f4 f5 f6 f7,Tryz.prog.underlying 26=some (.struct #[f0,f1,f2,f3,f4,f5,f6,f7])/\f0.type=5/\f1.type=5/\f2.type=5/\f3.type=5/\f4.type=5/\f5.type=5/\f6.type=5/\f7.type=4/\f0.offset=0/\f1.offset=1/\f2.offset=2/\f3.offset=3/\f4.offset=4/\f5.offset=5/\f6.offset=6/\f7.offset=7:=⟨_,_,_,_,_,_,_,_,Tryz.underlying26,rfl,rfl,rfl,rfl,rfl,rfl,rfl,rfl,rfl,rfl,rfl,rfl,rfl,rfl,rfl,rfl⟩
theorem Zpz {H:Type}{eH:TypeId×Value->H}{W:World}{base:Nat}{sp:Nat->Bool}{held:Bool}(n:Nat)(cs:List Value)(y:DataW H×List MemPlace)(h:DataW.trod eH Tryz.prog W base sp held n 26 cs=some y):∃x:Png,cs=(ePng x).toList/\PngOk x:=by
 obtain⟨f0,f1,f2,f3,f4,f5,f6,f7,he,t0,t1,t2,t3,t4,t5,t6,t7,o0,o1,o2,o3,o4,o5,o6,o7⟩:=ZuL
 obtain⟨xs,k,hk,hxy,hlen,hxl,hf⟩:=DataW.trod_struct he h
 have hc:Tryz.prog.cellsOf 26=8:=by kernel_rfl
 rw[hc] at hlen
 match xs,hxl,cs,hlen with
 |[y0,y1,y2,y3,y4,y5,y6,y7],_,[v0,v1,v2,v3,v4,v5,v6,v7],_=>
  have g0:=hf 0 f0 rfl
  have g1:=hf 1 f1 rfl
  have g2:=hf 2 f2 rfl
  have g3:=hf 3 f3 rfl
  have g4:=hf 4 f4 rfl
  have g5:=hf 5 f5 rfl
  have g6:=hf 6 f6 rfl
  have g7:=hf 7 f7 rfl
  simp[o0,o1,o2,o3,o4,o5,o6,o7,t0,t1,t2,t3,t4,t5,t6,t7,rc5,rc4] at g0 g1 g2 g3 g4 g5 g6 g7
  obtain⟨n0,p0,_,q0⟩:=DataW.trod_int ru5 g0
  obtain⟨n1,p1,_,q1⟩:=DataW.trod_int ru5 g1
  obtain⟨n2,p2,_,q2⟩:=DataW.trod_int ru5 g2
  obtain⟨n3,p3,_,q3⟩:=DataW.trod_int ru5 g3
  obtain⟨n4,p4,_,q4⟩:=DataW.trod_int ru5 g4
  obtain⟨n5,p5,_,q5⟩:=DataW.trod_int ru5 g5
  obtain⟨n6,p6,_,q6⟩:=DataW.trod_int ru5 g6
  obtain⟨n7,p7,_⟩:=DataW.trod_bool ru4 g7
  simp only[List.cons.injEq,and_true] at p0 p1 p2 p3 p4 p5 p6 p7
  subst p0 p1 p2 p3 p4 p5 p6 p7
  exact⟨⟨n0,n1,n2,n3,n4,n5,n6,n7⟩,rfl,⟨ZbR q0,ZbR q1,ZbR q2,ZbR q3,ZbR q4,ZbR q5,ZbR q6⟩⟩
theorem ZtC :∃f0 f1 f2 f3 f4 f5,Tryz.prog.underlying 125=some (.struct #[f0,f1,f2,f3,f4,f5])/\f0.type=5/\f1.type=5/\f2.type=5/\f3.type=5/\f4.type=5/\f5.type=4/\f0.offset=0/\f1.offset=1/\f2.offset=2/\f3.offset=3/\f4.offset=4/\f5.offset=5:=⟨_,_,_,_,_,_,Tryz.underlying125,rfl,rfl,rfl,rfl,rfl,rfl,rfl,rfl,rfl,rfl,rfl,rfl⟩
theorem ZpM {H:Type}{eH:TypeId×Value->H}{W:World}{base:Nat}{sp:Nat->Bool}{held:Bool}(n:Nat)(cs:List Value)(y:DataW H×List MemPlace)(h:DataW.trod eH Tryz.prog W base sp held n 125 cs=some y):∃x:Cll,cs=(eCll x).toList/\CllOk x:=by
 obtain⟨f0,f1,f2,f3,f4,f5,he,t0,t1,t2,t3,t4,t5,o0,o1,o2,o3,o4,o5⟩:=ZtC
 obtain⟨xs,k,hk,hxy,hlen,hxl,hf⟩:=DataW.trod_struct he h
 have hc:Tryz.prog.cellsOf 125=6:=by kernel_rfl
 rw[hc] at hlen
 match xs,hxl,cs,hlen with
 |[y0,y1,y2,y3,y4,y5],_,[v0,v1,v2,v3,v4,v5],_=>
  have g0:=hf 0 f0 rfl
  have g1:=hf 1 f1 rfl
  have g2:=hf 2 f2 rfl
  have g3:=hf 3 f3 rfl
  have g4:=hf 4 f4 rfl
  have g5:=hf 5 f5 rfl
  simp[o0,o1,o2,o3,o4,o5,t0,t1,t2,t3,t4,t5,rc5,rc4] at g0 g1 g2 g3 g4 g5
  obtain⟨n0,p0,_,q0⟩:=DataW.trod_int ru5 g0
  obtain⟨n1,p1,_,q1⟩:=DataW.trod_int ru5 g1
  obtain⟨n2,p2,_,q2⟩:=DataW.trod_int ru5 g2
  obtain⟨n3,p3,_,q3⟩:=DataW.trod_int ru5 g3
  obtain⟨n4,p4,_,q4⟩:=DataW.trod_int ru5 g4
  obtain⟨n5,p5,_⟩:=DataW.trod_bool ru4 g5
  simp only[List.cons.injEq,and_true] at p0 p1 p2 p3 p4 p5
  subst p0 p1 p2 p3 p4 p5
  exact⟨⟨n0,n1,n2,n3,n4,n5⟩,rfl,⟨ZbR q0,ZbR q1,ZbR q2,ZbR q3,ZbR q4⟩⟩
structure LdOk (W:World)(x:ZT)(ps:List Png)(cs:List Cll):Prop where
 p:ArgS W (vSlc x.Pings) ePng ps
 c:ArgS W (vSlc x.Calls) eCll cs
 pk:∀z∈ps,PngOk z
 ck:∀z∈cs,CllOk z
 pl:ps.length<=140737488355328
 cl:cs.length<=140737488355328
theorem Zuj :∃f0 f1,Tryz.prog.underlying 120=some (.struct #[f0,f1])/\f0.type=117/\f1.type=118/\f0.offset=0/\f1.offset=1:=⟨_,_,Tryz.underlying120,rfl,rfl,rfl,rfl⟩
theorem ru117 :Tryz.prog.underlying 117=some (.slice 26):=by kernel_rfl
theorem ru118 :Tryz.prog.underlying 118=some (.slice 125):=by kernel_rfl
theorem ru22 :Tryz.prog.underlying 22=some (.slice 120):=by kernel_rfl
theorem rc117 :Tryz.prog.cellsOf 117=1:=by kernel_rfl
theorem rc118 :Tryz.prog.cellsOf 118=1:=by kernel_rfl
theorem rc22 :Tryz.prog.cellsOf 22=1:=by kernel_rfl
theorem rreach {n b:Nat}(h:n*b<=reachBytes)(hb:1<=b):n<=140737488355328:=by
 have h1:n*1<=n*b:=Nat.mul_le_mul_left n hb
 have h2:reachBytes<=140737488355328:=by decide
 omega
theorem ZqQ {H:Type}{eH:TypeId×Value->H}{W:World}{base:Nat}{sp:Nat->Bool}{held:Bool}(n:Nat)(cs:List Value)(y:DataW H×List MemPlace)(h:DataW.trod eH Tryz.prog W base sp held n 120 cs=some y)(hw:LeW Tryz.prog 120 y.1):∃x:ZT,cs=(Zak x).toList/\∃ps qs,LdOk W x ps qs:=by
 obtain⟨f0,f1,he,t0,t1,o0,o1⟩:=Zuj
 obtain⟨xs,k,hk,hxy,hlen,hxl,hf⟩:=DataW.trod_struct he h
 have hc:Tryz.prog.cellsOf 120=2:=by kernel_rfl
 rw[hc] at hlen
 rw[hxy] at hw
 match xs,hxl,cs,hlen,hw with
 |[y0,y1],_,[v0,v1],_,hw=>
  have g0:=hf 0 f0 rfl
  have g1:=hf 1 f1 rfl
  have w0:=Zio he hw (i:=0) (f:=f0) (d:=y0.1) rfl rfl
  have w1:=Zio he hw (i:=1) (f:=f1) (d:=y1.1) rfl rfl
  simp[o0,o1,t0,t1,rc117,rc118] at g0 g1
  rw[t0] at w0
  rw[t1] at w1
  obtain⟨s0,ps,rfl,a0,k0,l0⟩:=Zf2 (Q:=PngOk) (enc:=ePng) (k:=8) ru117 (by kernel_rfl) (fun n cs y h _=>Zpz n cs y h) g0 w0
  obtain⟨s1,qs,rfl,a1,k1,l1⟩:=Zf2 (Q:=CllOk) (enc:=eCll) (k:=6) ru118 (by kernel_rfl) (fun n cs y h _=>ZpM n cs y h) g1 w1
  exact⟨⟨s0,s1⟩,rfl,ps,qs,a0,a1,k0,k1,rreach l0 (of_decide_eq_true (by kernel_rfl)),rreach l1 (of_decide_eq_true (by kernel_rfl))⟩
theorem Zhl {W:World}:∀{xs:List ZT},(∀x∈xs,∃ps qs,LdOk W x ps qs)->∃(ps:List (List Png))(qs:List (List Cll)),xs.length=ps.length/\xs.length=qs.length/\∀i:Nat,i<xs.length->LdOk W (gi xs (i:Int)) (gi ps (i:Int)) (gi qs (i:Int))
 |[],_=>⟨[],[],rfl,rfl,fun i h=>absurd h (Nat.not_lt_zero _)⟩
 |x::xs,h=>by
  obtain⟨ps,qs,h1,h2,h3⟩:=Zhl (xs:=xs) fun z hz=>h z (.tail _ hz)
  obtain⟨p,q,h4⟩:=h x (.head _)
  refine⟨p::ps,q::qs,by simp[h1],by simp[h2],fun i hi=>?_⟩
  cases i with
  |zero=>
   rw[Zj (by simp),Zj (by simp),Zj (by simp)]
   exact h4
  |succ i=>
   have hi':i<xs.length:=by simpa using hi
   have h5:=h3 i hi'
   rw[Zj hi',Zj (by omega),Zj (by omega)] at h5
   rw[Zj hi,Zj (by simp;omega),Zj (by simp;omega)]
   simpa using h5
theorem Zsk :∃f0 f1 f2,Tryz.prog.underlying 24=some (.struct #[f0,f1,f2])/\f0.type=22/\f1.type=5/\f2.type=5/\f0.offset=0/\f1.offset=1/\f2.offset=2:=⟨_,_,_,Tryz.underlying24,rfl,rfl,rfl,rfl,rfl,rfl⟩
theorem Znw {H:Type}{eH:TypeId×Value->H}{W:World}{base b0:Nat}{r:Reach}{held:Bool}{v:Value}{d:DataW H}{p:List MemPlace}(hv:Value.okWide Tryz.prog W r b0 24 v)(h:DataW.Trod eH Tryz.prog W base (fun _=>true) held 24 v d p)(hw:LeW Tryz.prog 24 d):
  ∃(sl:Sl)(a b:Int)(ls:List ZT)(ps:List (List Png))(cs:List (List Cll)),v= .agg (ZK ⟨sl,a,b⟩)/\WldIn W sl ls ps cs/\Bt a/\Bt b:=by
 obtain⟨f0,f1,f2,he,t0,t1,t2,o0,o1,o2⟩:=Zsk
 simp only[Value.okWide,he] at hv
 obtain⟨cs,rfl,hs,_⟩:=hv
 have h3:cs.size=3:=by rw[hs];kernel_rfl
 obtain⟨fuel,hf⟩:=h
 obtain⟨xs,k,hk,hxy,_,hxl,hg⟩:=DataW.trod_struct he hf
 obtain rfl:d= .agg (xs.map (·.1)):=congrArg Prod.fst hxy
 clear hxy
 match cs,h3,xs,hxl,hg,hw with
 |⟨[c0,c1,c2]⟩,_,[y0,y1,y2],_,hg,hw=>
  have g0:=hg 0 f0 rfl
  have g1:=hg 1 f1 rfl
  have g2:=hg 2 f2 rfl
  have w0:=Zio he hw (i:=0) (f:=f0) (d:=y0.1) rfl rfl
  simp[Value.cells,o0,o1,o2,t0,t1,t2,rc5,rc22] at g0 g1 g2
  rw[t0] at w0
  obtain⟨n1,p1,_,q1⟩:=DataW.trod_int ru5 g1
  obtain⟨n2,p2,_,q2⟩:=DataW.trod_int ru5 g2
  simp only[List.cons.injEq,and_true] at p1 p2
  subst p1 p2
  obtain⟨s0,ls,rfl,a0,k0,l0⟩:=Zf2 (Q:=fun x=>∃ps qs,LdOk W x ps qs) (enc:=Zak) (k:=2) ru22 (by kernel_rfl) (fun n cs y h hw=>ZqQ n cs y h hw) g0 w0
  obtain⟨ps,qs,h1,h2,h3⟩:=Zhl k0
  refine⟨s0,n1,n2,ls,ps,qs,rfl,⟨a0,h1,h2,fun i hi=>(h3 i hi).p,fun i hi=>(h3 i hi).c,fun l hl=>?_,fun l hl=>?_, ?_,fun l hl=>?_,fun l hl=>?_⟩,ZbR q1,ZbR q2⟩
  ·obtain⟨i,hi,rfl⟩:=List.getElem_of_mem hl
   rw[<-Zj hi]
   exact(h3 i (by omega)).pk
  ·obtain⟨i,hi,rfl⟩:=List.getElem_of_mem hl
   rw[<-Zj hi]
   exact(h3 i (by omega)).ck
  ·have:=rreach l0 (of_decide_eq_true (by kernel_rfl))
   omega
  ·obtain⟨i,hi,rfl⟩:=List.getElem_of_mem hl
   rw[<-Zj hi]
   exact(h3 i (by omega)).pl
  ·obtain⟨i,hi,rfl⟩:=List.getElem_of_mem hl
   rw[<-Zj hi]
   exact(h3 i (by omega)).cl
def cAcc :Array Value:=#[.int .u8 128, .int .u8 191, .int .u8 160, .int .u8 191, .int .u8 128, .int .u8 159, .int .u8 144, .int .u8 191, .int .u8 128, .int .u8 143, .int .u8 0, .int .u8 0, .int .u8 0, .int .u8 0, .int .u8 0, .int .u8 0, .int .u8 0, .int .u8 0, .int .u8 0, .int .u8 0, .int .u8 0, .int .u8 0, .int .u8 0, .int .u8 0, .int .u8 0, .int .u8 0, .int .u8 0, .int .u8 0, .int .u8 0, .int .u8 0, .int .u8 0, .int .u8 0]
def cFirst :Array Value:=(Pinned.utf8FirstZ.map fun(n:Nat)=>Value.int .u8 (n:Int)).toArray
def putCells (cs:Array Value):Obj->Obj
 | .cells _ t frozen=> .cells cs t frozen
 |o=>o
noncomputable def laidWorld (os:Os):World:=
 {World.holding Tryz.prog os ⟨#[],#[],[]⟩ with heap:=((World.holding Tryz.prog os ⟨#[],#[],[]⟩).heap.modify 1 (putCells cFirst)).modify 2 (putCells cAcc)}
theorem Zrt (os:Os)(args:Array Value):laidMet Tryz.prog Rows.reconstructExplainsRow.laid ((laidWorld os).forCall (fun _ _=>0) ⟨#[],args,[]⟩).memory:=
 laidMet_of_run3 8 (by kernel_rfl) (by kernel_rfl) (by kernel_rfl)
end Go.Proofs.YtjicdlilgjdefaaGreatDoor
namespace Go.Vt
open Go.RowKit Go.Proofs
open Go.Proofs.Tryz (prog)
section
open Fv (va red)
theorem ZoL {is:List Ze}(hp:∀i j:Nat,i<j->j<is.length->bLe (bdL (gi is (i:Int))) (bdF (gi is (j:Int))))(hv:∀i:Nat,i<is.length->bLe (bdF (gi is (i:Int))) (bdL (gi is (i:Int)))):∀m,m<=is.length->((evA is m).Pairwise (fun x y=>bLe x.b y.b)/\∀x∈evA is m,∃j:Nat,j<m/\bLe x.b (bdL (gi is (j:Int))))
 |0,_=>⟨List.Pairwise.nil,(fun x hx=>by cases hx)⟩
 |m+1,hm=>by
  obtain⟨h1,h2⟩:=ZoL hp hv m (by omega)
  have hm':=hv m (by omega)
  rw[evA]
  refine⟨?_,fun x hx=>?_⟩
  ·rw[List.pairwise_append]
   refine⟨h1, ?_,fun x hx y hy=>?_⟩
   ·refine List.Pairwise.cons (fun y hy=>?_) (List.pairwise_singleton _ _)
    rw[List.mem_singleton.1 hy]
    exact hm'
   ·obtain⟨j,hj,hle⟩:=h2 x hx
    have h3:=Zjz hle (hp j m hj (by omega))
    rcases List.mem_cons.1 hy with k|k
    ·rw[k];exact h3
    ·rw[List.mem_singleton.1 k];exact Zjz h3 hm'
  ·rcases List.mem_append.1 hx with k|k
   ·obtain⟨j,hj,hle⟩:=h2 x k
    exact⟨j,by omega,hle⟩
   ·refine⟨m,by omega, ?_⟩
    rcases List.mem_cons.1 k with k|k
    ·rw[k];exact hm'
    ·rw[List.mem_singleton.1 k]
     unfold bLe
     grind
theorem Zvq {xs:List Ev}(h:xs.Pairwise (fun x y=>bLe x.b y.b)):OrdE xs:=fun p q hpq hq hc=>by
 have h1:=List.pairwise_iff_getElem.1 h p q (by omega) hq hpq
 rw[<-Zj (by omega),<-Zj hq] at h1
 have h2:=ZmE hc
 have h3:=Zk2.2 ⟨h2,h1⟩
 have hc':cmpB (gi xs (q:Int)).b (gi xs (p:Int)).b<0:=hc
 omega
theorem Zvc {l:List PU}(h:PNf l):OrdE (evA (pIv l) (pIv l).length++evB [] ([]:List Ze).length):=by
 have hg:∀i:Nat,i<l.length->gi (l.map (·.In)) (i:Int)=(gi l (i:Int)).In:=fun i hi=>Zwc hi
 rw[Zhs]
 show OrdE (evA (l.map (·.In)) (l.map (·.In)).length++[])
 rw[Wh]
 refine Zvq (ZoL (fun i j hij hj=>?_) (fun i hi=>?_) _ (Wl _)).1
 ·rw[Ws] at hj
  rw[hg i (by omega),hg j hj]
  have:=(h.ad hij hj).bf
  unfold GU.bfr at this
  simp only[absP,absU,toU] at this
  unfold bLe bdL bdF
  simp only
  grind
 ·rw[Ws] at hi
  rw[hg i hi]
  exact ZqA (h.ok hi)
theorem ZuG {K n:Nat}{l:List PU}(h:PGood K n l)(hK:K<=LQ)(hn:n<=24):SwOk (pIv l) []:=by
 obtain⟨-, -, -,h4⟩:=Zj1 h
 have hl:=h.n
 refine⟨.inr ⟨Zvc h.nf, ?_⟩,fun i hi=>⟨(h4 i hi).1.ok hK,(h4 i hi).2.ok hK⟩,fun i hi=>by cases hi⟩
 rw[Zhs,Ws,Wx]
 omega
theorem ZsU (l:List PU):(pDom l).length<=2*l.length:=by
 have h1:=ZhE kpU (srtE (evK (pIv l) [] 2) ((evK (pIv l) [] 2).length-1)) (srtE (evK (pIv l) [] 2) ((evK (pIv l) [] 2).length-1)).length
 have h2:=(Zev (evK (pIv l) [] 2)).length_eq
 have h3:=ZuW (pIv l) []
 have h4:(pIv l).length=l.length:=by rw[Zhs,Ws]
 simp only[Wx] at h3
 unfold pDom swpR
 omega
end
section
theorem Zng (v:Int)(l:List Zc):Inc (spL (kpT v l)):=fun i hi=>by
 rw[Zdj,Zc8] at hi
 have hok:=Zo6 (cCp v l) l.length hi
 have hg:∀j:Nat,j<(chainL (cCp v l) l.length).length->gi (spL (kpT v l)) (j:Int)=smT (gi l (((chainL (cCp v l) l.length).getD j 0:Nat):Int)):=fun j hj=>by
  rw[show gi (spL (kpT v l)) (j:Int)=smT (gi (kpT v l) (j:Int)) from ZeO (f:=smT) (by rw[Zc8];exact hj)]
  rw[Zj (by rw[Zc8];exact hj)]
  simp only[kpT,List.getElem_map,List.getD_eq_getElem?_getD,List.getElem?_eq_getElem hj,Option.getD_some]
 rw[hg i (by omega),hg (i+1) hi]
 have h1:cpt v (gi l (((chainL (cCp v l) l.length).getD i 0:Nat):Int)) (gi l (((chainL (cCp v l) l.length).getD (i+1) 0:Nat):Int))=true:=hok
 unfold cpt at h1
 rw[Wq] at h1
 have h2:=Wa h1.1
 show(gi l _).T<(gi l _).T
 grind
def trT (s:ZR)(T:List Zc):List PU:=(thrT (kpT s.MaxSpeed T) s.MaxGap (kpT s.MaxSpeed T).length).1
theorem Znn (s:ZR)(T:List Zc):trT s T=(thrT (kpT s.MaxSpeed T) s.MaxGap (kpT s.MaxSpeed T).length).1:=rfl
structure TrX (s:ZR)(l:List (Zb×Bool))(x:List (Za×Bool)):Prop where
 k:KtX s.MaxSpeed l x
 g: -2147483648<=s.MaxGap/\s.MaxGap<=2147483648
set_option maxHeartbeats 8000000 in
theorem ZnK (w0 w:World)(L:List Blk)(px:Nat)(l:List (Zb×Bool))(x:List (Za×Bool))(o:Int)(s:ZR)[h:InkX w0 L px l x](hw:Own w0 L w)(hk:TrX s l x):
  Calls prog 21 [.pointer (some ⟨px,0,none⟩), .int .i64 o, .agg (Zv s)].toArray w (RetM (SlS rP 36 (trT s (tmX l x o))) (fun s=> .tuple #[vSl s, .int .i64 0]) (fun s=>mS 115 s) w):=by
 have hin:=h.all hw
 have hl:=hk.k.ok.len (o:=o)
 have hcn:=Zco (cCp s.MaxSpeed (tmX l x o)) (tmX l x o).length
 have hkl:=Zc8 s.MaxSpeed (tmX l x o)
 have hkk:=hk.k
 have hpt:(kpT s.MaxSpeed (tmX l x o)).length<=19/\(∀z∈kpT s.MaxSpeed (tmX l x o),TkOk z)/\Inc (spL (kpT s.MaxSpeed (tmX l x o)))/\(-2147483648<=s.MaxGap/\s.MaxGap<=2147483648):=⟨by omega,fun z hz=>hk.k.ok.tk w z (Zgs hz),Zng _ _,hk.g⟩
 refine Zg Tryz.func21 rfl Tryz.ntmps21 rfl ?_
 repeat(first|(refine wkM ?_;intros)|(refine wnM ?_ ?_;(focus(exact hkk));intros))
 rename_i b5 s1 o1
 generalize hT:tmX l x o=T at*
 generalize hK:kpT s.MaxSpeed T=K at*
 obtain⟨o2,e1,e2⟩:=SlS.turn 115 (show(thrT K s.MaxGap K.length).1=trT s T by rw[Znn,hK]) o1
 refine ZA rfl (Zk rfl) (Zk rfl) (fun w hw=>⟨o2, ?_, ?_⟩)
 ·show Ending.returned (.tuple #[vSl o1, .int .i64 0])=Ending.returned (.tuple #[vSl o2, .int .i64 0])
  rw[e1]
 ·show Own _ (mS 115 o2) w
  rw[e2]
  exact hw.sub suB
instance (priority :=high) ZCZ (w0:World)(L:List Blk)(px:Nat)(l:List (Zb×Bool))(x:List (Za×Bool))(o:Int)(s:ZR)[h:InkX w0 L px l x]:SpecR prog w0 L 21 [.pointer (some ⟨px,0,none⟩), .int .i64 o, .agg (Zv s)] (SlS rP 36 (trT s (tmX l x o))) (fun s=> .tuple #[vSl s, .int .i64 0]) (fun s=>mS 115 s) (TrX s l x):=⟨fun hp w hw=>ZnK w0 w L px l x o s hw hp⟩
end
section
def dI (n:Nat):List Int:=(le n).map fun b=>(b.toNat:Int)
def vgI :List Int->Int
 |[]=>0
 |d::l=>d+256*vgI l
def D8 (l:List Int):Prop:=∀d∈l,0<=d/\d<256
theorem Zia :dI 0=[]:=rfl
theorem Zf8 {n:Nat}(h:n≠0):dI n=((n % 256:Nat):Int)::dI (n / 256):=by
 unfold dI
 rw[Zcq h,List.map_cons,toNat_ofNat]
theorem Zbk :∀n:Nat,vgI (dI n)=n:=by
 intro n
 induction n using Nat.strongRecOn with
 |_ n ih=>
  by_cases h:n=0
  ·subst h;rfl
  ·rw[Zf8 h,vgI,ih (n / 256) (by omega)]
   omega
theorem Zcj (n:Nat):D8 (dI n):=fun d hd=>by
 unfold dI at hd
 obtain⟨b, -,rfl⟩:=List.mem_map.1 hd
 have:=UInt8.toNat_lt b
 omega
theorem Zar {n k:Nat}:(dI n).length<=k↔n<256 ^ k:=by
 unfold dI
 rw[Ws]
 exact Zp1
theorem ZeX {n:Nat}:dI n=[]↔n=0:=by
 constructor
 ·intro h
  have:=Zbk n
  rw[h] at this
  simp[vgI] at this
  omega
 ·rintro rfl
  rfl
theorem D8.cons {d:Int}{l:List Int}(h:D8 (d::l)):(0<=d/\d<256)/\D8 l:=⟨h d (.head _),fun x hx=>h x (.tail _ hx)⟩
theorem Zcv :∀{l:List Int},D8 l->0<=vgI l
 |[],_=>by simp[vgI]
 |d::l,h=>by
  have:=Zcv h.cons.2
  have:=h.cons.1
  simp only[vgI]
  omega
theorem Zd7 :∀{l:List Int},D8 l->vgI l<256 ^ l.length
 |[],_=>by simp[vgI]
 |d::l,h=>by
  have h1:=Zd7 h.cons.2
  have h2:=h.cons.1
  simp only[vgI,Wu,Int.pow_succ]
  omega
theorem ZhB (l m:List Int):vgI (l++m)=vgI l+256 ^ l.length*vgI m:=by
 induction l with
 |nil=>simp[vgI]
 |cons b l ih=>
  simp only[Wf,vgI,ih,Wu,Int.pow_succ,Int.mul_add]
  rw[Int.mul_comm (256 ^ l.length) 256,Int.mul_assoc]
  omega
theorem D8.append {l m:List Int}(h:D8 l)(k:D8 m):D8 (l++m):=fun d hd=>(List.mem_append.1 hd).elim (h d) (k d)
theorem D8.take {l:List Int}(h:D8 l)(i:Nat):D8 (l.take i):=fun d hd=>h d (List.mem_of_mem_take hd)
theorem D8.drop {l:List Int}(h:D8 l)(i:Nat):D8 (l.drop i):=fun d hd=>h d (List.mem_of_mem_drop hd)
theorem D8.set {l:List Int}(h:D8 l)(i:Nat){x:Int}(hx:0<=x/\x<256):D8 (l.set i x):=fun d hd=>by
 rcases List.mem_or_eq_of_mem_set hd with h1|h1
 ·exact h d h1
 ·rw[h1];exact hx
theorem D8.gi {l:List Int}(h:D8 l){i:Int}:0<=gi l i/\gi l i<256:=by
 by_cases hi:i.toNat<l.length
 ·rw[Zc1 hi]
  exact h _ (List.getElem_mem _)
 ·unfold Go.Vt.gi
  rw[List.getD_eq_getElem?_getD,List.getElem?_eq_none (by omega)]
  exact⟨Int.le_refl _,by decide⟩
theorem Zqj :D8 []:=fun d hd=>by cases hd
theorem Zke {d:Int}(h:0<=d/\d<256):D8 [d]:=fun x hx=>by rw[Wo] at hx;rw[hx];exact h
theorem ZbV {l:List Int}{i:Nat}(h:i<l.length):vgI (l.take (i+1))=vgI (l.take i)+256 ^ i*gi l (i:Int):=by
 rw[Wn h,ZhB,Wt,Nat.min_eq_left (Nat.le_of_lt h),Zj h]
 simp[vgI]
theorem ZkX (l:List Int)(d:Int):vgI (l++[d])=vgI l+256 ^ l.length*d:=by
 rw[ZhB]
 simp[vgI]
theorem Zf7 {l:List Int}{i:Nat}(h:l.length<=i):vgI (l.take i)=vgI l:=by rw[List.take_of_length_le h]
theorem Zmd :∀{l:List Int} {i:Nat} {x:Int},i<l.length->vgI (l.set i x)=vgI l+256 ^ i*(x-gi l (i:Int))
 |[],i,x,h=>by simp at h
 |b::l,0,x,h=>by
  rw[Zj h]
  simp[vgI]
  omega
 |b::l,i+1,x,h=>by
  have hi:i<l.length:=by simpa using h
  have ih:=Zmd (l:=l) (i:=i) (x:=x) hi
  rw[Zj h]
  rw[Zj hi] at ih
  simp only[List.set_cons_succ,vgI,List.getElem_cons_succ,Int.pow_succ,ih,Int.mul_add]
  rw[<-Int.mul_assoc,Int.mul_comm 256 (256 ^ i)]
  omega
theorem ZrO (n:Nat):vgI (List.replicate n 0)=0:=by
 induction n with
 |zero=>rfl
 |succ n ih=>simp only[List.replicate_succ,vgI,ih];omega
theorem ZmR (n:Nat):D8 (List.replicate n 0):=fun d hd=>by rw[(List.mem_replicate.1 hd).2];decide
def tzN (l:List Int):Nat->Nat
 |0=>0
 |n+1=>if gi l (n:Int)=0 then tzN l n else n+1
theorem Zhp (l:List Int):∀n,tzN l n<=n
 |0=>Wl _
 |n+1=>by
  have:=Zhp l n
  rw[tzN]
  split <;> omega
theorem Zl4 {l:List Int}:∀n,n<=l.length->vgI (l.take (tzN l n))=vgI (l.take n)
 |0,_=>rfl
 |n+1,h=>by
  have ih:=Zl4 n (Nat.le_of_lt h)
  rw[tzN]
  split
  ·rename_i h0
   rw[ih,ZbV h,h0]
   omega
  ·rfl
theorem Znd {l:List Int}:∀n,n<=l.length->tzN l n≠0->gi l ((tzN l n-1:Nat):Int)≠0
 |0,_,h=>absurd rfl h
 |n+1,h,h1=>by
  have ih:=Znd n (Nat.le_of_lt h)
  rw[tzN] at h1⊢
  split
  ·rename_i h0
   rw[if_pos h0] at h1
   exact ih h1
  ·rename_i h0
   exact h0
theorem Zvi {l:List Int}(h:D8 l)(ht:l≠[]->gi l ((l.length-1:Nat):Int)≠0):dI (vgI l).toNat=l:=by
 induction l with
 |nil=>rfl
 |cons d l ih=>
  obtain⟨h1,h2⟩:=h.cons
  have hn:=Zcv h2
  have ht':l≠[]->gi l ((l.length-1:Nat):Int)≠0:=fun hl=>by
   have:=ht (by simp)
   have hp:0<l.length:=List.length_pos_iff.2 hl
   rw[Zj (by simp)] at this
   rw[Zj (by omega)]
   simp only[Wu,Nat.add_sub_cancel] at this
   rw[List.getElem_cons,dif_neg (by omega)] at this
   exact this
  have ih:=ih h2 ht'
  have hne:(vgI (d::l)).toNat≠0:=by
   intro h0
   simp only[vgI] at h0
   have hv:vgI l=0:=by omega
   rw[hv] at ih
   have hl:l=[]:=ih.symm
   subst hl
   have:=ht (by simp)
   rw[Zj (by simp)] at this
   simp at this
   simp[vgI] at h0
   omega
  rw[Zf8 hne]
  simp only[vgI] at hne⊢
  have e1:(((d+256*vgI l).toNat % 256:Nat):Int)=d:=by omega
  have e2:(d+256*vgI l).toNat / 256=(vgI l).toNat:=by omega
  rw[e1,e2,ih]
theorem Zmg {l:List Int}(h:D8 l):l.take (tzN l l.length)=dI (vgI l).toNat:=by
 have h1:=Zhp l l.length
 have h2:=Zl4 (l:=l) l.length (Wl _)
 have h3:=Znd (l:=l) l.length (Wl _)
 rw[List.take_length] at h2
 have hl:(l.take (tzN l l.length)).length=tzN l l.length:=by rw[Wt];omega
 rw[<-h2,Zvi (h.take _) fun hne=>?_]
 rw[hl]
 have h0:tzN l l.length≠0:=fun h0=>hne (by rw[h0];rfl)
 have h4:=h3 h0
 rw[Zj (by rw[hl];omega),List.getElem_take]
 rw[Zj (by omega)] at h4
 exact h4
def cmD (a b:List Int):Nat->Int
 |0=>0
 |i+1=>if gi a (i:Int)<gi b (i:Int) then-1 else if gi b (i:Int)<gi a (i:Int) then 1 else cmD a b i
theorem Ze7 (i:Nat):(0:Int)<256 ^ i:=Int.pow_pos (by decide)
theorem Zm2 {a b:List Int}(ha:D8 a)(hb:D8 b):∀i,i<=a.length->i<=b.length->cmD a b i=Lib.compareInt (vgI (a.take i)) (vgI (b.take i))
 |0,_,_=>by simp[cmD,Lib.compareInt]
 |i+1,h1,h2=>by
  have ih:=Zm2 ha hb i (by omega) (by omega)
  have l1:=Zd7 (ha.take i)
  have l2:=Zd7 (hb.take i)
  have n1:=Zcv (ha.take i)
  have n2:=Zcv (hb.take i)
  rw[Wt,Nat.min_eq_left (by omega)] at l1 l2
  have key:∀x y:Int,x<y->256 ^ i*x+256 ^ i<=256 ^ i*y:=fun x y hxy=>by
   have:=Int.mul_le_mul_of_nonneg_left (show x+1<=y by omega) (Int.le_of_lt (Ze7 i))
   rw[Int.mul_add,Int.mul_one] at this
   exact this
  rw[cmD,ZbV (by omega),ZbV (by omega)]
  generalize gi a (i:Int)=x at*
  generalize gi b (i:Int)=y at*
  unfold Lib.compareInt at*
  by_cases c1:x<y
  ·have:=key x y c1
   rw[if_pos c1,if_pos (by omega)]
  ·rw[if_neg c1]
   by_cases c2:y<x
   ·have:=key y x c2
    rw[if_pos c2,if_neg (by omega),if_pos (by omega)]
   ·rw[if_neg c2,ih]
    have e:x=y:=by omega
    subst e
    split
    ·rw[if_pos (by omega)]
    ·split
     ·rw[if_neg (by omega),if_pos (by omega)]
     ·rw[if_neg (by omega),if_neg (by omega)]
theorem Zwd (m n:Nat):(if(dI m).length≠(dI n).length then(if(dI m).length<(dI n).length then-1 else 1) else cmD (dI m) (dI n) (dI m).length)=Lib.compareInt (m:Int) n:=by
 have hlt:∀x y:Nat,(dI x).length<(dI y).length->x<y:=fun x y h=>by
  have h1:x<256 ^ (dI x).length:=Zar.1 (Wl _)
  have h2:¬y<256 ^ (dI x).length:=fun h2=>by
   have:=Zar.2 h2
   omega
  omega
 split
 ·rename_i h
  unfold Lib.compareInt
  split
  ·rename_i h1
   have:=hlt _ _ h1
   rw[if_pos (by omega)]
  ·rename_i h1
   have:=hlt n m (by omega)
   rw[if_neg (by omega),if_pos (by omega)]
 ·rename_i h
  have h:(dI m).length=(dI n).length:=Decidable.not_not.1 h
  rw[Zm2 (Zcj m) (Zcj n) _ (Wl _) (by omega),Zf7 (Wl _),Zf7 (by omega),Zbk,Zbk]
end
section
def tkV (m:Nat):Value->Value
 | .slice p _ c=> .slice p m c
 |v=>v
theorem hcap {α:Type}{enc:α->Array Value}{xs:List α}{w:World}{p:Option Addr}{c:Nat}(hv:ArgS w (.slice p xs.length c) enc xs):xs.length<=c:=by
 rcases hv.out with⟨h1,h2⟩|⟨a,c',h1,h2, -⟩
 ·rw[h2];exact Wm _
 ·injection h1 with _ _ e;omega
set_option maxHeartbeats 4000000 in
theorem Zn5 (v:Value)(xs:List Int)(w:World)(hv:ArgS w v (eI .i64) xs)(hl:xs.length<=1125899906842624):
  Calls prog 312 [v].toArray w (Ret (tkV (tzN xs xs.length) v) w):=by
 obtain⟨p,cp,rfl⟩:=hv.form
 have hcp:=hcap hv
 refine Zg Tryz.func312 rfl Tryz.ntmps312 rfl ?_
 repeat(refine wkM ?_;intros)
 refine ZeD (S:=Nat) (fun k=>k<=xs.length/\k=tzN xs xs.length) (fun k=>[(0, .slice p xs.length cp),(3, .int .i64 (k:Nat))]) (fun _=>[]) ?_ (fun k hk=>?_)
 ·refine Zm (S:=Nat) (fun k=>k<=xs.length/\tzN xs k=tzN xs xs.length) (fun k=>[(0, .slice p xs.length cp),(3, .int .i64 (k:Nat))]) (fun _=>[]) (fun k=>k) xs.length ⟨Wl _,rfl⟩ sbB slB (fun k hk=>?_)
  obtain⟨hk,hpos⟩:=hk
  rcases k with _|j
  ·repeat(refine wkM ?_;intros)
   exact Zt 0 ⟨Wm _,hpos⟩ sbB slB
  ·have hlt:j<xs.length:=hk
   obtain⟨bw,ow,rfl,hrow'⟩:=hv.opn (k:=0) hlt
   have e1:((j+1:Nat):Int)-1=(j:Int):=by omega
   rw[tzN] at hpos
   repeat(refine wkM ?_;intros)
   simp only[Wc (show(0:Int)<((j+1:Nat):Int) by omega)]
   repeat(refine wkM ?_;intros)
   simp only[e1]
   repeat(refine wkM ?_;intros)
   by_cases c1:gi xs (j:Int)=0
   ·rw[if_pos c1] at hpos
    simp only[Wc c1]
    repeat(refine wkM ?_;intros)
    try simp only[e1]
    exact Zh j ⟨Nat.le_of_lt hlt,hpos⟩ sbB slB (Nat.lt_succ_self _)
   ·rw[if_neg c1] at hpos
    simp only[We c1]
    repeat(refine wkM ?_;intros)
    exact Zt (j+1) ⟨hk,hpos⟩ sbB slB
 ·obtain⟨hk,hpos⟩:=hk
  repeat(refine wkM ?_;intros)
  rw[hpos]
  exact rtT rfl rfl
instance ZES (w0:World)(L:List Blk)(v:Value)(xs:List Int)[h:LstC w0 L v Int (eI .i64) xs]:SpecM prog w0 L 312 [v] (tkV (tzN xs xs.length) v) (xs.length<=1125899906842624):=⟨fun hl w hw=>Zn5 v xs w (h.out w hw) hl⟩
theorem SlS.trim {xs:List Int}(s:SlS (eI .i64) 1 xs)(h:D8 xs):∃f:FlS (eI .i64) 1 (dI (vgI xs).toNat),vF f=tkV (tzN xs xs.length) (vSl s)/\∀T,mF T f=mS T s:=by
 have h1:=Zhp xs xs.length
 have h2:=Zmg h
 have hlen:=congrArg List.length h2
 rw[Wt,Nat.min_eq_left h1] at hlen
 obtain⟨t,hn,hk⟩:=s
 cases t with
 |none=>
  have h0:=hn.1 rfl
  subst h0
  refine⟨⟨none,fun _=>rfl,fun t ht=>by cases ht⟩, ?_,fun T=>rfl⟩
  rfl
 |some t=>
  obtain⟨k1,k2⟩:=hk t rfl
  refine⟨⟨some (t.1,t.2.1,((xs.drop (tzN xs xs.length)).map fun x=>Value.int .i64 x)++t.2.2),(fun h=>by cases h),fun t' ht=>?_⟩, ?_,fun T=>?_⟩
  ·injection ht with ht
   subst ht
   show(dI (vgI xs).toNat).length<=t.2.1/\(((xs.drop (tzN xs xs.length)).map fun x=>Value.int .i64 x)++t.2.2).length=(t.2.1-(dI (vgI xs).toNat).length)*1
   rw[Wp,Ws,List.length_drop]
   omega
  ·show Value.slice (some ⟨t.1,0,none⟩) (dI (vgI xs).toNat).length t.2.1=_
   rw[<-hlen]
   rfl
  ·show [(⟨t.1,row (eI .i64) (dI (vgI xs).toNat) _,T⟩:Blk)]=[⟨t.1,row (eI .i64) xs t.2.2,T⟩]
   have e:row (eI .i64) (dI (vgI xs).toNat) (((xs.drop (tzN xs xs.length)).map fun x=>Value.int .i64 x)++t.2.2)=row (eI .i64) xs t.2.2:=by
    rw[<-h2]
    unfold row
    congr 1
    rw[<-List.append_assoc]
    congr 1
    conv=>rhs;rw[<-List.take_append_drop (tzN xs xs.length) xs]
    unfold rowL
    rw[List.flatMap_append]
    congr 1
    generalize xs.drop (tzN xs xs.length)=ys
    induction ys with
    |nil=>rfl
    |cons y ys ih=>rw[List.map_cons,List.flatMap_cons,ih];rfl
   rw[e]
end
section
def bI (s:ByteArray):List Int:=s.data.toList.reverse.map fun b=>(b.toNat:Int)
theorem Zo5 (s:ByteArray):(bI s).length=s.size:=by
 unfold bI
 rw[Ws,List.length_reverse]
 rfl
theorem ZyT (s:ByteArray):D8 (bI s):=fun d hd=>by
 obtain⟨b, -,rfl⟩:=List.mem_map.1 hd
 have:=UInt8.toNat_lt b
 omega
theorem ZvT (n:Nat):bI (mag n)=dI n:=by
 unfold bI mag dI
 simp
theorem ZwH {s:ByteArray}{k:Nat}(h:k<s.size):∃u:UInt8,s[(((s.size:Int)-1-(k:Int))).toNat]? =some u/\gi (bI s) (k:Int)=(u.toNat:Int):=by
 have e:((s.size:Int)-1-(k:Int)).toNat=s.size-1-k:=by omega
 have hd:s.data.toList.length=s.size:=rfl
 refine⟨s.data.toList[s.size-1-k]'(by omega), ?_, ?_⟩
 ·rw[e]
  show s.data[s.size-1-k]? =_
  rw[Array.getElem?_eq_getElem (show s.size-1-k<s.data.size by have:s.data.size=s.size:=rfl;omega)]
  simp
 ·rw[Zj (by rw[Zo5];exact h)]
  unfold bI
  rw[List.getElem_map,List.getElem_reverse]
  rfl
def bN (s:ByteArray):Nat:=(vgI (bI s)).toNat
theorem Zp2 (n:Nat):bN (mag n)=n:=by
 unfold bN
 rw[ZvT,Zbk]
 rfl
set_option maxHeartbeats 4000000 in
theorem Zla (x:Zan)(w:World)(hl:x.Mag.size<=1099511627776):
  Calls prog 311 [.agg (ZM x)].toArray w (RetM (FlS (eI .i64) 1 (dI (bN x.Mag))) (fun s=>vF s) (fun s=>mF 3 s) w):=by
 have hbl:=Zo5 x.Mag
 have hb8:=ZyT x.Mag
 refine Zg Tryz.func311 rfl Tryz.ntmps311 rfl ?_
 repeat(refine wkM ?_;intros)
 rename_i b1
 rw[show(x.Mag.size:Int)-1=(x.Mag.size:Int)-1-((0:Nat):Int) by omega]
 refine Zm (S:=(k:Nat)×SlS (eI .i64) 1 ((bI x.Mag).take k)) (fun q=>q.1<=x.Mag.size) (fun q=>[(1, .pointer (some ⟨b1,0,none⟩)),(3,vSl q.2),(4, .int .i64 ((x.Mag.size:Int)-1-(q.1:Nat)))]) (fun q=>mS 3 q.2++[⟨b1,ZM x,52⟩]) (fun q=>x.Mag.size-q.1) ⟨0,SlS.no⟩ (Wm _) sbB suB (fun q hk=>?_)
 obtain⟨k,o⟩:=q
 simp only at hk⊢
 have hol:((bI x.Mag).take k).length=k:=by rw[Wt];omega
 repeat(refine wkM ?_;intros)
 refine Zl rfl (fun h=>?_) (fun h=>?_)
 ·have hlt:k<x.Mag.size:=by have:=Wa h;omega
  obtain⟨u,hu,hg⟩:=ZwH hlt
  have hu8:=UInt8.toNat_lt u
  have hnx:(bI x.Mag).take (k+1)=(bI x.Mag).take k++[(u.toNat:Int)]:=by rw[Wn (by omega),<-hg,Zj (by omega)]
  have e1:(x.Mag.size:Int)-1-(k:Nat)-1=(x.Mag.size:Int)-1-((k+1:Nat):Int):=by omega
  repeat(refine wkM ?_;intros)
  refine jq (ZcX rfl rfl (by omega) hu) rfl rfl ?_
  repeat(refine wkM ?_;intros)
  refine sU rfl rfl ?_ ?_ ?_ ?_
  ·rfl
  ·rfl
  ·exact⟨by decide,by omega,by omega⟩
  intro o'
  repeat(refine wkO ?_;intros)
  obtain⟨o3,f1,f2⟩:=SlS.turn 3 hnx.symm o'
  simp only[e1]
  exact Zh ⟨k+1,o3⟩ hlt (by simp only[f1];exact sbB) (by simp only[f2];exact suB) (by show x.Mag.size-(k+1)<x.Mag.size-k;omega)
 ·obtain rfl:k=x.Mag.size:=by have:=Wb h;omega
  obtain⟨o3,f1,f2⟩:=SlS.turn 3 (show(bI x.Mag).take x.Mag.size=bI x.Mag by rw[List.take_of_length_le (by omega)]) o
  rw[<-f1,<-f2]
  have hl':(bI x.Mag).length<=1125899906842624:=by omega
  repeat(first|(refine wkM ?_;intros)|(refine wnM ?_ ?_;(focus(exact hl'));intros))
  obtain⟨f,g1,g2⟩:∃f:FlS (eI .i64) 1 (dI (bN x.Mag)),vF f=tkV (tzN (bI x.Mag) (bI x.Mag).length) (vSl o3)/\∀T,mF T f=mS T o3:=o3.trim hb8
  exact Zy rfl rfl (fun w hw=>⟨f,by show Ending.returned _=Ending.returned (vF f);rw[g1],by show Own _ (mF _ f) _;rw[g2];exact hw.sub suB⟩)
instance Zya (w0:World)(L:List Blk)(x:Zan):SpecR prog w0 L 311 [.agg (ZM x)] (FlS (eI .i64) 1 (dI (bN x.Mag))) (fun s=>vF s) (fun s=>mF 3 s) (x.Mag.size<=1099511627776):=⟨fun hl w _=>Zla x w hl⟩
set_option maxHeartbeats 4000000 in
theorem ZpH (v1 v2:Value)(m n:Nat)(w:World)(h1:ArgS w v1 (eI .i64) (dI m))(h2:ArgS w v2 (eI .i64) (dI n))(hl:(dI m).length<=1125899906842624/\(dI n).length<=1125899906842624):
  Calls prog 279 [v1,v2].toArray w (Ret (.int .i64 (Lib.compareInt (m:Int) n)) w):=by
 have hc:=Zwd m n
 obtain⟨p,cp,rfl⟩:=h1.form
 obtain⟨q,cq',rfl⟩:=h2.form
 generalize dI m=xs at*
 generalize dI n=ys at*
 refine Zg Tryz.func279 rfl Tryz.ntmps279 rfl ?_
 repeat(refine wkM ?_;intros)
 by_cases hne:xs.length=ys.length
 ·rw[if_neg (fun h=>h hne)] at hc
  simp only[Wc (show((xs.length:Nat):Int)=(ys.length:Nat) by omega),Bool.not_true]
  repeat(refine wkM ?_;intros)
  rw[show(xs.length:Int)-1=(xs.length:Int)-1-((0:Nat):Int) by omega]
  refine Zm (S:=Nat) (fun k=>k<=xs.length/\cmD xs ys (xs.length-k)=cmD xs ys xs.length) (fun k=>[(0, .slice p xs.length cp),(1, .slice q ys.length cq'),(5, .int .i64 ((xs.length:Int)-1-(k:Nat)))]) (fun _=>[]) (fun k=>xs.length-k) 0 ⟨Wm _,rfl⟩ sbB slB (fun k hk=>?_)
  obtain⟨hk,hpos⟩:=hk
  repeat(refine wkM ?_;intros)
  refine Zl rfl (fun h=>?_) (fun h=>?_)
  ·have hlt:k<xs.length:=by have:=Wa h;omega
   have hx0:xs≠[]:=fun h0=>by rw[h0] at hlt;simp at hlt
   have hy0:ys≠[]:=fun h0=>by rw[h0,Wx] at hne;omega
   obtain⟨bw,ow,cw,hvw,hcw,hrow⟩:=h1.blk (k:=0) hx0 []
   injection hvw with x1 x2 x3
   subst x1 x3
   obtain⟨bv,ov,cv,hvv,hcv,hrow2⟩:=h2.blk (k:=0) hy0 []
   injection hvv with x1 x2 x3
   subst x1 x3
   have hr1:∀L,RowC w L bw ow Int (eI .i64) xs:=fun L=>⟨fun w' hw'=>hrow.out w' (hw'.sub (Wk _))⟩
   have hr2:∀L,RowC w L bv ov Int (eI .i64) ys:=fun L=>⟨fun w' hw'=>hrow2.out w' (hw'.sub (Wk _))⟩
   have e0:(xs.length:Int)-1-(k:Nat)=((xs.length-1-k:Nat):Int):=by omega
   have e1:(xs.length:Int)-1-(k:Nat)-1=(xs.length:Int)-1-((k+1:Nat):Int):=by omega
   have hst:cmD xs ys (xs.length-k)=if gi xs ((xs.length:Int)-1-(k:Nat))<gi ys ((xs.length:Int)-1-(k:Nat)) then-1 else if gi ys ((xs.length:Int)-1-(k:Nat))<gi xs ((xs.length:Int)-1-(k:Nat)) then 1 else cmD xs ys (xs.length-(k+1)):=by
    rw[show xs.length-k=(xs.length-(k+1))+1 by omega,cmD,e0,show xs.length-1-k=xs.length-(k+1) by omega]
   rw[hst] at hpos
   repeat(refine wkM ?_;intros)
   refine jD 9 9 (h:=?_)
   (repeat(refine wkH ?_))
   refine Zn ?_
   refine Zr ?_
   by_cases c1:gi xs ((xs.length:Int)-1-(k:Nat))<gi ys ((xs.length:Int)-1-(k:Nat))
   ·rw[if_pos c1] at hpos
    simp only[Wc c1]
    repeat(refine wkM ?_;intros)
    rw[hpos,hc]
    exact rtT rfl rfl
   ·rw[if_neg c1] at hpos
    simp only[We c1]
    repeat(refine wkM ?_;intros)
    refine jD 9 9 (h:=?_)
    (repeat(refine wkH ?_))
    refine Zn ?_
    refine Zr ?_
    by_cases c2:gi ys ((xs.length:Int)-1-(k:Nat))<gi xs ((xs.length:Int)-1-(k:Nat))
    ·rw[if_pos c2] at hpos
     simp only[Wc c2]
     repeat(refine wkM ?_;intros)
     rw[hpos,hc]
     exact rtT rfl rfl
    ·rw[if_neg c2] at hpos
     simp only[We c2]
     repeat(refine wkO ?_;intros)
     simp only[e1]
     exact Zh (k+1) ⟨hlt,hpos⟩ sbB slB (by omega)
  ·have h0:xs.length-k=0:=by have:=Wb h;omega
   rw[h0,cmD] at hpos
   repeat(refine wkM ?_;intros)
   rw[<-hc,<-hpos]
   exact rtT rfl rfl
 ·rw[if_pos hne] at hc
  simp only[We (show¬((xs.length:Nat):Int)=(ys.length:Nat) by omega),Bool.not_false]
  repeat(refine wkM ?_;intros)
  by_cases c:xs.length<ys.length
  ·rw[if_pos c] at hc
   simp only[Wc (show((xs.length:Nat):Int)<(ys.length:Nat) by omega)]
   repeat(refine wkM ?_;intros)
   rw[<-hc]
   exact rtT rfl rfl
  ·rw[if_neg c] at hc
   simp only[We (show¬((xs.length:Nat):Int)<(ys.length:Nat) by omega)]
   repeat(refine wkM ?_;intros)
   rw[<-hc]
   exact rtT rfl rfl
instance ZHc (w0:World)(L:List Blk)(v1 v2:Value)(m n:Nat)[h1:LstC w0 L v1 Int (eI .i64) (dI m)][h2:LstC w0 L v2 Int (eI .i64) (dI n)]:SpecM prog w0 L 279 [v1,v2] (.int .i64 (Lib.compareInt (m:Int) n)) ((dI m).length<=1125899906842624/\(dI n).length<=1125899906842624):=⟨fun hl w hw=>ZpH v1 v2 m n w (h1.out w hw) (h2.out w hw) hl⟩
end
end Go.Vt
