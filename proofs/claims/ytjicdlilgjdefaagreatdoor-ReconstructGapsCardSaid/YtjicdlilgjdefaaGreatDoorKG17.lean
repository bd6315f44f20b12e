/- that the gaps between reports are those of the chain (part 17 of 32.) Conditions: those that each statement names. -/
import Derived.Test.YtjicdlilgjdefaaGreatDoorKG1
import Derived.Test.YtjicdlilgjdefaaGreatDoorKG8
import Derived.Test.YtjicdlilgjdefaaGreatDoorKG9
import Derived.Test.YtjicdlilgjdefaaGreatDoorKG10
import Derived.Test.YtjicdlilgjdefaaGreatDoorKG11
import Derived.Test.YtjicdlilgjdefaaGreatDoorKG15
import Derived.Test.YtjicdlilgjdefaaGreatDoorKG16
set_option linter.unusedSimpArgs false
set_option linter.unusedVariables false
set_option maxHeartbeats 2000000
set_option maxRecDepth 100000
set_option linter.unusedSectionVars false
namespace Go.Vt
open Go.RowKit Go.Proofs
open Go.Proofs.Tryz (prog)
structure TkOk (z:Zc):Prop where
 t:M z.T<=8
 x: -1048576<=z.Report.X/\z.Report.X<=1048576
 y: -1048576<=z.Report.Y/\z.Report.Y<=1048576
theorem ZdR {n:Int}(h: -2147483648<=n/\n<=2147483648):M (n:Rat)<=4:=by
 rw[Znx]
 have:=Zc3 (n:=n) (k:=4) (by omega)
 omega
def ptT (x:Zc):Zal:=⟨(x.Report.X:Rat),(x.Report.Y:Rat)⟩
theorem Zin {x:Zc}(h:TkOk x):M (ptT x).X<=4/\M (ptT x).Y<=4:=⟨ZdR (by have:=h.x;omega),ZdR (by have:=h.y;omega)⟩
instance ZDG (x:Zc):SpecC prog 92 [vTm x] (vP (ptT x)) (TkOk x):=⟨fun hp w=>by
 have h1:(-9223372036854775808<=x.Report.X/\x.Report.X<=9223372036854775807)/\(-9223372036854775808<=x.Report.Y/\x.Report.Y<=9223372036854775807):=by
  have:=hp.x
  have:=hp.y
  omega
 refine Zg Tryz.func92 rfl Tryz.ntmps92 rfl ?_
 repeat(first|(refine wkM ?_;intros)|(refine wnM ?_ ?_;(focus(exact h1));intros))
 exact rtC rfl rfl⟩
theorem ZcW (a b:Rat):0<(a-b).num.sign↔0<a-b:=by
 rw[ZgV,Zjr]
 constructor <;> intro h <;> grind
def cpt (v:Int)(a b:Zc):Bool:=decide (0<b.T-a.T)&&decide (d2 (ptT a) (ptT b)<=((v:Rat)*(b.T-a.T))*((v:Rat)*(b.T-a.T)))
instance ZAK (a b:Zc)(s:ZR):SpecC prog 91 [vTm a,vTm b, .agg (Zv s)] (.bool (cpt s.MaxSpeed a b)) (TkOk a/\TkOk b/\(-1048576<=s.MaxSpeed/\s.MaxSpeed<=1048576)):=⟨fun hp w=>by
 obtain⟨ha,hb,hv⟩:=hp
 have h1:M b.T<=LQ/\M a.T<=LQ:=⟨Wi hb.t (by decide),Wi ha.t (by decide)⟩
 have g1:=MB.mk ha.t
 have g2:=MB.mk hb.t
 have g3:=MB.mk (ZdR (n:=s.MaxSpeed) (by omega))
 have g4:=MB.mk (Zin ha).1
 have g5:=MB.mk (Zin ha).2
 have g6:=MB.mk (Zin hb).1
 have g7:=MB.mk (Zin hb).2
 have h2:M (s.MaxSpeed:Rat)<=LQ/\M (b.T-a.T)<=LQ:=⟨MB.lt rfl,MB.lt rfl⟩
 have h3:M ((s.MaxSpeed:Rat)*(b.T-a.T))<=LQ/\M ((s.MaxSpeed:Rat)*(b.T-a.T))<=LQ:=⟨MB.lt rfl,MB.lt rfl⟩
 have h4:M (d2 (ptT a) (ptT b))<=LQ/\M (((s.MaxSpeed:Rat)*(b.T-a.T))*((s.MaxSpeed:Rat)*(b.T-a.T)))<=LQ:=⟨MB.lt rfl,MB.lt rfl⟩
 have h5:M (ptT a).X<=8589934592/\M (ptT a).Y<=8589934592/\M (ptT b).X<=8589934592/\M (ptT b).Y<=8589934592:=⟨MB.lt rfl,MB.lt rfl,MB.lt rfl,MB.lt rfl⟩
 have h6: -9223372036854775808<=s.MaxSpeed/\s.MaxSpeed<=9223372036854775807:=by omega
 refine Zg Tryz.func91 rfl Tryz.ntmps91 rfl ?_
 repeat(first|(refine wkM ?_;intros)|(refine wnM ?_ ?_;(focus(exact h1));intros))
 (refine Zdi [0,1,2,3,4] [5] [6] (_) (h:=?_);refine wkI ?_)
 (repeat(first|refine wkH ?_|(refine tC rfl rfl ?_ ?_;focus(first|exact h6|exact h2))))
 repeat(refine wkT ?_;intros)
 repeat(refine wkM ?_;intros)
 unfold cpt
 by_cases h0:0<b.T-a.T
 ·refine jD 16 16 (h:=?_)
  (repeat(refine wkH ?_))
  simp only[Wc ((ZcW b.T a.T).2 h0)]
  (repeat(first|refine wkH ?_|(refine tC rfl rfl ?_ ?_;focus(first|exact ha|exact hb|exact h5|exact h3|exact h4))))
  refine Zn ?_
  refine Zr ?_
  repeat(refine wkM ?_;intros)
  rw[Wc h0,Bool.true_and,show decide (d2 (ptT a) (ptT b)<=((s.MaxSpeed:Rat)*(b.T-a.T))*((s.MaxSpeed:Rat)*(b.T-a.T)))=decide (cq (d2 (ptT a) (ptT b)) (((s.MaxSpeed:Rat)*(b.T-a.T))*((s.MaxSpeed:Rat)*(b.T-a.T)))<=0) from decide_eq_decide.2 Zjt.symm]
  exact rtT rfl rfl
 ·refine jD 16 16 (h:=?_)
  (repeat(refine wkH ?_))
  simp only[We (fun h=>h0 ((ZcW b.T a.T).1 h))]
  (repeat(refine wkH ?_))
  refine Zn ?_
  refine Zr ?_
  repeat(refine wkM ?_;intros)
  rw[We h0,Bool.false_and]
  exact rtT rfl rfl⟩
def farT (g:Int)(a b:Zc):Bool:=decide ((g:Rat)<b.T-a.T)
instance ZKo (a b:Zc)(s:ZR):SpecC prog 65 [vTm a,vTm b, .agg (Zv s)] (.bool (farT s.MaxGap a b)) (TkOk a/\TkOk b/\(-2147483648<=s.MaxGap/\s.MaxGap<=2147483648)):=⟨fun hp w=>by
 obtain⟨ha,hb,hv⟩:=hp
 have h1:M b.T<=LQ/\M a.T<=LQ:=⟨Wi hb.t (by decide),Wi ha.t (by decide)⟩
 have g1:=MB.mk ha.t
 have g2:=MB.mk hb.t
 have h2:M (b.T-a.T)<=LQ/\M (s.MaxGap:Rat)<=LQ:=⟨MB.lt rfl,Wi (ZdR hv) (by decide)⟩
 have h3: -9223372036854775808<=s.MaxGap/\s.MaxGap<=9223372036854775807:=by omega
 unfold farT
 rw[show decide ((s.MaxGap:Rat)<b.T-a.T)=decide (0<cq (b.T-a.T) (s.MaxGap:Rat)) from decide_eq_decide.2 Zjr.symm]
 refine Zg Tryz.func65 rfl Tryz.ntmps65 rfl ?_
 repeat(refine wkM ?_;intros)
 (refine jD 11 11 (h:=?_);(repeat(first|refine wkH ?_|(refine tC rfl rfl ?_ ?_;focus(first|exact h1|exact h2|exact h3))));refine Zn ?_;(repeat(refine Z4 ?_;intro _));refine Zr ?_)
 repeat(refine wkM ?_;intros)
 exact rtT rfl rfl⟩
end Go.Vt
namespace Go.Vt
section
variable (C : Nat -> Nat -> Bool) (n : Nat)
def innB (i:Nat):Nat->List Nat->Nat->Nat
 |_,[],a=>a
 |k,b::r,a=>innB i (k+1) r (if C i k then max a (b+1) else a)
def bestL :Nat->List Nat
 |0=>[]
 |m+1=>innB C (n-(m+1)) (n-m) (bestL m) 1::bestL m
theorem Zcf :∀m,(bestL C n m).length=m
 |0=>rfl
 |m+1=>congrArg Nat.succ (Zcf m)
def mostL :List Nat->Nat
 |[]=>0
 |b::r=>max (mostL r) b
def bestA (i:Nat):Nat:=(bestL C n n).getD i 0
theorem ZuH (i:Nat):∀(r:List Nat)(k a:Nat),a<=innB C i k r a
 |[],_,_=>Wl _
 |b::r,k,a=>by
  have:=ZuH i r (k+1) (if C i k then max a (b+1) else a)
  simp only[innB]
  split at this <;> simp_all <;> omega
theorem ZmP (i:Nat):∀(r:List Nat)(k a:Nat),innB C i k r a=a\/∃j,j<r.length/\C i (k+j)=true/\innB C i k r a=r.getD j 0+1
 |[],_,_=> .inl rfl
 |b::r,k,a=>by
  simp only[innB]
  rcases ZmP i r (k+1) (if C i k then max a (b+1) else a) with h|⟨j,h1,h2,h3⟩
  ·rw[h]
   by_cases hc:C i k=true
   ·rw[if_pos hc]
    rcases Nat.le_total (b+1) a with h4|h4
    ·exact .inl (by omega)
    ·exact .inr ⟨0,by simp,by simpa using hc,by simp;omega⟩
   ·rw[if_neg hc]
    exact .inl rfl
  ·exact .inr ⟨j+1,by simpa using h1,by rw[show k+(j+1)=k+1+j by omega];exact h2,by simpa using h3⟩
theorem ZiY :∀(m j:Nat),j<m->m<=n->(bestL C n m).getD j 0=bestA C n (n-m+j):=by
 have key:∀(d m:Nat),m+d<=n->∀j,(bestL C n (m+d)).getD (d+j) 0=(bestL C n m).getD j 0:=by
  intro d
  induction d with
  |zero=>intro m _ j;simp
  |succ d ih=>
   intro m hm j
   rw[show m+(d+1)=(m+d)+1 by omega,show d+1+j=(d+j)+1 by omega]
   simp only[bestL,List.getD_cons_succ]
   exact ih m (by omega) j
 intro m j hj hm
 have:=key (n-m) m (by omega) j
 rw[show m+(n-m)=n by omega] at this
 exact this.symm
theorem Zrp {i:Nat}(h:i<n):bestA C n i=innB C i (i+1) (bestL C n (n-i-1)) 1:=by
 have:=ZiY C n (n-i) 0 (by omega) (by omega)
 rw[show n-(n-i)+0=i by omega] at this
 rw[<-this,show n-i=(n-i-1)+1 by omega]
 simp only[bestL,List.getD_cons_zero]
 rw[show n-(n-i-1+1)=i by omega,show n-(n-i-1)=i+1 by omega]
 rfl
theorem ZrG {i:Nat}(h:i<n):bestA C n i=1\/∃k,i<k/\k<n/\C i k=true/\bestA C n i=bestA C n k+1:=by
 rw[Zrp C n h]
 rcases ZmP C i (bestL C n (n-i-1)) (i+1) 1 with h1|⟨j,h1,h2,h3⟩
 ·exact .inl h1
 ·rw[Zcf] at h1
  rw[ZiY C n (n-i-1) j (by omega) (by omega),show n-(n-i-1)+j=i+1+j by omega] at h3
  exact .inr ⟨i+1+j,by omega,by omega,h2,h3⟩
theorem Zg7 :∀(l:List Nat)(j:Nat),l.getD j 0<=mostL l
 |[],_=>by simp[mostL]
 |b::l,0=>by simp[mostL];omega
 |b::l,j+1=>by
  have:=Zg7 l j
  simp only[mostL,List.getD_cons_succ]
  omega
theorem Zku :∀(l:List Nat),mostL l=0\/∃j,j<l.length/\l.getD j 0=mostL l
 |[]=> .inl rfl
 |b::l=>by
  simp only[mostL]
  rcases Nat.le_total (mostL l) b with h|h
  ·exact .inr ⟨0,by simp,by simp;omega⟩
  ·rcases Zku l with h1|⟨j,h1,h2⟩
   ·exact .inl (by omega)
   ·exact .inr ⟨j+1,by simpa using h1,by rw[List.getD_cons_succ,h2,Nat.max_eq_left h]⟩
def mostA :Nat:=mostL (bestL C n n)
def outS (s:List Nat×Nat)(i:Nat):List Nat×Nat:=
 if bestA C n i=s.2/\0<s.2/\(s.1=[]\/C (s.1.getLastD 0) i=true) then(s.1++[i],s.2-1) else s
def outN :Nat->List Nat×Nat
 |0=>([],mostA C n)
 |i+1=>outS C n (outN i) i
def chainL :List Nat:=(outN C n n).1
structure OutOk (i:Nat)(s:List Nat×Nat):Prop where
 len:s.1.length+s.2=mostA C n
 lt:∀k∈s.1,k<i
 ok:∀j,j+1<s.1.length->C (s.1.getD j 0) (s.1.getD (j+1) 0)=true
 go:0<s.2->∃j,i<=j/\j<n/\bestA C n j=s.2/\(s.1=[]\/C (s.1.getLastD 0) j=true)
theorem ZdQ {l:List Nat}{x j:Nat}(h:j<l.length):(l++[x]).getD j 0=l.getD j 0:=by
 simp[List.getD_eq_getElem?_getD,List.getElem?_append_left h]
theorem ZjT (l:List Nat)(x:Nat):(l++[x]).getD l.length 0=x:=by
 simp[List.getD_eq_getElem?_getD]
theorem ZbW {l:List Nat}(h:l≠[]):l.getLastD 0=l.getD (l.length-1) 0:=by
 cases l with
 |nil=>exact(h rfl).elim
 |cons a l=>rw[List.getLastD_cons,List.getD_eq_getElem?_getD,<-List.getLast?_eq_getElem?];simp[List.getLast?_cons]
theorem ZeF :∀i,i<=n->OutOk C n i (outN C n i)
 |0,_=>by
  refine⟨by simp[outN],by simp[outN],by simp[outN],fun h=>?_⟩
  rcases Zku (bestL C n n) with h1|⟨j,h1,h2⟩
  ·have:mostA C n=0:=h1
   simp only[outN] at h
   omega
  ·rw[Zcf] at h1
   exact⟨j,by omega,h1,h2, .inl rfl⟩
 |i+1,hi=>by
  have ih:=ZeF i (by omega)
  simp only[outN]
  generalize outN C n i=s at ih
  obtain⟨i1,i2,i3,i4⟩:=ih
  unfold outS
  split
  ·rename_i hc
   obtain⟨h1,h2,h3⟩:=hc
   refine⟨by simp;omega,fun k hk=>?_,fun j hj=>?_,fun h=>?_⟩
   ·rcases List.mem_append.1 hk with hk|hk
    ·have:=i2 k hk;omega
    ·have:k=i:=by simpa using hk
     omega
   ·simp only[Wp,Wu,Wx] at hj
    rcases Nat.lt_or_ge (j+1) s.1.length with h4|h4
    ·rw[ZdQ h4,ZdQ (by omega)]
     exact i3 j h4
    ·have e:j+1=s.1.length:=by omega
     rw[e,ZjT,ZdQ (by omega)]
     have hne:s.1≠[]:=fun h0=>by rw[h0] at e;simp at e
     rcases h3 with h3|h3
     ·exact(hne h3).elim
     ·rw[ZbW hne,show s.1.length-1=j by omega] at h3
      exact h3
   ·simp only at h
    rcases ZrG C n (show i<n by omega) with h4|⟨k,k1,k2,k3,k4⟩
    ·omega
    ·exact⟨k,by omega,k2,by simp only;omega, .inr (by simpa using k3)⟩
  ·rename_i hc
   refine⟨i1,fun k hk=>by have:=i2 k hk;omega,i3,fun h=>?_⟩
   obtain⟨j,j1,j2,j3,j4⟩:=i4 h
   refine⟨j, ?_,j2,j3,j4⟩
   rcases Nat.lt_or_ge i j with h5|h5
   ·exact h5
   ·have e:j=i:=by omega
    subst e
    exact(hc ⟨j3,h,j4⟩).elim
theorem ZpR :∀k∈chainL C n,k<n:=(ZeF C n n (Wl _)).lt
theorem Zo6 {j:Nat}(h:j+1<(chainL C n).length):C ((chainL C n).getD j 0) ((chainL C n).getD (j+1) 0)=true:=(ZeF C n n (Wl _)).ok j h
end
end Go.Vt
namespace Go.Vt
open Go.RowKit Go.Proofs
open Go.Proofs.Tryz (prog)
section
section
variable {P : Program} {w0 : World} {n : Nat} {L : List Blk} {E : Env} {x y : Operand} {T : TypeId} {a b : Int}
instance ZJC [hx:IsC (evl E x) (.int .i64 a)][hy:IsC (evl E y) (.int .i64 b)]:YlC P w0 n L E (.call ⟨.builtin .max,#[x,y],#[T,T]⟩) (.int .i64 (if b>a then b else a)):=⟨fun d ty pos aft gd=>⟨fun c w hc _=>by
 have h1:∀cs:Array Bool,(builtin .max #[T,T] ty cs #[.int .i64 a, .int .i64 b]).run P w= .ok (.value (.int .i64 (if b>a then b else a))) w:=fun cs=>by
  show Sem.run P (do pure (Next.value (<-Builtin.max_ #[T,T] ty #[.int .i64 a, .int .i64 b])):Sem Next) w=_
  rw[Sem.run_bind,run_max_int2]
  rfl
 have e1:=hc.ev (isE (h:=hx))
 have e2:=hc.ev (isE (h:=hy))
 have e:(execOp c.eval ⟨d, .call ⟨.builtin .max,#[x,y],#[T,T]⟩,ty,pos,aft,gd⟩).run P w= .ok (.value (.int .i64 (if b>a then b else a))) w:=by
  simp only[execOp,resolve,Sem.run_bind,Sem.run_pure,Result.andThen,invoke,List.map_toArray,List.map_cons,List.map_nil,e1,e2]
  exact h1 _
 unfold calm
 rw[e]
 exact⟨rfl,Ext.refl _⟩⟩⟩
end
def cCp (v:Int)(l:List Zc)(i k:Nat):Bool:=cpt v (gi l (i:Int)) (gi l (k:Int))
theorem Zm5 (C:Nat->Nat->Bool)(i:Nat):∀(r:List Nat)(k a m:Nat),(∀b∈r,b<=m)->a<=m+1->innB C i k r a<=m+1
 |[],_,_,_,_,h=>h
 |b::r,k,a,m,hr,h=>by
  simp only[innB]
  have hb:=hr b (.head _)
  refine Zm5 C i r _ _ m (fun c hc=>hr c (.tail _ hc)) ?_
  split <;> omega
theorem Zc4 (C:Nat->Nat->Bool)(n:Nat):∀m,∀b∈bestL C n m,b<=m
 |0,b,h=>by cases h
 |m+1,b,h=>by
  rcases List.mem_cons.1 h with rfl|h
  ·exact Zm5 C _ _ _ _ _ (Zc4 C n m) (by omega)
  ·have:=Zc4 C n m b h
   omega
theorem Zd5 {m:Nat}:∀{l:List Nat},(∀b∈l,b<=m)->mostL l<=m
 |[],_=>Wm _
 |b::l,h=>by
  have h1:=h b (.head _)
  have h2:=Zd5 (l:=l) fun c hc=>h c (.tail _ hc)
  simp only[mostL]
  omega
def cI (r:List Nat):List Int:=r.map fun x:Nat=>(x:Int)
def tabL (i:Nat)(r:List Nat):List Int:=List.replicate i 0++cI r
theorem ZfQ (r:List Nat):(cI r).length=r.length:=Ws _
theorem Zb4 (i:Nat)(r:List Nat):(tabL i r).length=i+r.length:=by simp[tabL,ZfQ]
theorem Zkt (i:Nat)(r:List Nat)(x:Nat):(tabL (i+1) r).set i (x:Int)=tabL i (x::r):=by
 unfold tabL
 rw[List.replicate_succ',List.append_assoc,List.set_append_right _ _ (by simp)]
 simp[cI]
theorem Zm4 (i:Nat)(r:List Nat)(a x:Nat):(tabL i (a::r)).set i (x:Int)=tabL i (x::r):=by
 unfold tabL
 rw[List.set_append_right _ _ (by simp)]
 simp[cI]
theorem ZoG (i:Nat)(r:List Nat)(a:Nat):gi (tabL i (a::r)) (i:Int)=(a:Int):=by
 rw[Zj (by rw[Zb4];simp)]
 simp[tabL,cI]
theorem Zmh (i:Nat)(r:List Nat)(a j:Nat)(h:j<r.length):gi (tabL i (a::r)) ((i+1+j:Nat):Int)=((r.getD j 0:Nat):Int):=by
 rw[Zj (by rw[Zb4];simp;omega)]
 unfold tabL
 rw[List.getElem_append_right (by simp;omega)]
 simp only[cI,List.length_replicate,List.map_cons,show i+1+j-i=j+1 by omega,List.getElem_cons_succ,List.getElem_map,List.getD_eq_getElem?_getD,List.getElem?_eq_getElem h,Option.getD_some]
set_option maxHeartbeats 8000000 in
theorem Zon (v:Value)(l:List Zc)(s:ZR)(w:World)(hv:ArgS w v Zi l)(hl:l.length<=4096)(hok:∀x∈l,TkOk x)(hs: -1048576<=s.MaxSpeed/\s.MaxSpeed<=1048576):
  Calls prog 41 [v, .agg (Zv s)].toArray w (RetM (SlS (eI .i64) 1 (cI (chainL (cCp s.MaxSpeed l) l.length))) (fun o=>vSl o) (fun o=>mS 3 o) w):=by
 obtain⟨p,cp,rfl⟩:=hv.form
 have hC:∀i k,cCp s.MaxSpeed l i k=cpt s.MaxSpeed (gi l (i:Int)) (gi l (k:Int)):=fun _ _=>rfl
 generalize hCe:cCp s.MaxSpeed l=C at*
 generalize hn:l.length=n at*
 have hgo:∀i:Nat,i<n->TkOk (gi l (i:Int)):=fun i hi=>hok _ (ZI (by omega))
 refine Zg Tryz.func41 rfl Tryz.ntmps41 rfl ?_
 repeat(refine wkM ?_;intros)
 refine sM rfl rfl ⟨by omega,by omega⟩ (fun b5=>?_)
 repeat(refine wkM ?_;intros)
 rename_i b3
 refine Zm (S:=Nat) (fun m=>m<=n) (fun m=>[(0, .slice p n cp),(3, .pointer (some ⟨b3,0,none⟩)),(5, .slice (some ⟨b5,0,none⟩) n n),(6, .int .i64 (mostL (bestL C n m))),(7, .int .i64 ((n:Int)-1-m))]) (fun m=>[⟨b5,row (eI .i64) (tabL (n-m) (bestL C n m)) [],3⟩,⟨b3,Zv s,32⟩]) (fun m=>n-m) 0 (Wm _) ?_ ?_ (fun m hm=>?_)
 ·exact sbB
 ·have e:tabL (n-0) (bestL C n 0)=List.replicate n 0:=by simp[tabL,cI,bestL]
  simp only[e]
  exact slB
 repeat(refine wkM ?_;intros)
 refine Zl rfl (fun h=>?_) (fun h=>?_)
 ·have hlt:m<n:=by have:=Wa h;omega
  obtain⟨i,hi⟩:∃i,n=m+i+1:=⟨n-m-1,by omega⟩
  have e7:(n:Int)-1-(m:Int)=(i:Int):=by omega
  have e8:n-m=i+1:=by omega
  have hbl:=Zc4 C n m
  have hbn:=Zcf C n m
  have hnx:bestL C n (m+1)=innB C i (i+1) (bestL C n m) 1::bestL C n m:=by
   rw[bestL,show n-(m+1)=i by omega,show n-m=i+1 by omega]
  have hmo:=Zd5 hbl
  generalize bestL C n m=r at*
  rw[e8]
  simp only[e7]
  have ht1:=Zb4 (i+1) r
  have hset:(tabL (i+1) r).set ((i:Int)).toNat (1:Int)=tabL i (1::r):=by
   rw[Int.toNat_natCast]
   exact Zkt i r 1
  repeat(refine wkM ?_;intros)
  simp only[hset]
  refine Zm (S:=Nat×Nat) (fun q=>q.1<=m/\innB C i (i+1) r 1=innB C i (i+1+q.1) (r.drop q.1) q.2/\q.2<=m+1) (fun q=>[(0, .slice p n cp),(3, .pointer (some ⟨b3,0,none⟩)),(5, .slice (some ⟨b5,0,none⟩) n n),(6, .int .i64 (mostL r)),(7, .int .i64 (i:Nat)),(8, .int .i64 ((i+1+q.1:Nat)))]) (fun q=>[⟨b5,row (eI .i64) (tabL i (q.2::r)) [],3⟩,⟨b3,Zv s,32⟩]) (fun q=>m-q.1) (0,1) ⟨Wm _,rfl,by show 1<=m+1;omega⟩ sbB slB (fun q hq=>?_)
  obtain⟨j,a⟩:=q
  obtain⟨hj,hin,ha⟩:=hq
  simp only at hj hin ha⊢
  have ht2:=Zb4 i (a::r)
  rw[Wu] at ht2
  have hai:=ZoG i r a
  repeat(refine wkM ?_;intros)
  refine Zl rfl (fun h=>?_) (fun h=>?_)
  ·have hjm:j<m:=by have:=Wa h;omega
   have hget:=Zmh i r a j (by omega)
   have hb:=hbl (r.getD j 0) (by rw[List.getD_eq_getElem?_getD,List.getElem?_eq_getElem (by omega)];exact List.getElem_mem _)
   have hdr:r.drop j=r.getD j 0::r.drop (j+1):=by
    rw[List.drop_eq_getElem_cons (by omega),List.getD_eq_getElem?_getD,List.getElem?_eq_getElem (by omega)]
    rfl
   rw[hdr] at hin
   simp only[innB] at hin
   have hne:l≠[]:=fun h0=>by rw[h0] at hn;simp at hn;omega
   obtain⟨bw,ow,cw,hvw,hcw,hrow⟩:=hv.blk (k:=11) hne []
   injection hvw with e1 e2 e3
   subst e1
   subst e3
   have hrow':∀L,RowC w L bw ow Zc Zi l:=fun L=>⟨fun w' hw'=>hrow.out w' (hw'.sub (Wk _))⟩
   have k1:=hgo i (by omega)
   have k2:=hgo (i+1+j) (by omega)
   have hCk:=hC i (i+1+j)
   generalize r.getD j 0=bb at*
   repeat(refine wkM ?_;intros)
   by_cases hge:a<=bb
   ·refine jD 21 21 (h:=?_)
    (repeat(refine wkH ?_))
    simp only[hget,hai,Wc (show(a:Int)<=(bb:Int) by omega)]
    (repeat(first|refine wkH ?_|(refine tC rfl rfl ?_ ?_;focus(exact⟨k1,k2,hs⟩))))
    refine Zn ?_
    refine Zr ?_
    simp only[<-hCk]
    cases hc:C i (i+1+j)
    ·rw[hc,if_neg (by decide)] at hin
     repeat(refine wkO ?_;intros)
     exact Zh (j+1,a) ⟨hjm,by rw[hin];rfl,ha⟩ sbB slB (by show m-(j+1)<m-j;omega)
    ·rw[hc,if_pos rfl,Nat.max_eq_right (by omega)] at hin
     have hs2:(tabL i (a::r)).set ((i:Int)).toNat ((bb:Int)+1)=tabL i ((bb+1)::r):=by
      rw[Int.toNat_natCast]
      exact Zm4 i r a (bb+1)
     repeat(refine wkM ?_;intros)
     simp only[hget]
     repeat(refine wkM ?_;intros)
     simp only[hs2]
     repeat(refine wkO ?_;intros)
     exact Zh (j+1,bb+1) ⟨hjm,by rw[hin];rfl,by show bb+1<=m+1;omega⟩ sbB slB (by show m-(j+1)<m-j;omega)
   ·refine jD 21 21 (h:=?_)
    (repeat(refine wkH ?_))
    simp only[hget,hai,We (show¬(a:Int)<=(bb:Int) by omega)]
    (repeat(refine wkH ?_))
    refine Zn ?_
    refine Zr ?_
    have hin':innB C i (i+1) r 1=innB C i (i+1+j+1) (r.drop (j+1)) a:=by
     rw[hin]
     split
     ·rw[Nat.max_eq_left (by omega)]
     ·rfl
    repeat(refine wkO ?_;intros)
    exact Zh (j+1,a) ⟨hjm,by rw[hin'];rfl,ha⟩ sbB slB (by show m-(j+1)<m-j;omega)
  ·have hge:j=m:=by have:=Wb h;omega
   subst hge
   rw[<-hbn,List.drop_length,hbn] at hin
   simp only[innB] at hin
   rw[hin] at hnx
   have hmx:(if(a:Int)>(mostL r:Int) then(a:Int) else(mostL r:Int))=((mostL (bestL C n (j+1)):Nat):Int):=by
    rw[hnx,mostL]
    split <;> omega
   have e9:n-(j+1)=i:=by omega
   repeat(refine wkM ?_;intros)
   simp only[hai,hmx]
   exact Zh (j+1) hlt sbB (by simp only[e9,hnx];exact Wj _) (by omega)
 ·have hge:m=n:=by have:=Wb h;omega
  subst hge
  have hbn:=Zcf C m m
  have hat:∀i:Nat,i<m->gi (tabL 0 (bestL C m m)) (i:Int)=((bestA C m i:Nat):Int):=fun i hi=>by
   rw[Zj (by rw[Zb4];omega)]
   simp only[tabL,List.replicate_zero,Wg,cI,List.getElem_map,bestA,List.getD_eq_getElem?_getD,List.getElem?_eq_getElem (show i<(bestL C m m).length by omega),Option.getD_some]
  have hmo:=Zd5 (Zc4 C m m)
  have htl:=Zb4 0 (bestL C m m)
  rw[Nat.sub_self]
  repeat(refine wkM ?_;intros)
  have hO:=fun i (hi:i<=m)=>ZeF C m i hi
  have hmA:mostL (bestL C m m)=mostA C m:=rfl
  have hB:∀i,bestA C m i<=m:=fun i=>by
   have:bestA C m i<=mostA C m:=Zg7 _ _
   omega
  generalize tabL 0 (bestL C m m)=tb at*
  refine Zm (S:=(i:Nat)×SlS (eI .i64) 1 (cI (outN C m i).1)) (fun q=>q.1<=m) (fun q=>[(0, .slice p m cp),(3, .pointer (some ⟨b3,0,none⟩)),(5, .slice (some ⟨b5,0,none⟩) m m),(6, .int .i64 ((outN C m q.1).2:Nat)),(9,vSl q.2),(68, .int .i64 m),(69, .int .i64 (q.1:Nat))]) (fun q=>mS 3 q.2++[⟨b5,row (eI .i64) tb [],3⟩,⟨b3,Zv s,32⟩]) (fun q=>m-q.1) ⟨0,SlS.no⟩ (Wm _) sbB suB (fun q hq=>?_)
  obtain⟨i,o⟩:=q
  simp only at hq⊢
  have hOi:=hO i hq
  have hnx:outN C m (i+1)=outS C m (outN C m i) i:=rfl
  unfold outS at hnx
  have hlen:=hOi.len
  repeat(refine wkM ?_;intros)
  refine Zl rfl (fun h=>?_) (fun h=>?_)
  ·have hlt:i<m:=by have:=Wa h;omega
   have hai:=hat i hlt
   have hol:=ZfQ (outN C m i).1
   repeat(refine wkM ?_;intros)
   refine Zav (S:=Bool) (fun q=>q=decide (bestA C m i=(outN C m i).2/\0<(outN C m i).2/\((outN C m i).1=[]\/C ((outN C m i).1.getLastD 0) i=true))) (fun q=>[(0, .slice p m cp),(3, .pointer (some ⟨b3,0,none⟩)),(5, .slice (some ⟨b5,0,none⟩) m m),(6, .int .i64 ((outN C m i).2:Nat)),(9,vSl o),(10, .int .i64 (i:Nat)),(68, .int .i64 m),(69, .int .i64 (i:Nat)),(103, .bool q)]) (fun _=>mS 3 o++[⟨b5,row (eI .i64) tb [],3⟩,⟨b3,Zv s,32⟩]) ?_ (fun q hq=>?_)
   ·have hne:l≠[]:=fun h0=>by rw[h0] at hn;simp at hn;omega
    obtain⟨bw,ow,cw,hvw,hcw,hrow⟩:=hv.blk (k:=11) hne []
    injection hvw with e1 e2 e3
    subst e1
    subst e3
    have hrow':∀L,RowC w L bw ow Zc Zi l:=fun L=>⟨fun w' hw'=>hrow.out w' (hw'.sub (Wk _))⟩
    have k2:=hgo i hlt
    rcases o.cases 3 with⟨x0,x1,x2⟩|⟨bo,co,sp,hc1,x1,x2,xne⟩
    ·have hout:(outN C m i).1=[]:=by
      have:=congrArg List.length x0
      rw[hol] at this
      exact List.length_eq_zero_iff.1 this
     simp only[x1,x2,Wf,Wg]
     by_cases c1:bestA C m i=(outN C m i).2
     ·by_cases c2:0<(outN C m i).2
      ·have hd:decide (bestA C m i=(outN C m i).2/\0<(outN C m i).2/\((outN C m i).1=[]\/C ((outN C m i).1.getLastD 0) i=true))=true:=Wc ⟨c1,c2, .inl hout⟩
       refine jD 32 32 (h:=?_)
       (repeat(refine wkH ?_))
       simp only[hai,Wc (show((bestA C m i:Nat):Int)=((outN C m i).2:Int) by omega)]
       (repeat(refine wkH ?_))
       simp only[Wc (show(0:Int)<((outN C m i).2:Int) by omega)]
       (repeat(refine wkH ?_))
       refine Zn ?_
       refine Zr ?_
       repeat(refine wkM ?_;intros)
       exact Zt true hd.symm sbB suB
      ·have hd:decide (bestA C m i=(outN C m i).2/\0<(outN C m i).2/\((outN C m i).1=[]\/C ((outN C m i).1.getLastD 0) i=true))=false:=We fun h=>c2 h.2.1
       refine jD 32 32 (h:=?_)
       (repeat(refine wkH ?_))
       simp only[hai,Wc (show((bestA C m i:Nat):Int)=((outN C m i).2:Int) by omega)]
       (repeat(refine wkH ?_))
       simp only[We (show¬(0:Int)<((outN C m i).2:Int) by omega)]
       (repeat(refine wkH ?_))
       refine Zn ?_
       refine Zr ?_
       repeat(refine wkM ?_;intros)
       exact Zt false hd.symm sbB suB
     ·have hd:decide (bestA C m i=(outN C m i).2/\0<(outN C m i).2/\((outN C m i).1=[]\/C ((outN C m i).1.getLastD 0) i=true))=false:=We fun h=>c1 h.1
      refine jD 32 32 (h:=?_)
      (repeat(refine wkH ?_))
      simp only[hai,We (show¬((bestA C m i:Nat):Int)=((outN C m i).2:Int) by omega)]
      (repeat(refine wkH ?_))
      refine Zn ?_
      refine Zr ?_
      repeat(refine wkM ?_;intros)
      exact Zt false hd.symm sbB suB
    ·have hone:(outN C m i).1≠[]:=fun h0=>by rw[h0] at xne;exact xne rfl
     have hpos:0<(outN C m i).1.length:=List.length_pos_iff.2 hone
     have hlm:(outN C m i).1.getLastD 0<m:=by
      have h1:(outN C m i).1.getLastD 0∈(outN C m i).1:=by
       rw[ZbW hone,List.getD_eq_getElem?_getD,List.getElem?_eq_getElem (by omega)]
       exact List.getElem_mem _
      have:=hOi.lt _ h1
      omega
     have hla:gi (cI (outN C m i).1) (((cI (outN C m i).1).length:Int)-1)=(((outN C m i).1.getLastD 0:Nat):Int):=by
      rw[hol,show(((outN C m i).1.length:Int)-1)=(((outN C m i).1.length-1:Nat):Int) by omega,Zj (by rw[hol];omega),ZbW hone]
      simp only[cI,List.getElem_map,List.getD_eq_getElem?_getD,List.getElem?_eq_getElem (show(outN C m i).1.length-1<(outN C m i).1.length by omega),Option.getD_some]
     have k1:=hgo _ hlm
     have hCk:=hC ((outN C m i).1.getLastD 0) i
     simp only[x1,x2,Wf,Wg]
     by_cases c1:bestA C m i=(outN C m i).2
     ·by_cases c2:0<(outN C m i).2
      ·have hd:decide (bestA C m i=(outN C m i).2/\0<(outN C m i).2/\((outN C m i).1=[]\/C ((outN C m i).1.getLastD 0) i=true))=C ((outN C m i).1.getLastD 0) i:=by
        simp only[c1,c2,hone,true_and,false_or,Bool.decide_eq_true]
       refine jD 32 32 (h:=?_)
       (repeat(refine wkH ?_))
       simp only[hai,Wc (show((bestA C m i:Nat):Int)=((outN C m i).2:Int) by omega)]
       (repeat(refine wkH ?_))
       simp only[Wc (show(0:Int)<((outN C m i).2:Int) by omega)]
       (repeat(refine wkH ?_))
       simp only[We (show¬((cI (outN C m i).1).length:Int)=0 by omega)]
       (repeat(refine wkH ?_))
       simp only[hla]
       (repeat(first|refine wkH ?_|(refine tC rfl rfl ?_ ?_;focus(exact⟨k1,k2,hs⟩))))
       refine Zn ?_
       refine Zr ?_
       simp only[<-hCk]
       repeat(refine wkM ?_;intros)
       exact Zt (C ((outN C m i).1.getLastD 0) i) hd.symm sbB suB
      ·have hd:decide (bestA C m i=(outN C m i).2/\0<(outN C m i).2/\((outN C m i).1=[]\/C ((outN C m i).1.getLastD 0) i=true))=false:=We fun h=>c2 h.2.1
       refine jD 32 32 (h:=?_)
       (repeat(refine wkH ?_))
       simp only[hai,Wc (show((bestA C m i:Nat):Int)=((outN C m i).2:Int) by omega)]
       (repeat(refine wkH ?_))
       simp only[We (show¬(0:Int)<((outN C m i).2:Int) by omega)]
       (repeat(refine wkH ?_))
       refine Zn ?_
       refine Zr ?_
       repeat(refine wkM ?_;intros)
       exact Zt false hd.symm sbB suB
     ·have hd:decide (bestA C m i=(outN C m i).2/\0<(outN C m i).2/\((outN C m i).1=[]\/C ((outN C m i).1.getLastD 0) i=true))=false:=We fun h=>c1 h.1
      refine jD 32 32 (h:=?_)
      (repeat(refine wkH ?_))
      simp only[hai,We (show¬((bestA C m i:Nat):Int)=((outN C m i).2:Int) by omega)]
      (repeat(refine wkH ?_))
      refine Zn ?_
      refine Zr ?_
      repeat(refine wkM ?_;intros)
      exact Zt false hd.symm sbB suB
   ·by_cases hP:bestA C m i=(outN C m i).2/\0<(outN C m i).2/\((outN C m i).1=[]\/C ((outN C m i).1.getLastD 0) i=true)
    ·rw[Wc hP] at hq
     subst hq
     rw[if_pos hP] at hnx
     repeat(refine wkM ?_;intros)
     refine sU rfl rfl ?_ ?_ ?_ ?_
     ·rfl
     ·rfl
     ·exact⟨by decide,by omega,by omega⟩
     intro s'
     repeat(refine wkO ?_;intros)
     have e1:cI (outN C m (i+1)).1=cI (outN C m i).1++[(i:Int)]:=by rw[hnx];simp[cI]
     have e4:(((outN C m (i+1)).2:Nat):Int)=((outN C m i).2:Int)-1:=by rw[hnx];simp only;omega
     obtain⟨s3,e2,e3⟩:=SlS.turn 3 e1.symm s'
     exact Zh ⟨i+1,s3⟩ hlt (by simp only[e2,e4];exact sbB) (by simp only[e3];exact suB) (by show m-(i+1)<m-i;omega)
    ·rw[We hP] at hq
     subst hq
     rw[if_neg hP] at hnx
     repeat(refine wkO ?_;intros)
     have e1:cI (outN C m (i+1)).1=cI (outN C m i).1:=by rw[hnx]
     have e4:(((outN C m (i+1)).2:Nat):Int)=((outN C m i).2:Int):=by rw[hnx]
     obtain⟨s3,e2,e3⟩:=SlS.turn 3 e1.symm o
     exact Zh ⟨i+1,s3⟩ hlt (by simp only[e2,e4];exact sbB) (by simp only[e3];exact suB) (by show m-(i+1)<m-i;omega)
  ·have hge:i=m:=by have:=Wb h;omega
   subst hge
   repeat(refine wkM ?_;intros)
   exact Zy rfl rfl (fun w hw=>⟨o,rfl,hw.sub suB⟩)
end
section
def icb (x:Zan):Bool:=if x.Mag=ByteArray.empty then !x.Neg else !decide (x.Mag[0]? =some 0)
theorem ZrC {l:List UInt8}(h:l[0]? ≠some 0):Top l.reverse:=by
 intro b hb
 rw[List.getLast?_reverse] at hb
 intro h0
 subst h0
 refine h ?_
 cases l with
 |nil=>cases hb
 |cons x r=>simpa using hb
theorem bget (s:ByteArray)(i:Nat):s[i]? =s.data.toList[i]? :=by
 by_cases h:i<s.size
 ·have h':i<s.data.toList.length:=h
  rw[getElem?_pos s i h,getElem?_pos s.data.toList i h']
  rfl
 ·have h':¬i<s.data.toList.length:=h
  rw[getElem?_neg s i h,getElem?_neg s.data.toList i h']
theorem ZeL {x:Zan}:icb x=true↔∃a:Int,x=I a:=by
 obtain⟨n,s⟩:=x
 unfold icb
 simp only
 constructor
 ·intro h
  have hc:Can s:=by
   split at h
   ·rename_i h0
    subst h0
    exact Zma 0
   ·rename_i h0
    simp only[Bool.not_eq_true',decide_eq_false_iff_not] at h
    exact ZrC (by rw[<-bget];exact h)
  have hm:=ZrA hc
  refine⟨if n=true then-(vmag s:Int) else(vmag s:Int), ?_⟩
  unfold I
  cases n
  ·simp only[Bool.false_eq_true,if_false,Int.natAbs_natCast,hm]
   rw[We (by omega)]
  ·simp only[if_true,Int.natAbs_neg,Int.natAbs_natCast,hm]
   congr 1
   have hne:vmag s≠0:=fun h0=>by
    rw[h0] at hm
    split at h
    ·cases h
    ·rename_i h1
     exact h1 (hm.symm.trans Ze4)
   simp
   omega
 ·rintro⟨a,h⟩
  unfold I at h
  injection h with h1 h2
  subst h1
  subst h2
  split
  ·rename_i h0
   have:=ZaQ.1 h0
   simp
   omega
  ·rename_i h0
   simp only[Bool.not_eq_true',decide_eq_false_iff_not]
   intro h1
   have hc:=Zma a.natAbs
   rw[bget] at h1
   cases hl:(mag a.natAbs).data.toList with
   |nil=>rw[hl] at h1;cases h1
   |cons y r=>
    rw[hl] at h1
    simp only[List.getElem?_cons_zero,Option.some.injEq] at h1
    unfold Can Top at hc
    rw[hl] at hc
    exact hc y (by simp) h1
theorem Ztk (a:Int):icb (I a)=true:=ZeL.2 ⟨a,rfl⟩
instance Zye (x:Zan):SpecC prog 170 [.agg (ZM x)] (.int .i64 (if icb x=true then 0 else 5)) True:=⟨fun _ w=>by
 refine Zg Tryz.func170 rfl Tryz.ntmps170 rfl ?_
 repeat(refine wkB ?_;intros)
 by_cases h:x.Mag=ByteArray.empty
 ·have e:icb x= !x.Neg:=by unfold icb;rw[if_pos h]
  have hd:=Wc (show x.Mag=⟨#[]⟩ from h)
  rw[e]
  simp only[hd]
  repeat(refine wkB ?_;intros)
  rcases hN:x.Neg with _|_
  ·repeat(refine wkB ?_;intros)
   simp only[hd,Bool.not_true]
   repeat(refine wkB ?_;intros)
   exact rtT rfl rfl
  ·repeat(refine wkB ?_;intros)
   exact rtT rfl rfl
 ·have e:icb x= !decide (x.Mag[0]? =some 0):=by unfold icb;rw[if_neg h]
  have hd:=We (show¬x.Mag=⟨#[]⟩ from h)
  rw[e]
  simp only[hd]
  repeat(refine wkB ?_;intros)
  simp only[hd,Bool.not_false]
  repeat(refine wkB ?_;intros)
  obtain⟨u,hu⟩:∃u,x.Mag[0]? =some u:=by
   rw[bget]
   cases hl:x.Mag.data.toList with
   |nil=>
    refine absurd ?_ h
    have h2:x.Mag.data=#[]:=by rw[<-Array.toArray_toList (xs:=x.Mag.data),hl]
    cases hx:x.Mag with
    |mk d=>
     rw[hx] at h2
     simp only at h2
     subst h2
     rfl
   |cons y r=>exact⟨y,rfl⟩
  refine jq (ZcX rfl rfl (by omega) (show x.Mag[(0:Int).toNat]? =some u from hu)) rfl rfl ?_
  repeat(refine wkB ?_;intros)
  have hd:decide (((u.toNat:Nat):Int)=0)=decide (x.Mag[0]? =some 0):=by
   rw[hu,decide_eq_decide]
   simp only[Option.some.injEq]
   constructor
   ·intro h0
    exact UInt8.toNat_inj.1 (by simpa using h0)
   ·intro h0
    subst h0
    rfl
  rw[hd]
  rcases hq:decide (x.Mag[0]? =some 0) with _|_
  ·repeat(refine wkB ?_;intros)
   exact rtT rfl rfl
  ·repeat(refine wkB ?_;intros)
   exact rtT rfl rfl⟩
def rcb (x:Z1):Bool:=icb x.Num&&(icb x.Den&&(decide (x.Den=I 0)||(!decide (Lib.compareInt (ival x.Den) 1<=0)&&decide ((Int.gcd (ival x.Num) (ival x.Den):Int)=1))))
where ival (x:Zan):Int:=if x.Neg=true then-(vmag x.Mag:Int) else vmag x.Mag
theorem ZeH (a:Int):rcb.ival (I a)=a:=by
 unfold rcb.ival I
 simp only[Zc7,decide_eq_true_eq]
 split <;> omega
theorem ZuS {x:Z1}:rcb x=true↔∃q:Rat,x=Q q:=by
 obtain⟨n,d⟩:=x
 unfold rcb
 simp only[Wq,Bool.or_eq_true,Bool.not_eq_true',decide_eq_true_eq,decide_eq_false_iff_not]
 constructor
 ·rintro⟨h1,h2,h3⟩
  obtain⟨a,rfl⟩:=ZeL.1 h1
  obtain⟨b,rfl⟩:=ZeL.1 h2
  rw[ZeH,ZeH,Zck] at h3
  rcases h3 with rfl|⟨h3,h4⟩
  ·exact⟨(a:Rat),(Ztj a)⟩
  ·have hb:1<b:=by
    unfold Lib.compareInt at h3
    split at h3
    ·omega
    ·split at h3 <;> omega
   have hc:Nat.Coprime a.natAbs b.natAbs:=by
    have:Int.gcd a b=1:=by omega
    exact this
   refine⟨⟨a,b.natAbs,by omega,hc⟩, ?_⟩
   unfold Q dn
   simp only
   rw[if_neg (by omega)]
   congr 2
   omega
 ·rintro⟨q,h⟩
  unfold Q at h
  injection h with h1 h2
  subst h1
  subst h2
  refine⟨Ztk _,Ztk _, ?_⟩
  rw[ZeH,ZeH,Zck]
  have hp:=q.den_pos
  by_cases hd:q.den=1
  ·exact .inl (ZhS.2 hd)
  ·have e:dn q=q.den:=by unfold dn;rw[if_neg hd]
   refine .inr ⟨?_, ?_⟩
   ·rw[e]
    unfold Lib.compareInt
    rw[if_neg (by omega),if_pos (by omega)]
    omega
   ·rw[e]
    have hc:=q.reduced
    have h0:Int.gcd q.num (q.den:Int)=1:=hc
    omega
theorem ZzQ (q:Rat):rcb (Q q)=true:=ZuS.2 ⟨q,rfl⟩
theorem ZvF {n d:Zan}:rcb ⟨n,d⟩=(icb n&&(icb d&&(decide (d=I 0)||(!decide (Lib.compareInt (rcb.ival d) 1<=0)&&decide ((Int.gcd (rcb.ival n) (rcb.ival d):Int)=1))))):=rfl
instance Zns (x:Z1):SpecC prog 112 [.agg (Zu x)] (.int .i64 (if rcb x=true then 0 else 5)) (x.Num.Mag.size<=LIM/\x.Den.Mag.size<=LIM):=⟨fun hp w=>by
 obtain⟨p1,p2⟩:=hp
 refine Zg Tryz.func112 rfl Tryz.ntmps112 rfl ?_
 repeat(refine wkB ?_;intros)
 rcases hn:icb x.Num with _|_
 ·rw[show rcb x=false by unfold rcb;rw[hn];rfl]
  repeat(refine wkB ?_;intros)
  exact rtT rfl rfl
 repeat(refine wkB ?_;intros)
 rcases hd:icb x.Den with _|_
 ·rw[show rcb x=false by unfold rcb;rw[hn,hd];rfl]
  repeat(refine wkB ?_;intros)
  exact rtT rfl rfl
 obtain⟨a,ha⟩:=ZeL.1 hn
 obtain⟨b,hb⟩:=ZeL.1 hd
 obtain⟨n,d⟩:=x
 simp only at ha hb p1 p2 hn hd⊢
 subst ha
 subst hb
 rw[ZvF,hn,hd,ZeH,ZeH,Bool.true_and,Bool.true_and]
 have hz:decide (I b=I 0)=decide (b=0):=by rw[decide_eq_decide];exact Zck
 rw[hz]
 repeat(refine wkB ?_;intros)
 by_cases hb:b=0
 ·simp only[Wc hb]
  repeat(refine wkB ?_;intros)
  exact rtT rfl rfl
 ·simp only[We hb]
  repeat(refine wkB ?_;intros)
  refine jD 14 14 (h:=?_)
  (repeat(refine wkH ?_))
  rcases hc:decide (Lib.compareInt b 1<=0) with _|_
  ·(repeat(first|refine wkH ?_|(refine tC rfl rfl ?_ ?_;focus(first|exact trivial|exact⟨p1,p2⟩))))
   refine Zn ?_
   refine Zr ?_
   repeat(refine wkB ?_;intros)
   rcases hg:decide (((Int.gcd a b:Nat):Int)=1) with _|_
   ·repeat(refine wkB ?_;intros)
    exact rtT rfl rfl
   ·repeat(refine wkB ?_;intros)
    exact rtT rfl rfl
  ·(repeat(refine wkH ?_))
   refine Zn ?_
   refine Zr ?_
   repeat(refine wkB ?_;intros)
   exact rtT rfl rfl⟩
instance (priority :=high) ZCB (q:Rat):SpecC prog 112 [vQ q] (.int .i64 0) (M q<=LQ):=⟨fun hp w=>by
 have h:=(Zns (Q q)).out ⟨?_, ?_⟩ w
 ·rw[ZzQ] at h
  exact h
 ·have:=Wi (Zbc q) hp
  exact Wi this (by decide)
 ·show(mag (dn q).natAbs).size<=LIM
  have h1:=Wi (Za5 q) hp
  unfold dn
  split
  ·decide
  ·exact Wi h1 (by decide)⟩
end
section
abbrev SS :=ZS
class SumC (f g:Nat)(h:outParam Nat):Prop where out:f+g=h
instance : SumC 4 4 8:=⟨rfl⟩
instance : SumC 4 0 4:=⟨rfl⟩
instance ZFT {P:Program}{w0:World}{n:Nat}{L:List Blk}{E:Env}{v:Value}{x:Operand}{T T0:TypeId}{α:Type}[Inhabited α]{enc:α->Array Value}{k b f g s:Nat}{xs:List α}{sp:List Value}{i:Int}[IsC (evl E x) (.pointer (some ⟨b,0+i.toNat*k+f+g,none⟩))][hs:SumC f g s][h:AtC w0 L b (row enc xs sp) T0][EncC enc k][hv:LdC P T (enc (gi xs i)) s v]:YsC P w0 n L E (.load T x) v (i.toNat<xs.length):=⟨fun hi _ _ _ _ _=>Zd6 isE h.out (by
 have h1:=ZhP (P:=P) (T:=T) (v:=v) (enc:=enc) (k:=k) (sp:=sp) (f:=s) hi (by rw[<-Zc1 hi];exact hv.out)
 rw[Nat.add_assoc,hs.out,Nat.zero_add]
 exact h1)⟩
def sgU (pts:List SS)(i:Nat):PU:=⟨⟨⟨(gi pts (i:Int)).T,0,false⟩,⟨(gi pts ((i+1:Nat):Int)).T,0,false⟩,decide ((1:Int)<((i+1:Nat):Int)),false⟩,stl (gi pts (i:Int)) (gi pts ((i+1:Nat):Int))⟩
def sgs (pts:List SS):Nat->List PU
 |0=>[]
 |m+1=>sgs pts m++[sgU pts m]
theorem ZdK (pts:List SS):∀m,(sgs pts m).length=m
 |0=>rfl
 |m+1=>by rw[sgs,Wp,ZdK pts m];rfl
theorem Zid (pts:List SS){u:PU}:∀m,u∈sgs pts m->∃i,i<m/\u=sgU pts i
 |0,h=>by cases h
 |m+1,h=>by
  rw[sgs] at h
  rcases List.mem_append.1 h with h1|h1
  ·obtain⟨i,h3,h4⟩:=Zid pts m h1
   exact⟨i,by omega,h4⟩
  ·rw[Wo] at h1
   exact⟨m,by omega,h1⟩
def one1 (p:SS):PU:=⟨⟨⟨p.T,0,false⟩,⟨p.T,0,false⟩,false,false⟩,⟨p.P.X,0,p.P.Y,0⟩⟩
def frS (pts:List SS):List PU:=if pts.length=1 then [one1 (gi pts 0)] else mNorm (sgs pts (pts.length-1))
def frE (pts:List SS):Int:=if pts.length=1 then 0 else nrmE (mpN toU (sgs pts (pts.length-1)) (sgs pts (pts.length-1)).length)
theorem ZmI {α β:Type}[Inhabited α]{f:α->β}{xs:List α}{y:β}:∀m,m<=xs.length->y∈mpN f xs m->∃x∈xs,y=f x
 |0,_,h=>by cases h
 |m+1,hm,h=>by
  rw[mpN] at h
  rcases List.mem_append.1 h with h1|h1
  ·exact ZmI m (by omega) h1
  ·rw[Wo] at h1
   exact⟨_,ZI (by omega),h1⟩
theorem ZwA {pts:List SS}(hB:Bnd pts)(i:Nat):UIn (toU (sgU pts i)):=by
 obtain⟨h1,h2,h3⟩:=hB (i:Int)
 obtain⟨h4,h5,h6⟩:=hB ((i+1:Nat):Int)
 have:=MB.mk h1
 have:=MB.mk h2
 have:=MB.mk h3
 have:=MB.mk h4
 have:=MB.mk h5
 have:=MB.mk h6
 exact⟨⟨rfl,rfl,rfl,rfl,Wi h1 (by decide),Wi h4 (by decide)⟩,⟨MB.lt (q:=(stl (gi pts (i:Int)) (gi pts ((i+1:Nat):Int))).X0) rfl,MB.lt (q:=(stl (gi pts (i:Int)) (gi pts ((i+1:Nat):Int))).X1) rfl,MB.lt (q:=(stl (gi pts (i:Int)) (gi pts ((i+1:Nat):Int))).Y0) rfl,MB.lt (q:=(stl (gi pts (i:Int)) (gi pts ((i+1:Nat):Int))).Y1) rfl⟩⟩
theorem Zqv {pts:List SS}(hB:Bnd pts)(m:Nat):∀u∈mpN toU (sgs pts m) (sgs pts m).length,UIn u:=fun u hu=>by
 obtain⟨x,hx,rfl⟩:=ZmI _ (Wl _) hu
 obtain⟨i, -,rfl⟩:=Zid pts m hx
 exact ZwA hB i
set_option maxHeartbeats 1000000 in
theorem ZnP (b n c:Nat)(pts:List SS)(sp:List Value)(T:TypeId)(hn:pts.length=n)(h1:1<=n)(h19:n<=19)(hB:Bnd pts)(hinc:∀i:Nat,i+1<n->(gi pts (i:Int)).T<(gi pts ((i+1:Nat):Int)).T)(w:World)(hw:∃fz,w.heap[b]? =some (.cells (row rS pts sp) T fz)):
  Calls prog 62 [.slice (some ⟨b,0,none⟩) n c].toArray w (RetM (SlS rP 36 (frS pts)) (fun s=> .tuple #[vSl s, .int .i64 (frE pts)]) (fun s=>mS 115 s) w):=by
 have:=FoC.mk hw
 have hBd:∀i:Int,M (gi pts i).T<=LQ/\M (gi pts i).P.X<=LQ/\M (gi pts i).P.Y<=LQ:=fun i=>by
  obtain⟨h1,h2,h3⟩:=hB i
  exact⟨Wi h1 (by decide),Wi h2 (by decide),Wi h3 (by decide)⟩
 refine Zg Tryz.func62 rfl Tryz.ntmps62 rfl ?_
 repeat(refine wkB ?_;intros)
 simp only[We (show¬(256:Int)<(n:Int) by omega)]
 repeat(refine wkB ?_;intros)
 refine Zm (S:=Nat) (fun m=>m<=n) (fun m=>[(0, .slice (some ⟨b,0,none⟩) n c),(3, .int .i64 0),(20, .slice (some ⟨b,0,none⟩) n c),(21, .int .i64 n),(22, .int .i64 (m:Nat))]) (fun _=>[]) (fun m=>n-m) 0 (Wm _) sbB slB (fun m hm=>?_)
 repeat(refine wkB ?_;intros)
 refine Zl rfl (fun h=>?_) (fun h=>?_)
 ·have hlt:m<n:=by have:=Wa h;omega
  repeat(first|(refine wkB ?_;intros)|(refine wnM ?_ ?_;(focus(first|exact(hBd _).1|exact(hBd _).2.1|exact(hBd _).2.2|exact⟨by omega,by omega⟩));intros))
  exact Zh (m+1) hlt sbB slB (by omega)
 ·have hge:m=n:=by have:=Wb h;omega
  subst hge
  repeat(refine wkB ?_;intros)
  refine Zm (S:=Nat) (fun k=>k<=m) (fun k=>[(0, .slice (some ⟨b,0,none⟩) m c),(3, .int .i64 0),(45, .slice (some ⟨b,0,none⟩) m c),(46, .int .i64 m),(47, .int .i64 (k:Nat))]) (fun _=>[]) (fun k=>m-k) 0 (Wm _) sbB slB (fun k hk=>?_)
  repeat(refine wkB ?_;intros)
  refine Zl rfl (fun h=>?_) (fun h=>?_)
  ·have hlt:k<m:=by have:=Wa h;omega
   repeat(refine wkB ?_;intros)
   rcases k with _|k
   ·(refine jD 17 17 (h:=?_);(repeat(refine wkH ?_));refine Zn ?_;(repeat(refine Z4 ?_;intro _));refine Zr ?_)
    repeat(first|(refine wkB ?_;intros)|(refine wnM ?_ ?_;(focus(exact⟨by omega,by omega⟩));intros))
    exact Zh 1 hlt sbB slB (by omega)
   ·have e1:((k+1:Nat):Int)-1=(k:Int):=by omega
    refine jD 17 17 (h:=?_)
    (repeat(refine wkH ?_))
    simp only[Wc (show(0:Int)<((k+1:Nat):Int) by omega),e1]
    (repeat(refine wkH ?_))
    simp only[e1]
    (repeat(first|refine wkH ?_|(refine tC rfl rfl ?_ ?_;focus(exact⟨(hBd _).1,(hBd _).1⟩))))
    refine Zn ?_
    refine Zr ?_
    have hcl:¬cq (gi pts ((k+1:Nat):Int)).T (gi pts (k:Int)).T<=0:=by
     rw[Zjt]
     have:=hinc k hlt
     grind
    simp only[We hcl]
    repeat(first|(refine wkB ?_;intros)|(refine wnM ?_ ?_;(focus(exact⟨by omega,by omega⟩));intros))
    exact Zh (k+2) hlt sbB slB (by omega)
  ·have hge:k=m:=by have:=Wb h;omega
   subst hge
   repeat(refine wkB ?_;intros)
   by_cases ho:k=1
   ·simp only[Wc (show(k:Int)=1 by omega)]
    repeat(refine wkB ?_;intros)
    rename_i b7
    subst ho
    (refine Za9 [0,1,2,3,4,5,6,7,8,9,10,11,12,13,14] [15,16,17] (_) (h:=?_);refine wkI ?_)
    (repeat(refine wkH ?_))
    refine Zn ?_
    repeat(refine wkT ?_;intros)
    repeat(refine wkB ?_;intros)
    rename_i b8
    have e1:frS pts=[one1 (gi pts 0)]:=by unfold frS;rw[if_pos hn]
    have e2:frE pts=0:=by unfold frE;rw[if_pos hn]
    obtain⟨s',hv',hm'⟩:=SlS.put (enc:=rP) (k:=36) (b:=b8) (sp:=[]) (c:=1) (ys:=frS pts) 115 (by rw[e1];rfl) ⟨Wl _,rfl⟩ Nat.one_pos
    refine ZA (v1:=vSl s') (v2:= .int .i64 (frE pts)) rfl (Zk (by rw[hv'];rfl)) (Zk (by rw[e2];rfl)) (fun w hw=>⟨s',rfl, ?_⟩)
    dsimp only
    rw[hm',e1]
    exact hw.sub suB
   ·simp only[We (show¬(k:Int)=1 by omega)]
    repeat(refine wkB ?_;intros)
    refine Zm (S:=(m:Nat)×SlS rP 36 (sgs pts m)) (fun s=>s.1<=k-1) (fun s=>[(0, .slice (some ⟨b,0,none⟩) k c),(8,vSl s.2),(9, .int .i64 ((s.1+1:Nat)))]) (fun s=>mS 115 s.2) (fun s=>k-1-s.1) ⟨0,SlS.no⟩ (Wm _) sbB slB (fun s hm=>?_)
    obtain⟨m,s⟩:=s
    simp only at hm⊢
    have hsl:=ZdK pts m
    repeat(refine wkB ?_;intros)
    refine Zl rfl (fun h=>?_) (fun h=>?_)
    ·have hlt:m+1<k:=by have:=Wa h;omega
     have e1:((m+1:Nat):Int)-1=(m:Int):=by omega
     have hp:∀i:Int,M (gi pts i).T<=34359738368/\M (gi pts i).P.X<=34359738368/\M (gi pts i).P.Y<=34359738368:=fun i=>⟨Wi (hB i).1 (by decide),Wi (hB i).2.1 (by decide),Wi (hB i).2.2 (by decide)⟩
     repeat(refine wkB ?_;intros)
     (refine Zdi [0,1,2,3,4,5,6,7,8] [9,10] [11,12] ([]) (h:=?_);refine wkI ?_)
     (repeat(refine wkH ?_))
     simp only[e1]
     repeat(refine wkT ?_;intros)
     repeat(first|(refine wkB ?_;intros)|(refine wnM ?_ ?_;(focus(first|exact⟨(hp _).1,(hp _).2.1,(hp _).1,(hp _).2.1⟩|exact⟨(hp _).1,(hp _).2.2,(hp _).1,(hp _).2.2⟩));intros))
     refine jD 9 10 (h:=?_)
     (repeat(refine wkH ?_))
     refine Zn ?_
     (repeat(refine Z4 ?_;intro _))
     refine Zr ?_
     repeat(refine wkB ?_;intros)
     refine sU rfl rfl ?_ ?_ ?_ ?_
     ·rfl
     ·rfl
     ·exact⟨by decide,by omega,by omega⟩
     intro s'
     repeat(first|(refine wkB ?_;intros)|(refine wnM ?_ ?_;(focus(exact⟨by omega,by omega⟩));intros))
     exact Zh ⟨m+1,s'⟩ (by show m+1<=k-1;omega) sbB suB (by show k-1-(m+1)<k-1-m;omega)
    ·have hge:m=k-1:=by have:=Wb h;omega
     subst hge
     repeat(first|(refine wkB ?_;intros)|(refine wnM ?_ ?_;(focus(first|exact trivial|exact⟨by omega,Zqv hB _⟩));intros))
     rename_i s2
     have e1:frS pts=mNorm (sgs pts (k-1)):=by unfold frS;rw[if_neg (by omega),hn]
     have e2:frE pts=nrmE (mpN toU (sgs pts (k-1)) (sgs pts (k-1)).length):=by unfold frE;rw[if_neg (by omega),hn]
     obtain⟨s',hv',hm'⟩:=SlS.turn 115 e1.symm s2
     exact ZA (v1:=vSl s') (v2:= .int .i64 (frE pts)) rfl (Zk (by rw[hv'];rfl)) (Zk (by rw[e2];rfl)) (fun w hw=>⟨s',rfl,by dsimp only;rw[hm'];exact hw.sub suB⟩)
end
section
def Inc (pts:List SS):Prop:=∀i:Nat,i+1<pts.length->(gi pts (i:Int)).T<(gi pts ((i+1:Nat):Int)).T
theorem Inc.lt {pts:List SS}(h:Inc pts):∀{j i:Nat},i<j->j<pts.length->(gi pts (i:Int)).T<(gi pts (j:Int)).T
 |0,i,hij,_=>by omega
 |j+1,i,hij,hj=>by
  have h1:=h j hj
  rcases(by omega:i<j\/i=j) with h2|h2
  ·have:=h.lt h2 (by omega)
   grind
  ·subst h2;exact h1
theorem ZqG (pts:List SS):∀m (i:Nat),i<m->gi (sgs pts m) (i:Int)=sgU pts i
 |0,i,h=>by omega
 |m+1,i,h=>by
  have hl:=ZdK pts m
  rw[Zj (by rw[ZdK];exact h)]
  simp only[sgs]
  rcases(by omega:i<m\/i=m) with h1|h1
  ·rw[List.getElem_append_left (by omega),<-Zj (by omega)]
   exact ZqG pts m i h1
  ·subst h1
   rw[List.getElem_append_right (by omega)]
   simp[hl]
def sgW (pts:List SS)(m:Nat):List UL:=mpN toU (sgs pts m) (sgs pts m).length
theorem ZhV (pts:List SS)(m:Nat):sgW pts m=(sgs pts m).map toU:=ZdJ _ _
theorem ZeW (pts:List SS)(m:Nat):(sgW pts m).length=m:=by rw[ZhV,Ws,ZdK]
theorem Znb {pts:List SS}{m i:Nat}(h:i<m):gi (sgW pts m) (i:Int)=toU (sgU pts i):=by
 rw[Zj (by rw[ZeW];exact h)]
 simp only[ZhV,List.getElem_map]
 rw[<-Zj (by rw[ZdK];exact h),ZqG pts m i h]
theorem Zgl {pts:List SS}{m:Nat}{u:UL}(h:u∈sgW pts m):∃i,i<m/\u=toU (sgU pts i):=by
 rw[ZhV] at h
 obtain⟨x,hx,rfl⟩:=List.mem_map.1 h
 obtain⟨i,h1,rfl⟩:=Zid pts m hx
 exact⟨i,h1,rfl⟩
theorem Zis {pts:List SS}(hB:Bnd pts)(hi:Inc pts){m:Nat}(hm:m+1<=pts.length):UVal (sgW pts m):=by
 refine⟨Zqv hB m,fun u hu=>?_⟩
 obtain⟨i,h1,rfl⟩:=Zgl hu
 exact .inl (hi i (by omega))
theorem ZwF {pts:List SS}(hB:Bnd pts)(hi:Inc pts){m:Nat}(hm:m+1<=pts.length):((sgW pts m).map absU).Pairwise GU.bfr:=by
 have hv:=Zis hB hi hm
 refine Zfl (fun u hu=>?_) (fun i h=>?_)
 ·obtain⟨x,hx,rfl⟩:=List.mem_map.1 hu
  exact hv.v x hx
 ·rw[Ws,ZeW] at h
  rw[List.getElem_map,List.getElem_map,<-Zj (by rw[ZeW];omega),<-Zj (by rw[ZeW];exact h),Znb (by omega),Znb h]
  refine .inr ⟨rfl, .inr ?_⟩
  show decide ((1:Int)<((i+1+1:Nat):Int))=true
  exact Wc (by omega)
theorem Zty (us:List UL):mpN toU (mpN ofU us us.length) (mpN ofU us us.length).length=us:=by
 rw[ZdJ,ZdJ,List.map_map]
 have:∀u∈us,(toU ∘ ofU) u=id u:=fun u _=>rfl
 rw[List.map_congr_left this,List.map_id]
theorem Zge (us:List PU):mpN toU (mNorm us) (mNorm us).length=nrmR (mpN toU us us.length):=Zty _
theorem Ztz {pts:List SS}(hB:Bnd pts)(hi:Inc pts)(h2:2<=pts.length):frE pts=0/\NF ((mpN toU (frS pts) (frS pts).length).map absU)/\(∀u∈mpN toU (frS pts) (frS pts).length,UOk u)/\∀t v,Has ((mpN toU (frS pts) (frS pts).length).map absU) t v↔Has ((sgW pts (pts.length-1)).map absU) t v:=by
 have hv:=Zis hB hi (m:=pts.length-1) (by omega)
 have hp:=ZwF hB hi (m:=pts.length-1) (by omega)
 have hd:((sgW pts (pts.length-1)).map absU).Pairwise Dis:=hp.imp fun h=>h.Dis
 have e1:frS pts=mNorm (sgs pts (pts.length-1)):=by unfold frS;rw[if_neg (by omega)]
 have e2:frE pts=nrmE (sgW pts (pts.length-1)):=by unfold frE;rw[if_neg (by omega)];rfl
 have e3:mpN toU (frS pts) (frS pts).length=nrmR (sgW pts (pts.length-1)):=by rw[e1,Zge];rfl
 obtain⟨n1,n2⟩:=Zvo hv hd
 rw[e3]
 exact⟨by rw[e2];exact(Zwy hv).2 hd,n1,ZtF hv.i,n2⟩
end
end Go.Vt
namespace Go.Vt
open Fv (va red)
section
variable {T F V : Type} [LE T] [LT T] [Std.LawfulOrderLT T] [Std.IsLinearOrder T] [Dns T] [Fv F T V] [DecidableEq T]
def Upw (xs:List (GU T F)):Prop:=∀u∈xs,u.a<=u.b
theorem Upw.snoc {xs:List (GU T F)}{u:GU T F}(h:Upw xs)(hu:u.a<=u.b):Upw (xs++[u]):=fun w hw=>by
 rcases List.mem_append.1 hw with h1|h1
 ·exact h w h1
 ·rw[Wo] at h1
  exact h1▸hu
theorem Upw.init {xs:List (GU T F)}{u:GU T F}(h:Upw (xs++[u])):Upw xs/\u.a<=u.b:=⟨fun w hw=>h w (List.mem_append_left _ hw),h u (List.mem_append_right _ (.head _))⟩
theorem Zgq {pv nx:Option (GU T F)}{xs xs':List (GU T F)}{x:GU T F}(h:Stp pv nx xs x xs')(hx:x.a<=x.b)(hu:Upw xs):Upw xs'/\xs'.length<=xs.length+1:=by
 cases h with
 |ext h1 h2 h3 h4 h5=>
  obtain⟨h6,h7⟩:=hu.init
  exact⟨h6.snoc (by simp only;grind),by simp⟩
 |appO h1 h2 h3 h4=>exact⟨hu.snoc hx,by simp⟩
 |appN h1 h2 h3=>exact⟨hu.snoc hx,by simp⟩
 |clo h1 h2 h3 h4=>
  obtain⟨h6,h7⟩:=hu.init
  exact⟨h6.snoc h7,by simp⟩
 |lft h1 h2 h3=>exact⟨hu,by simp⟩
 |rdc h1 h2 h3=>exact⟨hu.snoc hx,by simp⟩
theorem ZtN {pv:Option (GU T F)}{xs xs':List (GU T F)}{x n:GU T F}(h:Stp pv (some n) xs x xs')(hi:x.a=x.b)(hn:n.a=x.a)(hf:n.f=x.f)(hu:Upw xs):Upw xs'/\xs'.length<=xs.length:=by
 cases h with
 |ext h1=>exact absurd hi h1
 |appO h1=>exact absurd hi h1
 |appN h1=>exact absurd hi h1
 |clo h1 h2 h3 h4=>
  obtain⟨h6,h7⟩:=hu.init
  exact⟨h6.snoc h7,by simp⟩
 |lft h1 h2 h3=>exact⟨hu,by simp⟩
 |rdc h1 h2 h3=>exact absurd ⟨n,rfl,hn,by rw[hf]⟩ h3
theorem Zl7 {pv nx:Option (GU T F)}{xs xs':List (GU T F)}{x:GU T F}(h:Stp pv nx xs x xs')(hx:x.a<x.b)(hu:Upw xs):Upw xs'/\xs'.length<=xs.length+1/\∃ys w,xs'=ys++[w]/\w.b=x.b/\w.f=x.f/\w.a≠w.b:=by
 refine⟨(Zgq h (by grind) hu).1,(Zgq h (by grind) hu).2, ?_⟩
 cases h with
 |ext h1 h2 h3 h4 h5=>
  obtain⟨h6,h7⟩:=hu.init
  exact⟨_,_,rfl,rfl,h5,by simp only;grind⟩
 |appO h1 h2 h3 h4=>exact⟨_,_,rfl,rfl,rfl,h1⟩
 |appN h1 h2 h3=>exact⟨_,_,rfl,rfl,rfl,h1⟩
 |clo h1=>grind
 |lft h1=>grind
 |rdc h1=>grind
theorem ZuA {pv nx:Option (GU T F)}{ys xs':List (GU T F)}{x w:GU T F}(h:Stp pv nx (ys++[w]) x xs')(hi:x.a=x.b)(hb:w.b=x.a)(hf:w.f=x.f)(hl:w.a≠w.b)(hu:Upw (ys++[w])):Upw xs'/\xs'.length<=(ys++[w]).length:=by
 refine⟨(Zgq h (by grind) hu).1, ?_⟩
 generalize hz:ys++[w]=zs at*
 cases h with
 |ext h1=>exact absurd hi h1
 |appO h1=>exact absurd hi h1
 |appN h1=>exact absurd hi h1
 |clo h1 h2 h3 h4=>simp
 |lft h1 h2 h3=>exact Wl _
 |rdc h1 h2 h3=>exact absurd (by rw[hf]) (h2 ys w hz.symm hb hl)
theorem Zqq :∀(us:List (GU T F)),(∀u∈us,u.ok)->∀(pv:Option (GU T F))(xs out:List (GU T F)),Upw xs->Mk pv xs (partsL us) out->out.length<=xs.length+us.length
 |[],_,pv,xs,out,_,h=>by
  simp only[partsL,List.flatMap_nil] at h
  cases h with
  |nil=>exact Wl _
 |u::us,hok,pv,xs,out,hu,h=>by
  have hk:=hok u (.head _)
  have hks:∀u∈us,u.ok:=fun w hw=>hok w (.tail _ hw)
  rw[Zez] at h
  have go:∀(pv:Option (GU T F))(zs:List (GU T F)),Upw zs->zs.length<=xs.length+1->Mk pv zs (partsL us) out->out.length<=xs.length+(u::us).length:=fun pv zs hz hl hm=>by
   have:=Zqq us hks pv zs out hz hm
   rw[Wu]
   omega
  unfold GU.parts at h
  by_cases he:u.a=u.b
  ·have ho:u.oa=false:=by unfold GU.ok at hk;grind
   simp only[ho,he,if_true,Bool.false_eq_true,if_false,Wh,Wf,Wg] at h
   cases h with
   |cons hs hm=>
    have h1:=Zgq hs (by simp only;grind) hu
    exact go _ _ h1.1 h1.2 hm
  ·have hlt:u.a<u.b:=by unfold GU.ok at hk;grind
   have mid:∀(pv:Option (GU T F))(zs:List (GU T F)),Upw zs->zs.length<=xs.length->Mk pv zs ((⟨u.a,u.b,true,true,u.f⟩::if u.ob=true then [] else [⟨u.b,u.b,false,false,u.f⟩])++partsL us) out->out.length<=xs.length+(u::us).length:=fun pv zs hz hl hm=>by
    rcases hb:u.ob with _|_
    ·simp only[hb,Bool.false_eq_true,if_false,Wf,Wg] at hm
     cases hm with
     |cons hs hm=>
      obtain⟨h1,h2,ys,w,hw,h3,h4,h5⟩:=Zl7 hs hlt hz
      subst hw
      cases hm with
      |cons hs hm=>
       have h6:=ZuA hs rfl h3 h4 h5 h1
       exact go _ _ h6.1 (by omega) hm
    ·simp only[hb,if_true,Wf,Wg] at hm
     cases hm with
     |cons hs hm=>
      obtain⟨h1,h2,_⟩:=Zl7 hs hlt hz
      exact go _ _ h1 (by omega) hm
   rcases ho:u.oa with _|_
   ·simp only[ho,he,Bool.false_eq_true,if_false,Wf,Wg] at h
    cases h with
    |cons hs hm=>
     simp only[List.head?_cons] at hs
     have h1:=ZtN hs rfl rfl rfl hu
     exact mid _ _ h1.1 h1.2 (by simpa using hm)
   ·simp only[ho,he,if_true,if_false,Wg] at h
    exact mid _ _ hu (Wl _) h
end
theorem ZsI {us:List UL}(h:UVal us):(nrmR us).length<=us.length:=by
 have hs:=h.sor
 have hok:∀u∈(Go.Vt.sor us).map absU,u.ok:=fun u hu=>by
  obtain⟨w,hw,rfl⟩:=List.mem_map.1 hu
  exact hs.v w hw
 have hall:=ZfI hs.i (Go.Vt.sor us).length (Wl _)
 have hmk:=ZjL hall _ 0 (Nat.zero_add _)
 have hparts:(atm (Go.Vt.sor us) (Go.Vt.sor us).length).map absU=partsL ((Go.Vt.sor us).map absU):=by
  have:=Zii (fun u hu=>(hs.i u hu).i) (Go.Vt.sor us).length (Wl _)
  rw[List.take_length] at this
  exact this
 rw[List.drop_zero,hparts] at hmk
 have hl:=Zqq _ hok _ _ _ (fun u hu=>by cases hu) hmk
 have hp:=(Zfe us).length_eq
 simp only[nrm,List.map_nil,Wx,Nat.zero_add,Ws] at hl
 unfold nrmR
 split
 ·unfold allU
  omega
 ·exact Wm _
end Go.Vt
namespace Go.Vt
open Go.RowKit Go.Proofs
open Go.Proofs.Tryz (prog)
theorem ZoF {pts:List ZS}(h:∀x∈pts,M x.T<=PB/\M x.P.X<=PB/\M x.P.Y<=PB):Bnd pts:=fun i=>by
 by_cases hi:i.toNat<pts.length
 ·rw[Zc1 hi]
  exact h _ (List.getElem_mem hi)
 ·have:gi pts i=default:=by unfold gi;simp only[List.getD_eq_getElem?_getD,List.getElem?_eq_none (by omega:pts.length<=i.toNat)];rfl
  rw[this]
  exact⟨by decide+kernel,by decide+kernel,by decide+kernel⟩
end Go.Vt
