/- that the gaps between reports are those of the chain (part 23 of 32.) Conditions: those that each statement names. -/
import Derived.Test.YtjicdlilgjdefaaGreatDoorKG11
import Derived.Test.YtjicdlilgjdefaaGreatDoorKG12
import Derived.Test.YtjicdlilgjdefaaGreatDoorKG13
import Derived.Test.YtjicdlilgjdefaaGreatDoorKG18
import Derived.Test.YtjicdlilgjdefaaGreatDoorKG22
set_option linter.unusedSimpArgs false
set_option linter.unusedVariables false
set_option maxHeartbeats 2000000
set_option maxRecDepth 100000
set_option linter.unusedSectionVars false
namespace Go.Vt
open Go.RowKit Go.Proofs
open Go.Proofs.Tryz (prog)
section
section
variable {κ : Type} [DecidableEq κ]
structure SetM (l:List (κ×Bool)):Prop where
 nd:(l.map (·.1)).Nodup
 tr:∀p∈l,p.2=true
theorem SetM.nil :SetM ([]:List (κ×Bool)):=⟨List.nodup_nil,(fun p h=>by cases h)⟩
theorem ZgP {α:Type}{x k:κ}{v:α}:∀{l:List (κ×α)},k∈(mput l x v).map (·.1)↔k∈l.map (·.1)\/k=x
 |[]=>by simp[mput]
 |q::l=>by
  have ih:=ZgP (x:=x) (k:=k) (v:=v) (l:=l)
  simp only[mput]
  split
  ·rename_i h
   simp only[List.map_cons,Ww]
   constructor
   ·rintro(h1|h1)
    ·exact .inr h1
    ·exact .inl (.inr h1)
   ·rintro((h1|h1)|h1)
    ·exact .inl (h1.trans h.symm)
    ·exact .inr h1
    ·exact .inl h1
  ·simp only[List.map_cons,Ww,ih,or_assoc]
theorem SetM.put {l:List (κ×Bool)}(h:SetM l)(x:κ):SetM (mput l x true):=by
 refine⟨?_,fun p hp=>?_⟩
 ·rcases Zf5 (x:=x) (v:=true) l with h1|⟨h1,h2⟩
  ·rw[h1];exact h.nd
  ·rw[h2]
   exact List.nodup_append.2 ⟨h.nd,by simp,fun a ha b hb=>by rw[Wo] at hb;rintro rfl;exact h1 (hb▸ha)⟩
 ·rcases Zeg hp with h1|rfl
  ·exact h.tr p h1
  ·rfl
theorem SetM.get {l:List (κ×Bool)}(h:SetM l)(k:κ):((mget l k).getD false=true)↔k∈l.map (·.1):=by
 obtain⟨h1,h2⟩:=h
 induction l with
 |nil=>simp[mget]
 |cons p l ih=>
  have ih:=ih (List.nodup_cons.1 h1).2 fun p hp=>h2 p (.tail _ hp)
  have hp:=h2 p (.head _)
  simp only[mget,List.map_cons,Ww]
  split
  ·rename_i he
   simp[he,hp]
  ·rename_i he
   rw[ih]
   constructor
   ·exact .inr
   ·rintro(h|h)
    ·exact(he h).elim
    ·exact h
def nwK (R acc:List (κ×Bool))(r:κ):List (κ×Bool):=if(mget R r).getD false=true then acc else mput acc r true
def nwL (R:List (κ×Bool))(rs:List κ):List (κ×Bool):=rs.foldl (nwK R) []
theorem ZkI [Inhabited κ]{R:List (κ×Bool)}{rs:List κ}{m:Nat}(h:m<rs.length):nwL R (rs.take (m+1))=nwK R (nwL R (rs.take m)) (gi rs (m:Int)):=by
 rw[Wn h,nwL,List.foldl_append,Zj h]
 rfl
theorem ZjC {R:List (κ×Bool)}(hR:SetM R)(rs:List κ):SetM (nwL R rs)/\(nwL R rs).length<=rs.length/\∀k,k∈(nwL R rs).map (·.1)↔k∈rs/\k∉R.map (·.1):=by
 have key:∀(rs:List κ)(acc:List (κ×Bool)),SetM acc->SetM (rs.foldl (nwK R) acc)/\(rs.foldl (nwK R) acc).length<=acc.length+rs.length/\∀k,k∈(rs.foldl (nwK R) acc).map (·.1)↔k∈acc.map (·.1)\/(k∈rs/\k∉R.map (·.1)):=by
  intro rs
  induction rs with
  |nil=>intro acc h;exact⟨h,Wl _,fun k=>by simp⟩
  |cons r rs ih=>
   intro acc h
   rw[List.foldl_cons,Wu]
   by_cases hr:(mget R r).getD false=true
   ·rw[show nwK R acc r=acc from if_pos hr]
    obtain⟨h1,h2,h3⟩:=ih acc h
    refine⟨h1,by omega,fun k=>?_⟩
    rw[h3]
    have hk:=(hR.get r).1 hr
    constructor
    ·rintro(h4|⟨h4,h5⟩)
     ·exact .inl h4
     ·exact .inr ⟨.tail _ h4,h5⟩
    ·rintro(h4|⟨h4,h5⟩)
     ·exact .inl h4
     ·rcases List.mem_cons.1 h4 with rfl|h4
      ·exact(h5 hk).elim
      ·exact .inr ⟨h4,h5⟩
   ·rw[show nwK R acc r=mput acc r true from if_neg hr]
    obtain⟨h1,h2,h3⟩:=ih (mput acc r true) (h.put r)
    have hl:=ZeZ acc r true
    have hk:r∉R.map (·.1):=fun h=>hr ((hR.get r).2 h)
    refine⟨h1,by omega,fun k=>?_⟩
    rw[h3,ZgP]
    constructor
    ·rintro((h4|rfl)|⟨h4,h5⟩)
     ·exact .inl h4
     ·exact .inr ⟨.head _,hk⟩
     ·exact .inr ⟨.tail _ h4,h5⟩
    ·rintro(h4|⟨h4,h5⟩)
     ·exact .inl (.inl h4)
     ·rcases List.mem_cons.1 h4 with rfl|h4
      ·exact .inl (.inr rfl)
      ·exact .inr ⟨h4,h5⟩
 obtain⟨h1,h2,h3⟩:=key rs [] SetM.nil
 refine⟨h1,by rw[Wx,Nat.zero_add] at h2;exact h2,fun k=>?_⟩
 rw[nwL,h3]
 simp
theorem SetM.perm {l k:List (κ×Bool)}(h:SetM l)(p:k.Perm l):SetM k:=⟨(p.map _).nodup_iff.2 h.nd,fun q hq=>h.tr q (p.mem_iff.1 hq)⟩
theorem Zux {R:List (κ×Bool)}(hR:SetM R):∀{q:List (κ×Bool)},(∀p∈q,p.2=true)->SetM (cpy R q)/\(cpy R q).length<=R.length+q.length/\∀k,k∈(cpy R q).map (·.1)↔k∈R.map (·.1)\/k∈q.map (·.1):=by
 intro q
 induction q generalizing R with
 |nil=>intro _;exact⟨hR,Wl _,fun k=>by simp[cpy]⟩
 |cons p q ih=>
  intro hq
  have hp:=hq p (.head _)
  obtain⟨h1,h2,h3⟩:=ih (R:=mput R p.1 p.2) (by rw[hp];exact hR.put p.1) fun z hz=>hq z (.tail _ hz)
  have hl:=ZeZ R p.1 p.2
  refine⟨h1,by rw[Wu];exact Wi h2 (by omega),fun k=>?_⟩
  rw[show cpy R (p::q)=cpy (mput R p.1 p.2) q from rfl,h3,ZgP,List.map_cons,Ww,or_assoc]
structure AddOk (R R':List (κ×Bool))(rs:List κ):Prop where
 sm:SetM R'
 mem:∀k,k∈R'.map (·.1)↔k∈R.map (·.1)\/k∈rs
 len:R'.length<=R.length+rs.length
theorem AddOk.mk' {R q:List (κ×Bool)}{rs:List κ}(hR:SetM R)(hp:q.Perm (nwL R rs)):AddOk R (cpy R q) rs:=by
 obtain⟨h1,h2,h3⟩:=ZjC hR rs
 obtain⟨g1,g2,g3⟩:=Zux hR (h1.perm hp).tr
 refine⟨g1,fun k=>?_,by rw[hp.length_eq] at g2;omega⟩
 rw[g3,(hp.map (·.1)).mem_iff,h3]
 constructor
 ·rintro(h|⟨h, -⟩)
  ·exact .inl h
  ·exact .inr h
 ·rintro(h|h)
  ·exact .inl h
  ·by_cases hk:k∈R.map (·.1)
   ·exact .inl hk
   ·exact .inr ⟨h,hk⟩
end
theorem LstC.blk' {α:Type}{enc:α->Array Value}{xs:List α}{k:Nat}{w0 w:World}{L1:List Blk}{v:Value}[he:EncC enc (k+1)](h:LstC w0 L1 v α enc xs)(hw:Own w0 L1 w)(hne:xs≠[]):∃b o c,v= .slice (some ⟨b,o,none⟩) xs.length c/\xs.length<=c/\∀L,L1.Sublist L->RowC w0 L b o α enc xs:=by
 obtain⟨b,o,c,hv,hc, -⟩:=(h.out w hw).blk (k:=k) hne []
 refine⟨b,o,c,hv,hc,fun L hL=>⟨fun w' hw'=>?_⟩⟩
 obtain⟨b',o',c',hv', -,hr⟩:=(h.out w' (hw'.sub hL)).blk (k:=k) hne []
 rw[hv] at hv'
 injection hv' with e1 e2 e3
 injection e1 with e1
 injection e1 with e4 e5
 subst e4 e5
 exact hr.out w' (Own.start w')
instance (priority :=50) lstCons {α:Type}{enc:α->Array Value}{xs:List α}(w0:World)(e:Blk)(L:List Blk)(v:Value)[h:LstC w0 L v α enc xs]:LstC w0 (e::L) v α enc xs:=⟨fun w hw=>h.out w (hw.sub (List.sublist_cons_self _ _))⟩
instance (priority :=10) lstNilE (w0:World)(L:List Blk):LstC w0 L (.slice none 0 0) Za Zf []:=⟨fun _ _=>⟨.inl ⟨rfl,rfl⟩⟩⟩
structure ExV (y:Za):Prop where
 b:ExB y
 ne:y.From≠y.To
instance ZAj (y:Za):SpecC prog 94 [.agg (Zf y)] (.int .i64 0) (ExV y):=⟨fun hp w=>by
 refine Zg Tryz.func94 rfl Tryz.ntmps94 rfl ?_
 have i1:=in2 hp.b.f hp.b.t
 have i2:=in3 hp.b.s hp.b.r hp.b.l
 repeat(first|(refine wkM ?_;intros)|(refine wnM ?_ ?_;(focus(first|exact i1|exact i2));intros))
 simp only[We hp.ne]
 repeat(first|(refine wkM ?_;intros)|(refine wnM ?_ ?_;(focus(first|exact i1|exact i2));intros))
 exact rtT rfl rfl⟩
abbrev AddS (R:List (Zb×Bool))(X:List (Za×Bool))(rs:List Zb)(es:List Za):Type:={q:(List (Zb×Bool)×List (Za×Bool))×Int // AddOk R q.1.1 rs/\AddOk X q.1.2 es}
set_option maxHeartbeats 8000000 in
theorem ZoY (w0 w:World)(L1:List Blk)(px m1 m2:Nat)(hr he:Sl)(R:List (Zb×Bool))(X:List (Za×Bool))(rs:List Zb)(es:List Za)(Tx:TypeId)[kx:AtC w0 L1 px (vIn m1 m2) Tx](hrs:LstC w0 L1 (.slice hr.a hr.len hr.cap) Zb Zd rs)(hes:LstC w0 L1 (.slice he.a he.len he.cap) Za Zf es)(hR:R.length+rs.length<=4096)(hX:X.length+es.length<=4096)(okR:SetM R)(okX:SetM X)(hw:Own w0 (⟨m1, .obj (mRp R),177⟩::⟨m2, .obj (mEx X),178⟩::L1) w):
  Calls prog 95 [.pointer (some ⟨px,0,none⟩), .agg (ZB ⟨hr,he⟩)].toArray w (RetX w0 (AddS R X rs es) (fun q=> .tuple #[.int .i64 q.1.2, .int .i64 0]) (fun q=>⟨m1, .obj (mRp q.1.1.1),177⟩::⟨m2, .obj (mEx q.1.1.2),178⟩::L1)):=by
 have hwL:Own w0 L1 w:=hw.sub ((List.sublist_cons_self _ _).trans (List.sublist_cons_self _ _))
 obtain⟨p1,n1,c1⟩:=hr
 obtain⟨p2,n2,c2⟩:=he
 obtain⟨p1',c1',hf1⟩:=(hrs.out w (hw.sub ((List.sublist_cons_self _ _).trans (List.sublist_cons_self _ _)))).form
 injection hf1 with f1 f2 f3
 dsimp only at f1 f2 f3
 subst f1 f2 f3
 obtain⟨p2',c2',hf2⟩:=(hes.out w (hw.sub ((List.sublist_cons_self _ _).trans (List.sublist_cons_self _ _)))).form
 injection hf2 with g1 g2 g3
 dsimp only at g1 g2 g3
 subst g1 g2 g3
 refine ZY Tryz.func95 rfl Tryz.ntmps95 rfl hw ?_
 repeat(refine wkM ?_;intros)
 rename_i b3 b12 b13
 refine Zm (S:=Nat) (fun m=>m<=rs.length) (fun m=>[(0, .pointer (some ⟨px,0,none⟩)),(3, .pointer (some ⟨b3,0,none⟩)),(6, .map (some b12)),(7, .map (some b13)),(15, .slice p1 rs.length c1),(16, .int .i64 rs.length),(17, .int .i64 (m:Nat))]) (fun m=>⟨b13, .obj (mEx []),178⟩::⟨b12, .obj (mRp (nwL R (rs.take m))),177⟩::⟨b3,ZB ⟨⟨p1,rs.length,c1⟩,⟨p2,es.length,c2⟩⟩,40⟩::⟨m1, .obj (mRp R),177⟩::⟨m2, .obj (mEx X),178⟩::L1) (fun m=>rs.length-m) 0 (Wm _) sbB slB (fun m hm=>?_)
 repeat(refine wkM ?_;intros)
 refine Zl rfl (fun h=>?_) (fun h=>?_)
 ·have hlt:m<rs.length:=by have:=Wa h;omega
  have hnx:=ZkI (R:=R) hlt
  have hne:rs≠[]:=fun h0=>by rw[h0] at hlt;simp at hlt
  obtain⟨bw,ow,cw,hvw,hcw,hrow⟩:=hrs.blk' (k:=7) hwL hne
  injection hvw with x1 x2 x3
  subst x1
  have hrow':∀(L:List Blk) [SblC L1 L],RowC w0 L bw ow Zb Zd rs:=fun L hs=>hrow L hs.out
  unfold nwK at hnx
  repeat(refine wkM ?_;intros)
  (refine jD 7 7 (h:=?_);(repeat(refine wkH ?_));refine Zn ?_;(repeat(refine Z4 ?_;intro _));refine Zr ?_)
  repeat(refine wkM ?_;intros)
  cases hk:(mget R (gi rs (m:Int))).getD false
  ·rw[if_neg (by rw[hk];decide)] at hnx
   simp only[hk,Bool.not_false]
   repeat(refine wkO ?_;intros)
   exact Zh (m+1) hlt sbB (by rw[hnx];exact List.sublist_cons_self _ _) (by omega)
  ·rw[if_pos hk] at hnx
   simp only[hk,Bool.not_true]
   repeat(refine wkO ?_;intros)
   exact Zh (m+1) hlt sbB (by rw[hnx];exact List.sublist_cons_self _ _) (by omega)
 have hge:m=rs.length:=by have:=Wb h;omega
 subst hge
 rw[List.take_length]
 repeat(refine wkM ?_;intros)
 refine Zm (S:=Nat) (fun m=>m<=es.length) (fun m=>[(0, .pointer (some ⟨px,0,none⟩)),(6, .map (some b12)),(7, .map (some b13)),(32, .slice p2 es.length c2),(33, .int .i64 es.length),(34, .int .i64 (m:Nat))]) (fun m=>⟨b13, .obj (mEx (nwL X (es.take m))),178⟩::⟨b12, .obj (mRp (nwL R rs)),177⟩::⟨m1, .obj (mRp R),177⟩::⟨m2, .obj (mEx X),178⟩::L1) (fun m=>es.length-m) 0 (Wm _) sbB slB (fun m hm=>?_)
 repeat(refine wkM ?_;intros)
 refine Zl rfl (fun h=>?_) (fun h=>?_)
 ·have hlt:m<es.length:=by have:=Wa h;omega
  have hnx:=ZkI (R:=X) hlt
  have hne:es≠[]:=fun h0=>by rw[h0] at hlt;simp at hlt
  obtain⟨bw,ow,cw,hvw,hcw,hrow⟩:=hes.blk' (k:=4) hwL hne
  injection hvw with x1 x2 x3
  subst x1
  have hrow':∀(L:List Blk) [SblC L1 L],RowC w0 L bw ow Za Zf es:=fun L hs=>hrow L hs.out
  unfold nwK at hnx
  repeat(refine wkM ?_;intros)
  (refine jD 7 7 (h:=?_);(repeat(refine wkH ?_));refine Zn ?_;(repeat(refine Z4 ?_;intro _));refine Zr ?_)
  repeat(refine wkM ?_;intros)
  cases hk:(mget X (gi es (m:Int))).getD false
  ·rw[if_neg (by rw[hk];decide)] at hnx
   simp only[hk,Bool.not_false]
   repeat(refine wkO ?_;intros)
   exact Zh (m+1) hlt sbB (by rw[hnx];exact List.sublist_cons_self _ _) (by omega)
  ·rw[if_pos hk] at hnx
   simp only[hk,Bool.not_true]
   repeat(refine wkO ?_;intros)
   exact Zh (m+1) hlt sbB (by rw[hnx];exact List.sublist_cons_self _ _) (by omega)
 have hge:m=es.length:=by have:=Wb h;omega
 subst hge
 rw[List.take_length]
 have hnl:=(ZjC okR rs).2.1
 have hml:=(ZjC okX es).2.1
 repeat(refine wkM ?_;intros)
 simp only[We (show¬(4096:Int)<(R.length:Int)+((nwL R rs).length:Int) by omega)]
 repeat(refine wkM ?_;intros)
 simp only[We (show¬(4096:Int)<(X.length:Int)+((nwL X es).length:Int) by omega)]
 repeat(refine wkM ?_;intros)
 refine sZ rfl rfl trivial ?_
 intro q1
 repeat(refine wkM ?_;intros)
 refine sZ rfl rfl trivial ?_
 intro q2
 repeat(refine wkM ?_;intros)
 refine ZA rfl (Zk rfl) (Zk rfl) (fun w hw=>⟨⟨((cpy R q1.1,cpy X q2.1),_),AddOk.mk' okR q1.2,AddOk.mk' okX q2.2⟩,rfl, ?_⟩)
 refine(hw.sub (?_:(⟨m2, .obj (mEx (cpy X q2.1)),178⟩::⟨m1, .obj (mRp (cpy R q1.1)),177⟩::L1:List Blk).Sublist _)).perm (.swap _ _ _)
 exact suB
instance ZHD (w0:World)(L L0 L1:List Blk)(px m1 m2:Nat)(hr he:Sl)(R:List (Zb×Bool))(X:List (Za×Bool))(rs:List Zb)(es:List Za)(Tx Tx':TypeId)[kx0:AtC w0 L px (vIn m1 m2) Tx'][hd:DelO m1 L (mRp R) 177 L0][hd2:DelO m2 L0 (mEx X) 178 L1][kx:AtC w0 L1 px (vIn m1 m2) Tx][hrs:LstC w0 L1 (.slice hr.a hr.len hr.cap) Zb Zd rs][hes:LstC w0 L1 (.slice he.a he.len he.cap) Za Zf es]:
  SpecX prog w0 L 95 [.pointer (some ⟨px,0,none⟩), .agg (ZB ⟨hr,he⟩)] (AddS R X rs es) (fun q=> .tuple #[.int .i64 q.1.2, .int .i64 0]) (fun q=>⟨m1, .obj (mRp q.1.1.1),177⟩::⟨m2, .obj (mEx q.1.1.2),178⟩::L1) (R.length+rs.length<=4096/\X.length+es.length<=4096/\SetM R/\SetM X):=
 ⟨fun hp w hw=>ZoY w0 w L1 px m1 m2 hr he R X rs es Tx hrs hes hp.1 hp.2.1 hp.2.2.1 hp.2.2.2 (hw.perm (hd.out.trans (hd2.out.cons _)))⟩
set_option maxHeartbeats 8000000 in
theorem ZpT (w0 w:World)(L1:List Blk)(px m1 m2:Nat)(hr he:Sl)(R:List (Zb×Bool))(X:List (Za×Bool))(rs:List Zb)(es:List Za)(Tx:TypeId)[kx:AtC w0 L1 px (vIn m1 m2) Tx](hrs:LstC w0 L1 (.slice hr.a hr.len hr.cap) Zb Zd rs)(hes:LstC w0 L1 (.slice he.a he.len he.cap) Za Zf es)(hR:R.length+rs.length<=4096)(hX:X.length+es.length<=4096)(okR:SetM R)(okX:SetM X)(hvr:∀r∈rs,RepV r)(hve:∀y∈es,ExV y)(hw:Own w0 (⟨m1, .obj (mRp R),177⟩::⟨m2, .obj (mEx X),178⟩::L1) w):
  Calls prog 44 [.pointer (some ⟨px,0,none⟩), .agg (ZB ⟨hr,he⟩)].toArray w (RetX w0 (AddS R X rs es) (fun q=> .tuple #[.int .i64 q.1.2, .int .i64 0]) (fun q=>⟨m1, .obj (mRp q.1.1.1),177⟩::⟨m2, .obj (mEx q.1.1.2),178⟩::L1)):=by
 have hwL:Own w0 L1 w:=hw.sub ((List.sublist_cons_self _ _).trans (List.sublist_cons_self _ _))
 obtain⟨p1,n1,c1⟩:=hr
 obtain⟨p2,n2,c2⟩:=he
 obtain⟨p1',c1',hf1⟩:=(hrs.out w (hw.sub ((List.sublist_cons_self _ _).trans (List.sublist_cons_self _ _)))).form
 injection hf1 with f1 f2 f3
 dsimp only at f1 f2 f3
 subst f1 f2 f3
 obtain⟨p2',c2',hf2⟩:=(hes.out w (hw.sub ((List.sublist_cons_self _ _).trans (List.sublist_cons_self _ _)))).form
 injection hf2 with g1 g2 g3
 dsimp only at g1 g2 g3
 subst g1 g2 g3
 have hput:R.length+rs.length<=4096/\X.length+es.length<=4096/\SetM R/\SetM X:=⟨hR,hX,okR,okX⟩
 refine ZY Tryz.func44 rfl Tryz.ntmps44 rfl hw ?_
 repeat(refine wkM ?_;intros)
 rename_i b3
 refine Zm (S:=Nat) (fun m=>m<=rs.length) (fun m=>[(0, .pointer (some ⟨px,0,none⟩)),(3, .pointer (some ⟨b3,0,none⟩)),(15, .slice p1 rs.length c1),(16, .int .i64 rs.length),(17, .int .i64 (m:Nat))]) (fun m=>⟨b3,ZB ⟨⟨p1,rs.length,c1⟩,⟨p2,es.length,c2⟩⟩,40⟩::⟨m1, .obj (mRp R),177⟩::⟨m2, .obj (mEx X),178⟩::L1) (fun m=>rs.length-m) 0 (Wm _) sbB slB (fun m hm=>?_)
 repeat(refine wkM ?_;intros)
 refine Zl rfl (fun h=>?_) (fun h=>?_)
 ·have hlt:m<rs.length:=by have:=Wa h;omega
  have hrv:=hvr (gi rs (m:Int)) (ZI (by omega))
  have hne:rs≠[]:=fun h0=>by rw[h0] at hlt;simp at hlt
  obtain⟨bw,ow,cw,hvw,hcw,hrow⟩:=hrs.blk' (k:=7) hwL hne
  injection hvw with x1 x2 x3
  subst x1
  have hrow':∀(L:List Blk) [SblC L1 L],RowC w0 L bw ow Zb Zd rs:=fun L hs=>hrow L hs.out
  repeat(first|(refine wkM ?_;intros)|(refine wnM ?_ ?_;(focus(exact hrv));intros))
  exact Zh (m+1) hlt sbB slB (by omega)
 have hge:m=rs.length:=by have:=Wb h;omega
 subst hge
 repeat(refine wkM ?_;intros)
 refine Zm (S:=Nat) (fun m=>m<=es.length) (fun m=>[(0, .pointer (some ⟨px,0,none⟩)),(3, .pointer (some ⟨b3,0,none⟩)),(28, .slice p2 es.length c2),(29, .int .i64 es.length),(30, .int .i64 (m:Nat))]) (fun m=>⟨b3,ZB ⟨⟨p1,rs.length,c1⟩,⟨p2,es.length,c2⟩⟩,40⟩::⟨m1, .obj (mRp R),177⟩::⟨m2, .obj (mEx X),178⟩::L1) (fun m=>es.length-m) 0 (Wm _) sbB slB (fun m hm=>?_)
 repeat(refine wkM ?_;intros)
 refine Zl rfl (fun h=>?_) (fun h=>?_)
 ·have hlt:m<es.length:=by have:=Wa h;omega
  have hrv:=hve (gi es (m:Int)) (ZI (by omega))
  have hne:es≠[]:=fun h0=>by rw[h0] at hlt;simp at hlt
  obtain⟨bw,ow,cw,hvw,hcw,hrow⟩:=hes.blk' (k:=4) hwL hne
  injection hvw with x1 x2 x3
  subst x1
  have hrow':∀(L:List Blk) [SblC L1 L],RowC w0 L bw ow Za Zf es:=fun L hs=>hrow L hs.out
  repeat(first|(refine wkM ?_;intros)|(refine wnM ?_ ?_;(focus(exact hrv));intros))
  exact Zh (m+1) hlt sbB slB (by omega)
 have hge:m=es.length:=by have:=Wb h;omega
 subst hge
 repeat(refine wkM ?_;intros)
 refine sZ rfl rfl hput ?_
 intro q
 repeat(refine wkM ?_;intros)
 refine ZA rfl (Zk rfl) (Zk rfl) (fun w hw=>⟨q,rfl, ?_⟩)
 exact hw.sub suB
instance (priority :=high) ZH6 (w0:World)(L L0 L1:List Blk)(px m1 m2:Nat)(hr he:Sl)(R:List (Zb×Bool))(X:List (Za×Bool))(rs:List Zb)(es:List Za)(Tx Tx':TypeId)[kx0:AtC w0 L px (vIn m1 m2) Tx'][hd:DelO m1 L (mRp R) 177 L0][hd2:DelO m2 L0 (mEx X) 178 L1][kx:AtC w0 L1 px (vIn m1 m2) Tx][hrs:LstC w0 L1 (.slice hr.a hr.len hr.cap) Zb Zd rs][hes:LstC w0 L1 (.slice he.a he.len he.cap) Za Zf es]:
  SpecX prog w0 L 44 [.pointer (some ⟨px,0,none⟩), .agg (ZB ⟨hr,he⟩)] (AddS R X rs es) (fun q=> .tuple #[.int .i64 q.1.2, .int .i64 0]) (fun q=>⟨m1, .obj (mRp q.1.1.1),177⟩::⟨m2, .obj (mEx q.1.1.2),178⟩::L1) (R.length+rs.length<=4096/\X.length+es.length<=4096/\SetM R/\SetM X/\(∀r∈rs,RepV r)/\∀y∈es,ExV y):=
 ⟨fun hp w hw=>ZpT w0 w L1 px m1 m2 hr he R X rs es Tx hrs hes hp.1 hp.2.1 hp.2.2.1 hp.2.2.2.1 hp.2.2.2.2.1 hp.2.2.2.2.2 (hw.perm (hd.out.trans (hd2.out.cons _)))⟩
end
section
abbrev Png :=Z7
abbrev Cll :=Zai
abbrev ePng :=Z5
abbrev eCll :=Zae
abbrev Bt (n:Int):Prop:=0<=n/\n<=255
structure PngOk (p:Png):Prop where
 o:Bt p.Object
 q:Bt p.Seq
 v:Bt p.Version
 d:Bt p.Device
 t:Bt p.Time
 x:Bt p.X
 y:Bt p.Y
structure CllOk (c:Cll):Prop where
 f:Bt c.From
 t:Bt c.To
 s:Bt c.Sent
 d:Bt c.Delay
 l:Bt c.Least
def rptP (p:Png):Zb:=⟨1+p.Object % 3,p.Seq % 10,p.Version % 3,p.Device % 4,8+p.Time % 56,p.X % 64,p.Y % 64,p.Cancel⟩
theorem Zv6 (p:Png):RepV (rptP p):=by
 have e1:(rptP p).Object=1+p.Object % 3:=rfl
 have e2:(rptP p).Seq=p.Seq % 10:=rfl
 have e3:(rptP p).Version=p.Version % 3:=rfl
 have e4:(rptP p).Device=p.Device % 4:=rfl
 have e5:(rptP p).Time=8+p.Time % 56:=rfl
 have e6:(rptP p).X=p.X % 64:=rfl
 have e7:(rptP p).Y=p.Y % 64:=rfl
 constructor <;> omega
instance ZCo (p:Png):SpecC prog 14 [.agg (ePng p)] (.agg (Zd (rptP p))) (PngOk p):=⟨fun hp w=>by
 obtain⟨o,q,v,d,t,x,y⟩:=hp
 refine Zg Tryz.func14 rfl Tryz.ntmps14 rfl ?_
 repeat(refine wkO ?_;intros)
 exact rtC rfl rfl⟩
def offD (d:Int):Int:=gi [0,3, -4,6] d
theorem Zho (d:Int): -4<=offD d/\offD d<=6:=by
 unfold offD
 have h:∀x∈([0,3, -4,6]:List Int), -4<=x/\x<=6:=by decide
 by_cases hd:d.toNat<([0,3, -4,6]:List Int).length
 ·exact h _ (ZI hd)
 ·unfold gi
  rw[List.getD_eq_getElem?_getD,List.getElem?_eq_none (by omega)]
  exact⟨by decide,by decide⟩
def excF (c:Cll):Int:=c.From % 4
def excT (c:Cll):Int:=(c.From % 4+1+c.To % 3) % 4
def excL (c:Cll):Int:=if c.Wrong then c.Delay % 6+9 else if c.Delay % 6-c.Least % 3<0 then 0 else c.Delay % 6-c.Least % 3
def excM (z:Int):Int:=if z>0 then z else 0
def excC (c:Cll):Za:=⟨excF c,excT c,10+c.Sent % 50,excM (10+c.Sent % 50-offD (excF c)+offD (excT c)+c.Delay % 6),excL c⟩
theorem ZvD (c:Cll):ExV (excC c):=by
 have e1:(excC c).From=c.From % 4:=rfl
 have e2:(excC c).To=(c.From % 4+1+c.To % 3) % 4:=rfl
 have e3:(excC c).Sent=10+c.Sent % 50:=rfl
 have e4:(excC c).Received=excM (10+c.Sent % 50-offD (excF c)+offD (excT c)+c.Delay % 6):=rfl
 have e5:(excC c).Least=excL c:=rfl
 have h1:=Zho (excF c)
 have h2:=Zho (excT c)
 have h3:0<=(excC c).Received/\(excC c).Received<=100:=by
  rw[e4]
  unfold excM
  split <;> omega
 have h4:0<=(excC c).Least/\(excC c).Least<=20:=by
  rw[e5]
  unfold excL
  split
  ·omega
  ·split <;> omega
 refine⟨?_, ?_⟩
 ·constructor <;> omega
 ·omega
instance ZxH (c:Cll):SpecC prog 46 [.agg (eCll c)] (.agg (Zf (excC c))) (CllOk c):=⟨fun hp w=>by
 obtain⟨f,t,s,d,l⟩:=hp
 have o1:=Zho (excF c)
 have o2:=Zho (excT c)
 refine Zg Tryz.func46 rfl Tryz.ntmps46 rfl ?_
 repeat(refine wkO ?_;intros)
 rename_i b1 b2 b9
 (refine ZX (.v [0,1,2,3,4,5,6,7,8] (.e1 9 (.e1 10 (.fin)))) (_) (h:=?_);refine wkX ?_)
 (repeat(first|refine wkH ?_|(refine tC rfl rfl ?_ ?_;focus(exact⟨by omega,by omega⟩))))
 repeat(refine wkT ?_;intros)
 repeat(refine wkO ?_;intros)
 have e1:∀z,excL c=z->excC c=⟨c.From % 4,(c.From % 4+1+c.To % 3) % 4,10+c.Sent % 50,excM (10+c.Sent % 50-gi [0,3, -4,6] (c.From % 4)+gi [0,3, -4,6] ((c.From % 4+1+c.To % 3) % 4)+c.Delay % 6),z⟩:=fun z hz=>by rw[<-hz];rfl
 unfold offD excF at o1
 unfold offD excT at o2
 by_cases h1:c.Delay % 6-c.Least % 3<0 <;> cases h2:c.Wrong
 all_goals
  first|simp only[Wc h1]|simp only[We h1]
  repeat(refine wkM ?_;intros)
  simp only[h2]
  repeat(refine wkO ?_;intros)
  generalize hD:([0,3, -4,6]:List Int)=D at*
  have hDl:D.length=4:=by rw[<-hD];rfl
  (refine ZX (.v [0,1,2,3,4,5,6,7,8,9,10,11,12,13,14,15,16,17,18] (.e1 19 (.fin))) ([⟨b9,row (eI .i64) D [],3⟩]) (h:=?_);refine wkX ?_)
  (repeat(first|refine wkH ?_|(refine tC rfl rfl ?_ ?_;focus(exact⟨by omega,by omega⟩))))
  repeat(refine wkT ?_;intros)
  repeat(refine wkM ?_;intros)
  subst hD
  first|rw[e1 _ (by unfold excL;rw[h2,if_neg (by decide),if_pos h1])]|rw[e1 _ (by unfold excL;rw[h2,if_neg (by decide),if_neg h1])]|rw[e1 _ (by unfold excL;rw[h2,if_pos rfl])]
  exact rtC rfl rfl⟩
end
section
theorem ZcM {P:Program}{S T ty:TypeId}{i:TypeInfo}{p:Option Addr}{n c:Nat}{a:Addr}{c2:Nat}{w:World}(ht:P.underlying S=some (.slice T))(hi:P.info? T=some i)(h:(p=none/\n=0/\c=0)\/(∃b,p=some ⟨b,0,none⟩/\n<=c)):
  (Builtin.append_ #[S,S] ty #[.slice p n c, .slice (some a) 0 c2]).run P w= .ok (.slice p n c) w:=by
 rcases h with⟨rfl,rfl,rfl⟩|⟨b,rfl,hnc⟩
 ·simp[Builtin.append_,run_underlying ht,sizeOf,typeInfo,hi,Builtin.lenOf,Builtin.firstCells,loadCells,loadCellsFrom,storeCells,Result.andThen]
 ·simp[Builtin.append_,run_underlying ht,sizeOf,typeInfo,hi,Builtin.lenOf,Builtin.firstCells,hnc,storeCells,loadCells,loadCellsFrom,Result.andThen]
section
variable {P : Program} {w0 : World} {n : Nat} {ops : Array Oper} {L L1 : List Blk} {E : Env}
variable {Q : Exit -> Act -> World -> Prop} {rest : List Oper}
variable {ty : TypeId} {pos : String} {aft : Array Edge} {gd : Option (Nat × Bool)} {t : Tmp} {x y : Operand}
variable {α : Type} {enc : α -> Array Value} {S T : TypeId} {k B : Nat} {xs ys : List α} {v : Value} {z : Value} {zc : Array Value} {s : SlS enc (k + 1) xs}
variable [hx : IsC (evl E x) (vSl s)] [hy : IsC (evl E y) v] [hl : LstC w0 L v α enc ys] [hd : OwnS T s L L1] [hT : UndC P S (.slice T)] [hz : ZeroC P T z zc] [he : EncC enc (k + 1)] [hk : SizeC P T (k + 1)] [hB : BytesC P T B]
include hx hy hd hl hT hz he hk hB
theorem Zr5 (hzk:zc.size=k+1)(hb:(xs.length+ys.length)*B<=140737488355328/\xs.length+ys.length<=9223372036854775807)(a:Act)(w:World)(ha:Rep n E a)(hw:Own w0 L w):
  ∃s':SlS enc (k+1) (xs++ys),∃w',(execOp a.eval ⟨some t, .call ⟨.builtin .append,#[x,y],#[S,S]⟩,ty,pos,aft,gd⟩).run P w= .ok (.value (vSl s')) w'/\Own w0 (mS T s'++L1) w':=by
 have hp:=hw.perm hd.out
 have hlen:(xs++ys).length=xs.length+ys.length:=Wp
 have hv:=hl.out w hw
 by_cases h0:ys=[]
 ·subst h0
  obtain⟨s',e1,e2⟩:=s.like (Wh xs)
  obtain⟨i,hi, -⟩:=Zbx hk.out
  refine⟨s',w, ?_,by rw[e2];exact hp⟩
  rw[e1]
  have hx':Env.ev E x=some (vSl s):=by rw[<-ZaL,hx.out]
  have hy':Env.ev E y=some v:=by rw[<-ZaL,hy.out]
  refine ZaM (d:=some t) (pos:=pos) (aft:=aft) (gd:=gd) ha hx' hy' ?_
  rcases hv.out with⟨hv0, -⟩|⟨a2,c2,hv0, -, -⟩
  ·rw[hv0]
   rcases s.cases T with⟨-,hv, -⟩|⟨b,c,sp,h1,hv, -, -⟩
   ·rw[hv]
    exact Zb1 hT.out hi (.inl ⟨rfl,rfl,rfl⟩)
   ·rw[hv]
    exact Zb1 hT.out hi (.inr ⟨b,rfl,h1.1⟩)
  ·rw[hv0]
   rcases s.cases T with⟨-,hv, -⟩|⟨b,c,sp,h1,hv, -, -⟩
   ·rw[hv]
    exact ZcM hT.out hi (.inl ⟨rfl,rfl,rfl⟩)
   ·rw[hv]
    exact ZcM hT.out hi (.inr ⟨b,rfl,h1.1⟩)
 ·obtain⟨b2,o2,c2,hv2,hc2,hrow⟩:=hv.blk (k:=k) h0 []
  obtain⟨cs2,T2,fz,hf,hcell⟩:=hrow.out w (Own.start w)
  have hm:0<ys.length:=List.length_pos_iff.2 h0
  have hne:xs++ys≠[]:=fun h0=>by rw[h0,Wx] at hlen;omega
  have hy':Env.ev E y=some (.slice (some ⟨b2,o2,none⟩) ys.length c2):=by rw[<-ZaL,hy.out,hv2]
  have hcs:∀j v,(rowL enc ys)[j]? =some v->cs2[o2+j]? =some v:=fun j v hv=>by
   have hj:j<ys.length*(k+1):=by
    rw[<-Z9 (enc:=enc) (k:=k+1) ys]
    rcases Nat.lt_or_ge j (rowL enc ys).length with h|h
    ·exact h
    ·rw[List.getElem?_eq_none h] at hv;cases hv
   have hi:j / (k+1)<ys.length:=Nat.div_lt_of_lt_mul (by rw[Nat.mul_comm];exact hj)
   have hf:j % (k+1)<k+1:=Nat.mod_lt _ (Nat.succ_pos _)
   have e:j / (k+1)*(k+1)+j % (k+1)=j:=by rw[Nat.mul_comm];exact Nat.div_add_mod j (k+1)
   have hg:=Ze0 (enc:=enc) (k:=k+1) ys (j / (k+1)) (j % (k+1)) hi hf
   rw[e,hv] at hg
   have:=(hcell _ _ (k+1) v hi he.size hg.symm).1
   rw[Nat.add_assoc,e] at this
   exact this
  rcases s.cases T with⟨rfl,hv,hm0⟩|⟨b,c,sp,h1,hv,hm1, -⟩
  ·have hx':Env.ev E x=some (.slice none 0 0):=by rw[<-ZaL,hx.out,hv]
   rw[hm0,Wg] at hp
   obtain⟨s,w',hr,ho⟩:=Zdo (L:=L1) (ty:=ty) (b2:=b2) (off2:=o2) (m:=ys.length) (c2:=c2) (news:=rowL enc ys) hT.out hz.out hz.cells hk.out hB.out hzk hp ⟨T2,fz,hf⟩ (by rw[Z9 (k:=k+1)]) hcs hm (by simpa using hb.1) (by simpa using hb.2)
   refine⟨SlS.at_ s.1.1 s.1.2.1 s.1.2.2 (by rw[Wg];exact s.2) hne,w', ?_,ho⟩
   have h3:=ZaM (d:=some t) (pos:=pos) (aft:=aft) (gd:=gd) ha hx' hy' hr
   rw[h3]
   rfl
  ·have hx':Env.ev E x=some (.slice (some ⟨b,0,none⟩) xs.length c):=by rw[<-ZaL,hx.out,hv]
   rw[hm1] at hp
   obtain⟨s,w',hr,ho⟩:=ZeQ (L1:=L1) (ty:=ty) (b:=b) (len:=xs.length) (c:=c) (b2:=b2) (off2:=o2) (m:=ys.length) (c2:=c2) (xs:=rowL enc xs) (sp:=sp) (news:=rowL enc ys) hT.out hz.out hz.cells hk.out hB.out hzk hp (.refl _) (Z9 xs) h1.2 h1.1 ⟨T2,fz,hf⟩ (by rw[Z9 (k:=k+1)]) hcs (ZcI ys) hb.1 hb.2
   refine⟨SlS.at_ s.1.1 s.1.2.1 s.1.2.2 (by rw[hlen];exact s.2) hne,w', ?_, ?_⟩
   ·have h3:=ZaM (d:=some t) (pos:=pos) (aft:=aft) (gd:=gd) ha hx' hy' hr
    rw[h3]
    show _=Result.ok (Next.value (Value.slice _ (xs++ys).length _)) w'
    rw[hlen]
   ·show Own w0 (⟨s.1.1,row enc (xs++ys) s.1.2.2,T⟩::L1) w'
    rw[row,Zbf]
    exact ho
theorem eVA {K:Env->List Blk->Prop}{Lw:List Blk}(hg:guardB ops E gd=some true)(hd':Nat.blt t n=true)[hw:SblC Lw L1](hzk:zc.size=k+1)(hb:(xs.length+ys.length)*B<=140737488355328/\xs.length+ys.length<=9223372036854775807)
  (h:∀s':SlS enc (k+1) (xs++ys),JE P w0 n ops Lw K rest ((t,vSl s')::E) (mS T s'++L1)):JE P w0 n ops Lw K (⟨some t, .call ⟨.builtin .append,#[x,y],#[S,S]⟩,ty,pos,aft,gd⟩::rest) E L:=
 Zcw (S:=SlS enc (k+1) (xs++ys)) (o:=⟨some t, .call ⟨.builtin .append,#[x,y],#[S,S]⟩,ty,pos,aft,gd⟩) hg hd' (fun s=>vSl s) (fun s=>mS T s++L1)
  (fun a w ha hw=>by
   obtain⟨s,w',hr,ho⟩:=Zr5 (hx:=hx) (hy:=hy) (hl:=hl) (hd:=hd) (hT:=hT) (hz:=hz) (he:=he) (hk:=hk) (hB:=hB) hzk hb a w ha hw
   exact⟨s,w', .inl hr,ho⟩) (fun _=>Zaq (hw.out.trans (List.sublist_append_right _ _))) h
end
end
section
abbrev vSlc (s:Sl):Value:= .slice s.a s.len s.cap
def tot {α:Type}:List (List α)->Nat
 |[]=>0
 |a::l=>a.length+tot l
theorem Ze9 {α:Type}:∀(l m:List (List α)),tot (l++m)=tot l+tot m
 |[],_=>by simp[tot]
 |a::l,m=>by rw[Wf,tot,tot,Ze9 l m,Nat.add_assoc]
structure WldIn (w:World)(sl:Sl)(ls:List ZT)(ps:List (List Png))(cs:List (List Cll)):Prop where
 a:ArgS w (vSlc sl) Zak ls
 np:ls.length=ps.length
 nc:ls.length=cs.length
 p:∀i:Nat,i<ls.length->ArgS w (vSlc (gi ls (i:Int)).Pings) ePng (gi ps (i:Int))
 c:∀i:Nat,i<ls.length->ArgS w (vSlc (gi ls (i:Int)).Calls) eCll (gi cs (i:Int))
 pk:∀l∈ps,∀x∈l,PngOk x
 ck:∀l∈cs,∀x∈l,CllOk x
 s:ps.length<=140737488355328/\(∀l∈ps,l.length<=140737488355328)/\∀l∈cs,l.length<=140737488355328
theorem WldIn.to {w w':World}{sl:Sl}{ls:List ZT}{ps:List (List Png)}{cs:List (List Cll)}(h:WldIn w sl ls ps cs)(he:Ext w w'):WldIn w' sl ls ps cs:=
 ⟨h.a.to he,h.np,h.nc,fun i hi=>(h.p i hi).to he,fun i hi=>(h.c i hi).to he,h.pk,h.ck,h.s⟩
class WldC (w0:World)(sl:Sl)(ls:outParam (List ZT))(ps:outParam (List (List Png)))(cs:outParam (List (List Cll))):Prop where
 out:WldIn w0 sl ls ps cs
theorem Zd1 {α:Type}{l:List (List α)}{i:Nat}(h:i<l.length):tot (l.take (i+1))=tot (l.take i)+(gi l (i:Int)).length:=by
 rw[Wn h,Zj h,Ze9]
 rfl
theorem Zct {α:Type}(l:List (List α))(i:Nat):tot (l.take i)<=tot l:=by
 have h:=Ze9 (l.take i) (l.drop i)
 rw[List.take_append_drop] at h
 omega
theorem Zqp {α:Type}{l:List (List α)}{i:Nat}(h:i<l.length):(gi l (i:Int)).length<=tot l:=by
 have h1:=Zd1 h
 have h2:=Zct l (i+1)
 omega
theorem Zim {α:Type}{b:Nat}:∀{l:List (List α)},(∀x∈l,x.length<=b)->tot l<=l.length*b
 |[],_=>Wm _
 |a::l,h=>by
  have h1:=h a (.head _)
  have h2:=Zim (l:=l) (b:=b) fun x hx=>h x (.tail _ hx)
  rw[tot,Wu,Nat.add_mul]
  omega
def shB (ps:List (List Png))(cs:List (List Cll)):Bool:=decide (ps.length<=4)&&decide (tot ps<=12)&&decide (tot cs<=6)
set_option maxHeartbeats 8000000 in
theorem Zlj (sl:Sl)(a b:Int)(ls:List ZT)(ps:List (List Png))(cs:List (List Cll))(w:World)(h:WldIn w sl ls ps cs):
  Calls prog 11 [.agg (ZK ⟨sl,a,b⟩)].toArray w (Ret (.bool (shB ps cs)) w):=by
 obtain⟨sa,sn,sc⟩:=sl
 obtain⟨p0,c0,hf1⟩:=h.a.form
 injection hf1 with f1 f2 f3
 dsimp only at f1 f2 f3
 subst f1 f2 f3
 have hav:=ArgC.mk h.a
 have hn:=h.np
 have hn2:=h.nc
 have hs:=h.s
 have hs1:=hs.1
 by_cases hs4:ls.length<=4
 ·have m1:=Zim hs.2.1
  have m2:=Zim hs.2.2
  have m3:tot ps<=4*140737488355328:=Wi m1 (Nat.mul_le_mul_right _ (by omega))
  have m4:tot cs<=4*140737488355328:=Wi m2 (Nat.mul_le_mul_right _ (by omega))
  refine Zg Tryz.func11 rfl Tryz.ntmps11 rfl ?_
  repeat(refine wkM ?_;intros)
  rename_i b1
  refine Zm (S:=Nat) (fun m=>m<=ls.length) (fun m=>[(1, .pointer (some ⟨b1,0,none⟩)),(3, .int .i64 (tot (ps.take m):Nat)),(4, .int .i64 (tot (cs.take m):Nat)),(5, .int .i64 (m:Nat))]) (fun _=>[⟨b1,ZK ⟨⟨sa,ls.length,sc⟩,a,b⟩,24⟩]) (fun m=>ls.length-m) 0 (Wm _) sbB slB (fun m hm=>?_)
  have q1:=Zct ps m
  have q2:=Zct cs m
  repeat(refine wkM ?_;intros)
  refine Zl rfl (fun h1=>?_) (fun h1=>?_)
  ·try dsimp only at h1
   have hlt:m<ls.length:=by have:=Wa h1;omega
   have hne:ls≠[]:=fun h0=>by rw[h0] at hlt;simp at hlt
   obtain⟨bw,ow,cw,hvw,hcw, -⟩:=h.a.blk (k:=1) hne []
   injection hvw with x1 x2 x3
   subst x1
   have hrow':∀L,RowC w L bw ow ZT Zak ls:=fun L=>by
    obtain⟨bv,ov,cv,hvv, -,hrow⟩:=h.a.blk (k:=1) hne L
    injection hvv with y1 y2 y3
    injection y1 with y1
    injection y1 with y4 y5
    subst y4 y5
    exact hrow
   have t1:=Zd1 (l:=ps) (i:=m) (by omega)
   have t2:=Zd1 (l:=cs) (i:=m) (by omega)
   have t3:=Zct ps (m+1)
   have t4:=Zct cs (m+1)
   obtain⟨pp,pc,hp⟩:=(h.p m hlt).form
   obtain⟨cp,cc,hc⟩:=(h.c m hlt).form
   have hpl:(gi ls (m:Int)).Pings.len=(gi ps (m:Int)).length:=by injection hp
   have hcl:(gi ls (m:Int)).Calls.len=(gi cs (m:Int)).length:=by injection hc
   repeat(refine wkM ?_;intros)
   (refine ZX (.v [0,1,2,3,4,5,6,7,8,9,10,11,12,13,14,15,16,17] (.e1 18 (.e1 19 (.fin)))) (_) (h:=?_);refine wkX ?_)
   (repeat(refine wkH ?_))
   dsimp only
   (repeat(refine wkH ?_))
   simp only[hpl]
   (repeat(first|refine wkH ?_|(refine tC rfl rfl ?_ ?_;focus(exact⟨by omega,by omega⟩))))
   try dsimp only
   (repeat(refine wkH ?_))
   simp only[hcl]
   (repeat(first|refine wkH ?_|(refine tC rfl rfl ?_ ?_;focus(exact⟨by omega,by omega⟩))))
   repeat(refine wkT ?_;intros)
   repeat(refine wkO ?_;intros)
   exact Zh (m+1) hlt (by rw[t1,t2];exact sbB) slB (by omega)
  ·try dsimp only at h1
   have hge:m=ls.length:=by have:=Wb h1;omega
   subst hge
   rw[List.take_of_length_le (by omega),List.take_of_length_le (by omega)]
   repeat(refine wkM ?_;intros)
   have c1:(ls.length:Int)<=4:=by omega
   by_cases c2:((tot ps:Nat):Int)<=12 <;> by_cases c3:((tot cs:Nat):Int)<=6
   all_goals
    simp only[Wc c1]
    repeat(refine wkM ?_;intros)
    try(first|simp only[We c2]|simp only[Wc c2])
    repeat(refine wkM ?_;intros)
    try(first|simp only[We c3]|simp only[Wc c3])
    repeat(refine wkM ?_;intros)
    have e:shB ps cs=(decide (ls.length<=4)&&decide (tot ps<=12)&&decide (tot cs<=6)):=by unfold shB;rw[hn]
    rw[e]
    rw[Wc (show ls.length<=4 by omega)]
    first|rw[Wc (show tot ps<=12 by omega)]|rw[We (show¬tot ps<=12 by omega)]
    first|rw[Wc (show tot cs<=6 by omega)]|rw[We (show¬tot cs<=6 by omega)]
    try simp only[Bool.and_true,Bool.true_and,Bool.and_false,Bool.false_and]
    exact rtT rfl rfl
 ·refine Zg Tryz.func11 rfl Tryz.ntmps11 rfl ?_
  repeat(refine wkM ?_;intros)
  rename_i b1
  refine Zm (S:=Nat×Int×Int) (fun q=>q.1<=ls.length) (fun q=>[(1, .pointer (some ⟨b1,0,none⟩)),(3, .int .i64 q.2.1),(4, .int .i64 q.2.2),(5, .int .i64 (q.1:Nat))]) (fun _=>[⟨b1,ZK ⟨⟨sa,ls.length,sc⟩,a,b⟩,24⟩]) (fun q=>ls.length-q.1) (0,0,0) (Wm _) sbB slB (fun q hm=>?_)
  obtain⟨m,x,y⟩:=q
  simp only at hm⊢
  repeat(refine wkM ?_;intros)
  refine Zl rfl (fun h1=>?_) (fun h1=>?_)
  ·try dsimp only at h1
   have hlt:m<ls.length:=by have:=Wa h1;omega
   have hne:ls≠[]:=fun h0=>by rw[h0] at hlt;simp at hlt
   obtain⟨bw,ow,cw,hvw,hcw, -⟩:=h.a.blk (k:=1) hne []
   injection hvw with x1 x2 x3
   subst x1
   have hrow':∀L,RowC w L bw ow ZT Zak ls:=fun L=>by
    obtain⟨bv,ov,cv,hvv, -,hrow⟩:=h.a.blk (k:=1) hne L
    injection hvv with y1 y2 y3
    injection y1 with y1
    injection y1 with y4 y5
    subst y4 y5
    exact hrow
   repeat(refine wkM ?_;intros)
   (refine ZX (.v [0,1,2,3,4,5,6,7,8,9,10,11,12,13,14,15,16,17] (.e1 18 (.e1 19 (.fin)))) (_) (h:=?_);refine wkX ?_)
   (repeat(refine wkH ?_))
   try dsimp only
   (repeat(refine wkH ?_))
   try dsimp only
   (repeat(refine wkH ?_))
   repeat(refine wkT ?_;intros)
   repeat(refine wkO ?_;intros)
   exact Zh (m+1,_,_) hlt sbB slB (by show ls.length-(m+1)<ls.length-m;omega)
  ·try dsimp only at h1
   repeat(refine wkM ?_;intros)
   simp only[We (show¬((ls.length:Nat):Int)<=4 by omega)]
   repeat(refine wkM ?_;intros)
   have e:shB ps cs=false:=by
    unfold shB
    rw[We (show¬ps.length<=4 by omega),Bool.false_and,Bool.false_and]
   rw[e]
   exact rtT rfl rfl
instance ZDC (w0:World)(L:List Blk)(sl:Sl)(a b:Int)(ls:List ZT)(ps:List (List Png))(cs:List (List Cll))[h:WldC w0 sl ls ps cs]:SpecM prog w0 L 11 [.agg (ZK ⟨sl,a,b⟩)] (.bool (shB ps cs)) True:=⟨fun _ w hw=>Zlj sl a b ls ps cs w (h.out.to hw.ext)⟩
structure BD where
 rs:List Zb
 r:SlS Zd 8 rs
 es:List Za
 e:SlS Zf 5 es
def BD.hd (d:BD):ZaI:=⟨slH d.r,slH d.e⟩
def BD.mm (d:BD):List Blk:=mS 35 d.r++mS 122 d.e
def bdM (ds:List BD):List Blk:=ds.flatMap BD.mm
structure BatO (bs:List (List Zb×List Za)) where
 dn:List BD
 o:SlS ZB 2 (dn.map BD.hd)
 e:dn.map (fun d=>(d.rs,d.es))=bs
def BatO.mem {bs:List (List Zb×List Za)}(s:BatO bs):List Blk:=mS 40 s.o++bdM s.dn
structure BatA (w:World)(v:Value)(bs:List (List Zb×List Za)):Prop where
 ex:∃hs:List ZaI,ArgS w v ZB hs/\hs.length=bs.length/\(∀i:Nat,i<hs.length->ArgS w (vSlc (gi hs (i:Int)).Reports) Zd (gi bs (i:Int)).1)/\∀i:Nat,i<hs.length->ArgS w (vSlc (gi hs (i:Int)).Exchanges) Zf (gi bs (i:Int)).2
class BatC (w0:World)(L:List Blk)(v:Value)(bs:outParam (List (List Zb×List Za))):Prop where
 out:∀w,Own w0 L w->BatA w v bs
theorem Zmw {α:Type}{enc:α->Array Value}{k:Nat}{xs:List α}(s:SlS enc k xs):vSlc (slH s)=vSl s:=(Zb5 s).symm
theorem ZtG {ds:List BD}{d:BD}(h:d∈ds):d.mm.Sublist (bdM ds):=by
 unfold bdM
 induction ds with
 |nil=>cases h
 |cons a ds ih=>
  rw[List.flatMap_cons]
  rcases List.mem_cons.1 h with rfl|h
  ·exact List.sublist_append_left _ _
  ·exact(ih h).trans (List.sublist_append_right _ _)
theorem BatO.reads {w0 w:World}{bs:List (List Zb×List Za)}(s:BatO bs)(hw:Own w0 s.mem w):BatA w (vSl s.o) bs:=by
 have hL:LstC w0 s.mem (vSl s.o) ZaI ZB (s.dn.map BD.hd):=by
  unfold BatO.mem
  infer_instance
 obtain⟨dn,o,rfl⟩:=s
 have hr:∀d∈dn,ArgS w (vSl d.r) Zd d.rs/\ArgS w (vSl d.e) Zf d.es:=fun d hd=>by
  have h1:d.mm.Sublist (mS 40 o++bdM dn):=(ZtG hd).trans (List.sublist_append_right _ _)
  have h2:=hw.sub h1
  have i1:LstC w0 d.mm (vSl d.r) Zb Zd d.rs:=by unfold BD.mm;infer_instance
  have i2:LstC w0 d.mm (vSl d.e) Za Zf d.es:=by unfold BD.mm;infer_instance
  exact⟨i1.out w h2,i2.out w h2⟩
 refine⟨dn.map BD.hd,hL.out w hw,by rw[Ws,Ws],fun i hi=>?_,fun i hi=>?_⟩
 ·have hi':i<dn.length:=by rw[Ws] at hi;exact hi
  rw[Zj hi,Zj (by rw[Ws];exact hi'),List.getElem_map,List.getElem_map]
  show ArgS w (vSlc (slH dn[i].r)) _ _
  rw[Zmw]
  exact(hr _ (List.getElem_mem hi')).1
 ·have hi':i<dn.length:=by rw[Ws] at hi;exact hi
  rw[Zj hi,Zj (by rw[Ws];exact hi'),List.getElem_map,List.getElem_map]
  show ArgS w (vSlc (slH dn[i].e)) _ _
  rw[Zmw]
  exact(hr _ (List.getElem_mem hi')).2
end
section
instance (priority :=30000) ZIi {rs:List Zb}(r:SlS Zd 8 rs)(h:Sl):LdC prog 37 (ZB ⟨slH r,h⟩) 0 (vSl r):=by
 rw[Zb5]
 have:∀a l c,LdC prog 37 (ZB ⟨⟨a,l,c⟩,h⟩) 0 (.slice a l c):=fun a l c=>inferInstance
 exact this _ _ _
instance (priority :=30000) ZHB {es:List Za}(e:SlS Zf 5 es)(h:Sl):LdC prog 38 (ZB ⟨h,slH e⟩) 1 (vSl e):=by
 rw[Zb5]
 have:∀a l c,LdC prog 38 (ZB ⟨h,⟨a,l,c⟩⟩) 1 (.slice a l c):=fun a l c=>inferInstance
 exact this _ _ _
instance (priority :=30000) ZGK {rs:List Zb}(r:SlS Zd 8 rs)(h0 h:Sl):StC prog 37 (ZB ⟨h0,h⟩) 0 (vSl r) (ZB ⟨slH r,h⟩):=by
 rw[Zb5]
 have:∀a l c,StC prog 37 (ZB ⟨h0,h⟩) 0 (.slice a l c) (ZB ⟨⟨a,l,c⟩,h⟩):=fun a l c=>inferInstance
 exact this _ _ _
instance (priority :=30000) ZIv {es:List Za}(e:SlS Zf 5 es)(h0 h:Sl):StC prog 38 (ZB ⟨h,h0⟩) 1 (vSl e) (ZB ⟨h,slH e⟩):=by
 rw[Zb5]
 have:∀a l c,StC prog 38 (ZB ⟨h,h0⟩) 1 (.slice a l c) (ZB ⟨h,⟨a,l,c⟩⟩):=fun a l c=>inferInstance
 exact this _ _ _
theorem Ztn :Zcz=⟨slH (SlS.no:SlS Zd 8 []),slH (SlS.no:SlS Zf 5 [])⟩:=rfl
def batL (ps:List (List Png))(cs:List (List Cll)):Nat->List (List Zb×List Za)
 |0=>[]
 |i+1=>batL ps cs i++[((gi ps (i:Int)).map rptP,(gi cs (i:Int)).map excC)]
theorem Zg6 (ps:List (List Png))(cs:List (List Cll)):∀i,(batL ps cs i).length=i
 |0=>rfl
 |i+1=>by rw[batL,Wp,Zg6 ps cs i];rfl
def BatO.no :BatO []:=⟨[],SlS.no,rfl⟩
theorem Zft {α β:Type}[Inhabited α](f:α->β){l:List α}{i:Nat}(h:i<l.length):(l.take (i+1)).map f=(l.take i).map f++[f (gi l (i:Int))]:=by
 rw[Wn h,List.map_append,Zj h]
 rfl
theorem Zsb (ds:List BD)(d:BD):bdM (ds++[d])=bdM ds++d.mm:=by
 unfold bdM
 rw[List.flatMap_append]
 simp
theorem ZsW {α:Type}(A B X:List α):(A++(B++X)).Perm (X++(B++A)):=by
 refine List.perm_append_comm.trans ?_
 rw[<-List.append_assoc X B A]
 exact List.perm_append_comm.append_right A
set_option maxHeartbeats 8000000 in
theorem Zkp (sl:Sl)(a b:Int)(ls:List ZT)(ps:List (List Png))(cs:List (List Cll))(w:World)(h:WldIn w sl ls ps cs)(hs:ps.length<=1048576/\tot ps<=1048576/\tot cs<=1048576):
  Calls prog 12 [.agg (ZK ⟨sl,a,b⟩)].toArray w (RetM (BatO (batL ps cs ps.length)) (fun s=>vSl s.o) (fun s=>s.mem) w):=by
 obtain⟨sa,sn,sc⟩:=sl
 obtain⟨p0,c0,hf1⟩:=h.a.form
 injection hf1 with f1 f2 f3
 dsimp only at f1 f2 f3
 subst f1 f2 f3
 have hav:=ArgC.mk h.a
 have hn:=h.np
 have hn2:=h.nc
 refine Zg Tryz.func12 rfl Tryz.ntmps12 rfl ?_
 repeat(refine wkM ?_;intros)
 rename_i b1
 refine Zm (S:=(m:Nat)×BatO (batL ps cs m)) (fun q=>q.1<=ls.length) (fun q=>[(1, .pointer (some ⟨b1,0,none⟩)),(3,vSl q.2.o),(4, .int .i64 (q.1:Nat))]) (fun q=>mS 40 q.2.o++(⟨b1,ZK ⟨⟨sa,ls.length,sc⟩,a,b⟩,24⟩::bdM q.2.dn)) (fun q=>ls.length-q.1) ⟨0,BatO.no⟩ (Wm _) sbB suB (fun q hm=>?_)
 obtain⟨m,dn,o,hdn⟩:=q
 simp only at hm⊢
 have hdl:(dn.map BD.hd).length=m:=by
  have:=congrArg List.length hdn
  rw[Zg6,Ws] at this
  rw[Ws,this]
 repeat(refine wkM ?_;intros)
 refine Zl rfl (fun h1=>?_) (fun h1=>?_)
 ·try dsimp only at h1
  have hlt:m<ls.length:=by have:=Wa h1;omega
  have hne:ls≠[]:=fun h0=>by rw[h0] at hlt;simp at hlt
  obtain⟨bw,ow,cw,hvw,hcw, -⟩:=h.a.blk (k:=1) hne []
  injection hvw with x1 x2 x3
  subst x1
  have hrow':∀L,RowC w L bw ow ZT Zak ls:=fun L=>by
   obtain⟨bv,ov,cv,hvv, -,hrow⟩:=h.a.blk (k:=1) hne L
   injection hvv with y1 y2 y3
   injection y1 with y1
   injection y1 with y4 y5
   subst y4 y5
   exact hrow
  have hpa:=h.p m hlt
  have hca:=h.c m hlt
  have hpk:=h.pk _ (ZI (i:=(m:Int)) (xs:=ps) (by omega))
  have hck:=h.ck _ (ZI (i:=(m:Int)) (xs:=cs) (by omega))
  have hpt:=Zqp (l:=ps) (i:=m) (by omega)
  have hct:=Zqp (l:=cs) (i:=m) (by omega)
  have hbn:batL ps cs (m+1)=batL ps cs m++[((gi ps (m:Int)).map rptP,(gi cs (m:Int)).map excC)]:=rfl
  generalize gi ps (m:Int)=P at*
  generalize gi cs (m:Int)=C at*
  rcases hx:gi ls (m:Int) with⟨⟨pa,pl,pc⟩,⟨ca,cl,cc⟩⟩
  rw[hx] at hpa hca
  dsimp only[vSlc] at hpa hca
  obtain⟨pa',pc',hf2⟩:=hpa.form
  injection hf2 with g1 g2 g3
  subst g2
  obtain⟨ca',cc',hf3⟩:=hca.form
  injection hf3 with i1 i2 i3
  subst i2
  have hPr:∀i:Nat,i<P.length->∃bv ov cv,pa=some ⟨bv,ov,none⟩/\∀L,RowC w L bv ov Png ePng P:=fun i hi=>by
   have hne:P≠[]:=fun h0=>by rw[h0] at hi;simp at hi
   obtain⟨bv,ov,cv,hvv, -, -⟩:=hpa.blk (k:=7) hne []
   injection hvv with y1 y2 y3
   refine⟨bv,ov,cv,y1,fun L=>?_⟩
   obtain⟨bv',ov',cv',hvv', -,hrow⟩:=hpa.blk (k:=7) hne L
   injection hvv' with z1 z2 z3
   rw[y1] at z1
   injection z1 with z1
   injection z1 with z4 z5
   subst z4 z5
   exact hrow
  have hCr:∀i:Nat,i<C.length->∃bv ov cv,ca=some ⟨bv,ov,none⟩/\∀L,RowC w L bv ov Cll eCll C:=fun i hi=>by
   have hne:C≠[]:=fun h0=>by rw[h0] at hi;simp at hi
   obtain⟨bv,ov,cv,hvv, -, -⟩:=hca.blk (k:=5) hne []
   injection hvv with y1 y2 y3
   refine⟨bv,ov,cv,y1,fun L=>?_⟩
   obtain⟨bv',ov',cv',hvv', -,hrow⟩:=hca.blk (k:=5) hne L
   injection hvv' with z1 z2 z3
   rw[y1] at z1
   injection z1 with z1
   injection z1 with z4 z5
   subst z4 z5
   exact hrow
  clear g1 g3 i1 i3
  repeat(refine wkM ?_;intros)
  rename_i b5
  dsimp only
  refine Zm (S:=(k:Nat)×SlS Zd 8 ((P.take k).map rptP)) (fun q=>q.1<=P.length) (fun q=>[(1, .pointer (some ⟨b1,0,none⟩)),(3,vSl o),(4, .int .i64 (m:Nat)),(5, .pointer (some ⟨b5,0,none⟩)),(6, .int .i64 (q.1:Nat))]) (fun q=>mS 35 q.2++(⟨b5,ZB ⟨slH q.2,slH (SlS.no:SlS Zf 5 [])⟩,40⟩::(mS 40 o++(⟨b1,ZK ⟨⟨some ⟨bw,ow,none⟩,ls.length,sc⟩,a,b⟩,24⟩::bdM dn)))) (fun q=>P.length-q.1) ⟨0,SlS.no⟩ (Wm _) sbB (by rw[Ztn];exact suB) (fun q hk=>?_)
  ·obtain⟨k,r⟩:=q
   simp only at hk⊢
   have hrl:((P.take k).map rptP).length=k:=by rw[Ws,Wt];omega
   repeat(refine wkM ?_;intros)
   dsimp only
   repeat(refine wkM ?_;intros)
   simp only[hx]
   repeat(refine wkM ?_;intros)
   refine Zl rfl (fun h2=>?_) (fun h2=>?_)
   ·have hlt2:k<P.length:=by have:=Wa h2;omega
    obtain⟨bv,ov,cv,rfl,hPr⟩:=hPr k hlt2
    have hpo:=hpk (gi P (k:Int)) (ZI (by omega))
    have hnx:=Zft rptP hlt2
    repeat(refine wkM ?_;intros)
    (refine ZX (.v [0,2,3,4,5,6,7,8,9,10,11] (.e2 1 (.e1 12 (.e1 13 (.v [14] (.e1 15 (.fin))))) 12 (.e1 1 (.e1 13 (.v [14] (.e1 15 (.fin))))))) ([⟨b1,ZK ⟨⟨some ⟨bw,ow,none⟩,ls.length,sc⟩,a,b⟩,24⟩]) (h:=?_);refine wkX ?_)
    (repeat(refine wkH ?_))
    try dsimp only
    (repeat(refine wkH ?_))
    try simp only[hx]
    (repeat(first|refine wkH ?_|(refine tC rfl rfl ?_ ?_;focus(exact hpo))))
    refine And.intro ?_ ?_
    all_goals
     repeat(refine wkT ?_;intros)
     refine eU rfl rfl ?_ ?_ ?_ ?_
     ·rfl
     ·rfl
     ·exact⟨by decide,by omega,by omega⟩
     intro r'
     repeat(refine wkT ?_;intros)
     obtain⟨r3,e1,e2⟩:=SlS.turn 35 hnx.symm r'
     have e3:=Zcy e1
     repeat(refine wkO ?_;intros)
     exact Zh ⟨k+1,r3⟩ hlt2 sbB (by simp only[e2,e3];exact suB) (by show P.length-(k+1)<P.length-k;omega)
   ·have hge:k=P.length:=by have:=Wb h2;omega
    subst hge
    obtain⟨r1,e1,e2⟩:=SlS.turn 35 (show(P.take P.length).map rptP=P.map rptP by rw[List.take_length]) r
    have e3:=Zcy e1
    rw[<-e2,<-e3]
    clear e1 e2 e3
    repeat(refine wkM ?_;intros)
    refine Zm (S:=(k:Nat)×SlS Zf 5 ((C.take k).map excC)) (fun q=>q.1<=C.length) (fun q=>[(1, .pointer (some ⟨b1,0,none⟩)),(3,vSl o),(4, .int .i64 (m:Nat)),(5, .pointer (some ⟨b5,0,none⟩)),(7, .int .i64 (q.1:Nat))]) (fun q=>mS 122 q.2++(mS 35 r1++(⟨b5,ZB ⟨slH r1,slH q.2⟩,40⟩::(mS 40 o++(⟨b1,ZK ⟨⟨some ⟨bw,ow,none⟩,ls.length,sc⟩,a,b⟩,24⟩::bdM dn))))) (fun q=>C.length-q.1) ⟨0,SlS.no⟩ (Wm _) sbB suB (fun q hk=>?_)
    obtain⟨k,r⟩:=q
    simp only at hk⊢
    have hrl:((C.take k).map excC).length=k:=by rw[Ws,Wt];omega
    repeat(refine wkM ?_;intros)
    dsimp only
    repeat(refine wkM ?_;intros)
    simp only[hx]
    repeat(refine wkM ?_;intros)
    refine Zl rfl (fun h2=>?_) (fun h2=>?_)
    ·have hlt2:k<C.length:=by have:=Wa h2;omega
     obtain⟨bv,ov,cv,rfl,hCr⟩:=hCr k hlt2
     have hpo:=hck (gi C (k:Int)) (ZI (by omega))
     have hnx:=Zft excC hlt2
     repeat(refine wkM ?_;intros)
     (refine ZX (.v [0,2,3,4,5,6,7,8,9,10,11] (.e2 1 (.e1 12 (.e1 13 (.v [14] (.e1 15 (.fin))))) 12 (.e1 1 (.e1 13 (.v [14] (.e1 15 (.fin))))))) ([⟨b1,ZK ⟨⟨some ⟨bw,ow,none⟩,ls.length,sc⟩,a,b⟩,24⟩]) (h:=?_);refine wkX ?_)
     (repeat(refine wkH ?_))
     try dsimp only
     (repeat(refine wkH ?_))
     try simp only[hx]
     (repeat(first|refine wkH ?_|(refine tC rfl rfl ?_ ?_;focus(exact hpo))))
     refine And.intro ?_ ?_
     all_goals
      repeat(refine wkT ?_;intros)
      refine eU rfl rfl ?_ ?_ ?_ ?_
      ·rfl
      ·rfl
      ·exact⟨by decide,by omega,by omega⟩
      intro r'
      repeat(refine wkT ?_;intros)
      obtain⟨r3,e1,e2⟩:=SlS.turn 122 hnx.symm r'
      have e3:=Zcy e1
      repeat(refine wkO ?_;intros)
      exact Zh ⟨k+1,r3⟩ hlt2 sbB (by simp only[e2,e3];exact suB) (by show C.length-(k+1)<C.length-k;omega)
    ·have hge:k=C.length:=by have:=Wb h2;omega
     subst hge
     obtain⟨r2,e1,e2⟩:=SlS.turn 122 (show(C.take C.length).map excC=C.map excC by rw[List.take_length]) r
     have e3:=Zcy e1
     rw[<-e2,<-e3]
     clear e1 e2 e3
     repeat(refine wkM ?_;intros)
     refine sU rfl rfl ?_ ?_ ?_ ?_
     ·rfl
     ·rfl
     ·exact⟨by decide,by omega,by omega⟩
     intro o'
     repeat(refine wkO ?_;intros)
     obtain⟨D,hD1,hD2,hD3⟩:∃D:BD,BD.hd D=⟨slH r1,slH r2⟩/\BD.mm D=mS 35 r1++mS 122 r2/\(D.rs,D.es)=(P.map rptP,C.map excC):=⟨⟨P.map rptP,r1,C.map excC,r2⟩,rfl,rfl,rfl⟩
     have ho:dn.map BD.hd++[⟨slH r1,slH r2⟩]=(dn++[D]).map BD.hd:=by rw[List.map_append,<-hD1];rfl
     obtain⟨o3,e1,e2⟩:=SlS.turn 40 ho o'
     refine Zjy (M:=mS 40 o3++(⟨b1,ZK ⟨⟨some ⟨bw,ow,none⟩,ls.length,sc⟩,a,b⟩,24⟩::bdM (dn++[D]))) (L':=mS 40 o3++(mS 122 r2++(mS 35 r1++(⟨b1,ZK ⟨⟨some ⟨bw,ow,none⟩,ls.length,sc⟩,a,b⟩,24⟩::bdM dn)))) (by rw[e2];exact suB) ?_ ?_
     ·refine List.Perm.append_left _ ?_
      rw[Zsb,hD2,<-Wf]
      exact ZsW _ _ _
     ·exact Zh ⟨m+1,dn++[D],o3,by rw[List.map_append,hdn,hbn,<-hD3];rfl⟩ hlt (by simp only[e1];exact sbB) suB (by show ls.length-(m+1)<ls.length-m;omega)
 ·try dsimp only at h1
  have hge:m=ls.length:=by have:=Wb h1;omega
  repeat(refine wkM ?_;intros)
  have e0:batL ps cs m=batL ps cs ps.length:=by rw[hge,hn]
  refine Zy rfl rfl (fun w hw=>⟨⟨dn,o,hdn.trans e0⟩,rfl, ?_⟩)
  show Own _ (mS _ o++bdM dn) w
  exact hw.sub suB
instance ZAi (w0:World)(L:List Blk)(sl:Sl)(a b:Int)(ls:List ZT)(ps:List (List Png))(cs:List (List Cll))[h:WldC w0 sl ls ps cs]:SpecR prog w0 L 12 [.agg (ZK ⟨sl,a,b⟩)] (BatO (batL ps cs ps.length)) (fun s=>vSl s.o) (fun s=>s.mem) (ps.length<=1048576/\tot ps<=1048576/\tot cs<=1048576):=⟨fun hp w hw=>Zkp sl a b ls ps cs w (h.out.to hw.ext) hp⟩
end
end Go.Vt
