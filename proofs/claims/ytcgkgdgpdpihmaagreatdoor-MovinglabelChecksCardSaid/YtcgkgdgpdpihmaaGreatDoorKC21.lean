/- For any up to 12 units whose ends have up to 20 bytes, and for any decoded moving label (up to 8 stretches), Check returns OK or the first error. Conditions: none. (part 21 of 28.) Conditions: those that each statement names. -/
import Derived.Test.YtcgkgdgpdpihmaaGreatDoorProg
import Derived.Test.YtcgkgdgpdpihmaaGreatDoorKC13
import Derived.Test.YtcgkgdgpdpihmaaGreatDoorKC15
import Derived.Test.YtcgkgdgpdpihmaaGreatDoorKC16
import Derived.Test.YtcgkgdgpdpihmaaGreatDoorKC20
set_option linter.unusedSimpArgs false
set_option linter.unusedVariables false
set_option maxHeartbeats 2000000
set_option maxRecDepth 100000
namespace Go.Vt
open Go.RowKit Go.Proofs
open Go.Proofs.Tryz (prog)
section
section
variable {Pr : Rl -> Prop}
theorem Zsf {xs:List Rl}{t:Rl}(h:∀x∈xs,Pr x)(ht:Pr t):∀x∈insR xs t,Pr x:=fun x hx=>by
 unfold insR at hx
 split at hx
 ·exact h x hx
 ·simp only[Wg,Wv,Wo] at hx
  rcases hx with(hx|rfl)|hx
  ·exact h x (List.mem_of_mem_take hx)
  ·exact ht
  ·exact h x (List.mem_of_mem_drop hx)
theorem ZhF {l:List Rl}(h:∀x∈l,Pr x):∀i,i<=l.length->∀x∈srtR l i,Pr x
 |0,_=>fun x hx=>by cases hx
 |i+1,hi=>Zsf (ZhF h i (by omega)) (h _ (ZA (by omega)))
theorem Zpu {l:List Za}(h:∀i∈l,Pr i.From/\Pr i.To):∀m,m<=l.length->∀x∈enL l m,Pr x
 |0,_,x,hx=>by cases hx
 |m+1,hm,x,hx=>by
  have h1:=h (gi l (m:Int)) (ZA (by omega))
  rw[enL,Wv] at hx
  rcases hx with hx|hx
  ·exact Zpu h m (by omega) x hx
  ·simp only[Ww,List.not_mem_nil,or_false] at hx
   rcases hx with rfl|rfl
   ·exact h1.1
   ·exact h1.2
theorem ZgX {l:List Za}(h:∀i∈l,Pr i.From/\Pr i.To):∀x∈enR l,Pr x:=ZhF (Zpu h l.length (Wl _)) _ (Wl _)
theorem Zt1 {out:List Za}{on here:Bool}{t:Rl}(h:∀i∈out,Pr i.From/\Pr i.To)(ht:Pr t):∀i∈cbH out on here t,Pr i.From/\Pr i.To:=fun i hi=>by
 unfold cbH at hi
 split at hi
 ·unfold turnI at hi
  rcases List.mem_or_eq_of_mem_set hi with hi|rfl
  ·exact h i hi
  ·rcases Nat.eq_zero_or_pos out.length with h0|h0
   ·have:out=[]:=List.eq_nil_of_length_eq_zero h0
    subst this
    cases hi
   ·exact⟨(h _ (ZA (xs:=out) (i:=(out.length:Int)-1) (by omega))).1,ht⟩
 ·split at hi
  ·rw[Wv,Wo] at hi
   rcases hi with hi|rfl
   ·exact h i hi
   ·exact⟨ht,ht⟩
  ·exact h i hi
theorem Zpt {op:Int}{a b:List Za}{xs:List Rl}(h:∀x∈xs,Pr x):∀k,k<=xs.length->∀i∈(cbR op a b xs k).out,Pr i.From/\Pr i.To
 |0,_,i,hi=>by cases hi
 |k+1,hk,i,hi=>by
  have ih:=Zpt (op:=op) (a:=a) (b:=b) h k (by omega)
  have ht:=h (gi xs (k:Int)) (ZA (by omega))
  rw[cbR] at hi
  dsimp only at hi
  have hH:=Zt1 (on:=(cbR op a b xs k).on) (here:=dcd op (hlB a (gi xs (k:Int))) (hlB b (gi xs (k:Int)))) ih ht
  split at hi
  ·exact hH i hi
  ·rename_i hne
   have hu:=h (gi xs ((k+1:Nat):Int)) (ZA (by omega))
   dsimp only at hi
   split at hi
   ·rw[Wv,Wo] at hi
    rcases hi with hi|rfl
    ·exact hH i hi
    ·exact⟨ht,hu⟩
   ·exact hH i hi
theorem Zsy {op:Int}{a b:List Za}(ha:∀i∈a,Pr i.From/\Pr i.To)(hb:∀i∈b,Pr i.From/\Pr i.To):∀i∈cmbR op a b,Pr i.From/\Pr i.To:=by
 refine Zpt (ZgX fun i hi=>?_) _ (Wl _)
 rw[Wv] at hi
 exact hi.elim (ha i) (hb i)
theorem Zhe {a:List Za}(ha:∀i∈a,Pr i.From/\Pr i.To):∀i∈nrmS a,Pr i.From/\Pr i.To:=Zsy ha (fun i hi=>by cases hi)
theorem ZrK {p:List Za}{c:List Rl}{k:Nat}{o:List Za}(h:∀i∈o,Pr i.From/\Pr i.To)(ht:Pr (gi c (k:Int))):∀i∈celI p c k o,Pr i.From/\Pr i.To:=fun i hi=>by
 unfold celI at hi
 split at hi
 ·rw[Wv,Wo] at hi
  rcases hi with hi|rfl
  ·exact h i hi
  ·exact⟨ht,ht⟩
 ·exact h i hi
theorem Zl1 {p:List Za}{c:List Rl}(h:∀x∈c,Pr x):∀k,k<=c.length->∀i∈celS p c k,Pr i.From/\Pr i.To
 |0,_,i,hi=>by cases hi
 |k+1,hk,i,hi=>by
  have ht:=h (gi c (k:Int)) (ZA (by omega))
  have ih:=ZrK (p:=p) (Zl1 (p:=p) h k (by omega)) ht
  rw[celS] at hi
  unfold celJ at hi
  split at hi
  ·rename_i hc
   rw[Wv,Wo] at hi
   rcases hi with hi|rfl
   ·exact ih i hi
   ·exact⟨ht,h (gi c ((k+1:Nat):Int)) (ZA (by omega))⟩
  ·exact ih i hi
theorem Zmu {p:List Za}{a:List Rl}(hp:∀i∈p,Pr i.From/\Pr i.To)(ha:∀x∈a,Pr x):∀i∈celR p a,Pr i.From/\Pr i.To:=by
 refine Zl1 (ZhF (fun x hx=>?_) _ (Wl _)) _ (Wl _)
 rw[Wv] at hx
 exact hx.elim (ha x) (ZgX hp x)
end
theorem Ze0 {l:List Rl}:∀i,(srtR l i).length<=i
 |0=>Wl _
 |i+1=>by
  have h1:=Ze0 (l:=l) i
  rw[srtR,insR]
  split
  ·omega
  ·have:=Zks (gi l (i:Int)) (srtR l i)
   simp only[Wp,Wt,List.length_drop,List.length_singleton,Wx]
   omega
theorem ZdA (l:List Za):(enR l).length<=2*l.length:=by
 have h1:=Ze0 (l:=enL l l.length) (enL l l.length).length
 have h2:=Zdq l l.length
 unfold enR
 omega
theorem ZoG (op:Int)(a b:List Za):(cmbR op a b).length<=4*(a.length+b.length):=by
 have h1:=ZfZ op a b (enR (a++b)) (enR (a++b)).length
 have h2:=ZdA (a++b)
 rw[Wp] at h2
 unfold cmbR
 omega
theorem ZeR (a:List Za):(nrmS a).length<=4*a.length:=ZoG 1 a []
theorem ZnS (p:List Za)(a:List Rl):(celR p a).length<=2*(a.length+2*p.length):=by
 have h1:=ZeW p (cutR p a) (cutR p a).length
 have h2:=Ze0 (l:=a++enR p) (a++enR p).length
 have h3:=ZdA p
 have h4:(cutR p a).length=(srtR (a++enR p) (a++enR p).length).length:=rfl
 rw[Wp] at h2
 have h5:(celR p a).length=(celS p (cutR p a) (cutR p a).length).length:=rfl
 rw[Wp] at h4
 omega
end
section
section
variable {P : Program} {w0 : World} {n : Nat} {ops : Array Oper} {L L' Lw : List Blk} {E : Env} {K : Env -> List Blk -> Prop}
variable {rest : List Oper} {ty : TypeId} {pos : String} {aft : Array Edge} {gd : Option (Nat × Bool)} {x y : Operand} {T T0 : TypeId}
variable {α : Type} [Inhabited α] {enc : α -> Array Value} {k b f : Nat} {xs : List α} {sp : List Value} {i : Int}
theorem eRF {u:Value}{cs1:Array Value}[hx:IsC (evl E x) (.pointer (some ⟨b,0+i.toNat*k+f,none⟩))][hy:IsC (evl E y) u][MemC b L (row enc xs sp) T0][he:EncC enc k][hs:StC P T (enc (gi xs i)) f u cs1](z:α)(hz:cs1=enc z)[hU:UpdC b (row enc (xs.set i.toNat z) sp) L (row enc xs sp) T0 L'][hw:SblC Lw L']
  (hg:guardB ops E gd=some true) (s:i.toNat<xs.length) (h:JE P w0 n ops Lw K rest E L'):JE P w0 n ops Lw K (⟨none, .store T x y,ty,pos,aft,gd⟩::rest) E L:=by
 have h1:=he.size (gi xs i)
 have hfit:=Nat.le_of_ble_eq_true hs.fit
 have hle:=Nat.mul_le_mul_right k (show i.toNat+1<=xs.length from s)
 rw[Nat.add_mul] at hle
 refine ZdM (u:=u) u.cells.size isE isE hU.out hs.size rfl (by rw[ZaA (k:=k)];exact Nat.ble_eq_true_of_le (by omega)) hs.one ?_ hg hw.out h
 rw[Nat.zero_add]
 refine ZhE xs sp i.toNat f z u.cells.toList s (by simp only[Array.length_toList];omega) ?_
 rw[<-Zbk s,hs.out,hz]
end
theorem ZrW {P:Program}{w0:World}{n:Nat}{Q:Exit->Act->World->Prop}{E:Env}{L:List Blk}{S:Type}{id:Nat}(I:S->Prop)(Es:S->Env)(Ls:S->List Blk){c x y:Code}(h1:J P w0 n c (Then P x (Exit.inBlock id (MidQ w0 n I Es Ls (fun _ _=>True) Q))) E L)(h2:∀s,I s->J P w0 n y Q (Es s) (Ls s)):J P w0 n c (Then P x (Exit.inBlock id (Then P y Q))) E L:=⟨fun a w ha hw=>by
 refine wp_mono (h1.out a w ha hw) (fun e a' w' hq=>?_)
 cases e with
 |normal=>exact wp_mono hq (ZU (ZO h2))
 |exit j=>exact ZU (id:=id) (ZO h2) (.exit j) a' w' hq
 |goto j=>exact ZU (id:=id) (ZO h2) (.goto j) a' w' hq
 |ret=>exact ZU (id:=id) (ZO h2) .ret a' w' hq
 |panic j=>exact ZU (id:=id) (ZO h2) (.panic j) a' w' hq
 |outgrown=>exact ZU (id:=id) (ZO h2) .outgrown a' w' hq⟩
def jnB (a u:PU):Bool:=decide (a.Label=u.Label)&&(decide (a.In.To=u.In.From)&& !(a.In.OpenTo&&u.In.OpenFrom))
def lstP (l:List PU):PU:=gi l ((l.length:Int)-1)
def jnP (a u:PU):PU:=⟨⟨a.In.From,u.In.To,a.In.OpenFrom,u.In.OpenTo⟩,a.Label⟩
def jn1 (out:List PU)(u:PU):List PU:=if 0<out.length/\jnB (lstP out) u=true then out.set ((out.length:Int)-1).toNat (jnP (lstP out) u) else out++[u]
def jnL (l:List PU):Nat->List PU
 |0=>[]
 |i+1=>jn1 (jnL l i) (gi l (i:Int))
theorem Zql (out:List PU)(u:PU):(jn1 out u).length<=out.length+1:=by
 unfold jn1
 split <;> simp
theorem Zev (l:List PU):∀i,(jnL l i).length<=i
 |0=>Wl _
 |i+1=>by
  have h1:=Zev l i
  have h2:=Zql (jnL l i) (gi l (i:Int))
  rw[jnL]
  omega
set_option maxHeartbeats 16000000 in
theorem Zix (v:Value)(l:List PU)(w:World)(hv:ArgS w v rP l)(hl:l.length<=1048576):
  Calls prog 66 [v].toArray w (RetM (SlS rP 21 (jnL l l.length)) (fun q=>vSl q) (fun q=>mS 46 q) w):=by
 obtain⟨p,cp,rfl⟩:=hv.form
 refine Zb Tryz.func66 rfl Tryz.ntmps66 rfl ?_
 repeat(refine wkB ?_;intros)
 refine Zad (S:=SlS rP 21 (jnL l l.length)) (fun _=>True) (fun q=>[(3,vSl q)]) (fun q=>mS 46 q) ?_ (fun q _=>?_)
 ·refine Zq (S:=(_:Nat)×(o:List PU)×SlS rP 21 o) (fun q=>q.1<=l.length/\q.2.1=jnL l q.1) (fun q=>[(0, .slice p l.length cp),(3,vSl q.2.2),(4, .int .i64 (q.1:Nat))]) (fun q=>mS 46 q.2.2) (fun q=>l.length-q.1) ⟨0,[],SlS.no⟩ ⟨Wm _,rfl⟩ sbB suB (fun q hq=>?_)
  obtain⟨i,out,o⟩:=q
  obtain⟨hq,ho⟩:=hq
  dsimp only at hq ho⊢
  have hln:out.length<=i:=by rw[ho];exact Zev l i
  have hend:i=l.length->out=jnL l l.length:=fun h=>by rw[ho,h]
  have hnxt:jn1 out (gi l (i:Int))=jnL l (i+1):=by rw[ho];rfl
  clear ho
  repeat(refine wkB ?_;intros)
  refine Zk rfl (fun h=>?_) (fun h=>?_)
  ·have hlt:i<l.length:=by have:=Wa h;omega
   obtain⟨bw,ow,rfl,hrow'⟩:=hv.opn (k:=20) hlt
   repeat(refine wkB ?_;intros)
   refine ZrW (S:=SlS rP 21 (jn1 out (gi l (i:Int)))) (fun _=>True) (fun q=>[(0, .slice (some ⟨bw,ow,none⟩) l.length cp),(3,vSl q),(4, .int .i64 (i:Nat))]) (fun q=>mS 46 q) ?_ (fun q _=>?_)
   ·skip
    rcases Nat.eq_zero_or_pos out.length with c0|c0
    ·refine jD 47 47 (h:=?_)
     (repeat(refine wkH ?_))
     simp only[We (show¬(out.length:Int)-1≥0 by omega)]
     (repeat(refine wkH ?_))
     refine Zo ?_
     refine Zs ?_
     have hci:out++[gi l (i:Int)]=jn1 out (gi l (i:Int)):=by unfold jn1;rw[if_neg (fun h=>by omega)]
     repeat(refine wkB ?_;intros)
     refine sU (k:=21) (enc:=rP) (s:=o) rfl rfl ?_ ?_ ?_ ?_
     ·rfl
     ·rfl
     ·exact⟨by decide,by omega,by omega⟩
     intro s0
     obtain⟨s',f1,f2⟩:=SlS.turn 46 hci s0
     repeat(refine wkB ?_;intros)
     exact Zj s' trivial (by rw[f1];exact sbB) (by rw[f2];exact suB)
    ·rcases o.cases 46 with⟨y0,y1,y2⟩|⟨bo,co,so,hco,y1,y2,yne⟩
     ·rw[y0] at c0;cases c0
     have hi1:0<=(out.length:Int)-1/\(out.length:Int)-1<(out.length:Nat):=by omega
     rw[y1,y2]
     by_cases c1:(lstP out).Label=(gi l (i:Int)).Label
     ·by_cases c2:(lstP out).In.To=(gi l (i:Int)).In.From
      ·cases c3:(lstP out).In.OpenTo&&(gi l (i:Int)).In.OpenFrom with
       |true=>
        simp only[Wq] at c3
        obtain⟨c3,c4⟩:=c3
        unfold lstP at c1 c2 c3
        refine jD 47 47 (h:=?_)
        (repeat(refine wkH ?_))
        simp only[Wc (show(out.length:Int)-1≥0 by omega)]
        (repeat(refine wkH ?_))
        simp only[Wc c1]
        (repeat(refine wkH ?_))
        simp only[Wc c2]
        (repeat(refine wkH ?_))
        simp only[c3]
        (repeat(refine wkH ?_))
        simp only[c4]
        (repeat(refine wkH ?_))
        refine Zo ?_
        refine Zs ?_
        rw[<-y1,show [(⟨bo,row rP out so,46⟩:Blk)]=mS 46 o from y2.symm]
        have hci:out++[gi l (i:Int)]=jn1 out (gi l (i:Int)):=by unfold jn1;rw[if_neg (fun h=>by have h2:=h.2;unfold jnB lstP at h2;rw[c3,c4] at h2;simp at h2)]
        repeat(refine wkB ?_;intros)
        refine sU (k:=21) (enc:=rP) (s:=o) rfl rfl ?_ ?_ ?_ ?_
        ·rfl
        ·rfl
        ·exact⟨by decide,by omega,by omega⟩
        intro s0
        obtain⟨s',f1,f2⟩:=SlS.turn 46 hci s0
        repeat(refine wkB ?_;intros)
        exact Zj s' trivial (by rw[f1];exact sbB) (by rw[f2];exact suB)
       |false=>
        cases c5:(lstP out).In.OpenTo with
        |true=>
         have c6:(gi l (i:Int)).In.OpenFrom=false:=by rw[c5] at c3;simpa using c3
         refine jD 47 47 (h:=?_)
         (repeat(refine wkH ?_))
         simp only[Wc (show(out.length:Int)-1≥0 by omega)]
         (repeat(refine wkH ?_))
         simp only[Wc (show(gi out ((out.length:Int)-1)).Label=_ from c1)]
         (repeat(refine wkH ?_))
         simp only[Wc (show(gi out ((out.length:Int)-1)).In.To=_ from c2)]
         (repeat(refine wkH ?_))
         simp only[show(gi out ((out.length:Int)-1)).In.OpenTo=_ from c5]
         (repeat(refine wkH ?_))
         simp only[c6]
         (repeat(refine wkH ?_))
         refine Zo ?_
         refine Zs ?_
         have hci:out.set ((out.length:Int)-1).toNat (jnP (lstP out) (gi l (i:Int)))=jn1 out (gi l (i:Int)):=by unfold jn1;rw[if_pos ⟨c0,by unfold jnB;rw[Wc c1,Wc c2,c3];rfl⟩]
         repeat(refine wkB ?_;intros)
         (refine ZH (.v [0,1,2,3,4,5,6,7,8,9,10,11,12,13,14,15,16,17,18] (.e1 19 (.v [20,21,22] (.e1 23 (.fin))))) (([]:List Blk)) (h:=?_);refine wkX ?_)
         (repeat(refine wkH ?_))
         repeat(refine wkT ?_;intros)
         refine eRF (i:=(out.length:Int)-1) (f:=9) (⟨⟨(lstP out).In.From,(gi l (i:Int)).In.To,(lstP out).In.OpenFrom,(lstP out).In.OpenTo⟩,(lstP out).Label⟩:PU) rfl rfl ?_ ?_
         ·omega
         repeat(refine wkT ?_;intros)
         have hg2:gi (out.set ((out.length:Int)-1).toNat (⟨⟨(lstP out).In.From,(gi l (i:Int)).In.To,(lstP out).In.OpenFrom,(lstP out).In.OpenTo⟩,(lstP out).Label⟩:PU)) ((out.length:Int)-1)=⟨⟨(lstP out).In.From,(gi l (i:Int)).In.To,(lstP out).In.OpenFrom,(lstP out).In.OpenTo⟩,(lstP out).Label⟩:=by
          rw[Zbk (by simp only[List.length_set];omega)]
          simp
         refine eRF (i:=(out.length:Int)-1) (f:=19) (jnP (lstP out) (gi l (i:Int))) (by rw[hg2];rfl) rfl ?_ ?_
         ·rw[List.length_set];omega
         rw[List.set_set]
         obtain⟨s0,hv',hm'⟩:=SlS.put (enc:=rP) (k:=21) (b:=bo) 46 (show(out.set ((out.length:Int)-1).toNat (jnP (lstP out) (gi l (i:Int)))).length=out.length from List.length_set) hco c0
         rw[<-hv']
         obtain⟨s',f1,f2⟩:=SlS.turn 46 hci s0
         repeat(refine wkT ?_;intros)
         repeat(refine wkB ?_;intros)
         exact Zj s' trivial (by rw[f1];exact sbB) (by rw[f2,show mS 46 s0=_ from hm'];exact suB)
        |false=>
         refine jD 47 47 (h:=?_)
         (repeat(refine wkH ?_))
         simp only[Wc (show(out.length:Int)-1≥0 by omega)]
         (repeat(refine wkH ?_))
         simp only[Wc (show(gi out ((out.length:Int)-1)).Label=_ from c1)]
         (repeat(refine wkH ?_))
         simp only[Wc (show(gi out ((out.length:Int)-1)).In.To=_ from c2)]
         (repeat(refine wkH ?_))
         simp only[show(gi out ((out.length:Int)-1)).In.OpenTo=_ from c5]
         (repeat(refine wkH ?_))
         refine Zo ?_
         refine Zs ?_
         have hci:out.set ((out.length:Int)-1).toNat (jnP (lstP out) (gi l (i:Int)))=jn1 out (gi l (i:Int)):=by unfold jn1;rw[if_pos ⟨c0,by unfold jnB;rw[Wc c1,Wc c2,c3];rfl⟩]
         repeat(refine wkB ?_;intros)
         (refine ZH (.v [0,1,2,3,4,5,6,7,8,9,10,11,12,13,14,15,16,17,18] (.e1 19 (.v [20,21,22] (.e1 23 (.fin))))) (([]:List Blk)) (h:=?_);refine wkX ?_)
         (repeat(refine wkH ?_))
         repeat(refine wkT ?_;intros)
         refine eRF (i:=(out.length:Int)-1) (f:=9) (⟨⟨(lstP out).In.From,(gi l (i:Int)).In.To,(lstP out).In.OpenFrom,(lstP out).In.OpenTo⟩,(lstP out).Label⟩:PU) rfl rfl ?_ ?_
         ·omega
         repeat(refine wkT ?_;intros)
         have hg2:gi (out.set ((out.length:Int)-1).toNat (⟨⟨(lstP out).In.From,(gi l (i:Int)).In.To,(lstP out).In.OpenFrom,(lstP out).In.OpenTo⟩,(lstP out).Label⟩:PU)) ((out.length:Int)-1)=⟨⟨(lstP out).In.From,(gi l (i:Int)).In.To,(lstP out).In.OpenFrom,(lstP out).In.OpenTo⟩,(lstP out).Label⟩:=by
          rw[Zbk (by simp only[List.length_set];omega)]
          simp
         refine eRF (i:=(out.length:Int)-1) (f:=19) (jnP (lstP out) (gi l (i:Int))) (by rw[hg2];rfl) rfl ?_ ?_
         ·rw[List.length_set];omega
         rw[List.set_set]
         obtain⟨s0,hv',hm'⟩:=SlS.put (enc:=rP) (k:=21) (b:=bo) 46 (show(out.set ((out.length:Int)-1).toNat (jnP (lstP out) (gi l (i:Int)))).length=out.length from List.length_set) hco c0
         rw[<-hv']
         obtain⟨s',f1,f2⟩:=SlS.turn 46 hci s0
         repeat(refine wkT ?_;intros)
         repeat(refine wkB ?_;intros)
         exact Zj s' trivial (by rw[f1];exact sbB) (by rw[f2,show mS 46 s0=_ from hm'];exact suB)
      ·unfold lstP at c1 c2
       refine jD 47 47 (h:=?_)
       (repeat(refine wkH ?_))
       simp only[Wc (show(out.length:Int)-1≥0 by omega)]
       (repeat(refine wkH ?_))
       simp only[Wc c1]
       (repeat(refine wkH ?_))
       simp only[We c2]
       (repeat(refine wkH ?_))
       refine Zo ?_
       refine Zs ?_
       rw[<-y1,show [(⟨bo,row rP out so,46⟩:Blk)]=mS 46 o from y2.symm]
       have hci:out++[gi l (i:Int)]=jn1 out (gi l (i:Int)):=by unfold jn1;rw[if_neg (fun h=>by have h2:=h.2;unfold jnB lstP at h2;rw[We c2] at h2;simp at h2)]
       repeat(refine wkB ?_;intros)
       refine sU (k:=21) (enc:=rP) (s:=o) rfl rfl ?_ ?_ ?_ ?_
       ·rfl
       ·rfl
       ·exact⟨by decide,by omega,by omega⟩
       intro s0
       obtain⟨s',f1,f2⟩:=SlS.turn 46 hci s0
       repeat(refine wkB ?_;intros)
       exact Zj s' trivial (by rw[f1];exact sbB) (by rw[f2];exact suB)
     ·unfold lstP at c1
      refine jD 47 47 (h:=?_)
      (repeat(refine wkH ?_))
      simp only[Wc (show(out.length:Int)-1≥0 by omega)]
      (repeat(refine wkH ?_))
      simp only[We c1]
      (repeat(refine wkH ?_))
      refine Zo ?_
      refine Zs ?_
      rw[<-y1,show [(⟨bo,row rP out so,46⟩:Blk)]=mS 46 o from y2.symm]
      have hci:out++[gi l (i:Int)]=jn1 out (gi l (i:Int)):=by unfold jn1;rw[if_neg (fun h=>by have h2:=h.2;unfold jnB lstP at h2;rw[We c1] at h2;simp at h2)]
      repeat(refine wkB ?_;intros)
      refine sU (k:=21) (enc:=rP) (s:=o) rfl rfl ?_ ?_ ?_ ?_
      ·rfl
      ·rfl
      ·exact⟨by decide,by omega,by omega⟩
      intro s0
      obtain⟨s',f1,f2⟩:=SlS.turn 46 hci s0
      repeat(refine wkB ?_;intros)
      exact Zj s' trivial (by rw[f1];exact sbB) (by rw[f2];exact suB)
   ·repeat(first|(refine wkB ?_;intros)|(refine wnM ?_ ?_;(focus(exact⟨by omega,by omega⟩));intros))
    exact Zg ⟨i+1,_,q⟩ ⟨hlt,hnxt⟩ sbB suB (by show l.length-(i+1)<l.length-i;omega)
  ·have hge:i=l.length:=by have:=Wb h;omega
   obtain⟨s',f1,f2⟩:=SlS.turn 46 (hend hge) o
   repeat(refine wkB ?_;intros)
   exact Zj s' trivial (by rw[f1];exact sbB) (by rw[f2];exact suB)
 ·repeat(refine wkB ?_;intros)
  exact ZB rfl rfl (fun w hw=>⟨q,rfl,hw.sub suB⟩)
instance Zwm (w0:World)(L:List Blk)(v:Value)(l:List PU)[h:LstC w0 L v PU rP l]:SpecR prog w0 L 66 [v] (SlS rP 21 (jnL l l.length)) (fun q=>vSl q) (fun q=>mS 46 q) (l.length<=1048576):=⟨fun hp w hw=>Zix v l w (h.out w hw) hp⟩
end
end Go.Vt
namespace Go.Vt
def IsRt (n r:Nat):Prop:=r*r<=n/\n<(r+1)*(r+1)
theorem sqm {a b:Nat}(h:a<=b):a*a<=b*b:=Nat.mul_le_mul h h
theorem IsRt.uniq {n r s:Nat}(h:IsRt n r)(k:IsRt n s):r=s:=by
 obtain⟨h1,h2⟩:=h
 obtain⟨k1,k2⟩:=k
 rcases Nat.lt_trichotomy r s with hl|hl|hl
 ·have:=sqm (show r+1<=s by omega);omega
 ·exact hl
 ·have:=sqm (show s+1<=r by omega);omega
def rtN :Nat->Nat
 |0=>0
 |n+1=>if(rtN n+1)*(rtN n+1)<=n+1 then rtN n+1 else rtN n
theorem Zdk :∀n,IsRt n (rtN n)
 |0=>⟨Nat.le_refl _,by decide⟩
 |n+1=>by
  obtain⟨h1,h2⟩:=Zdk n
  rw[rtN]
  generalize rtN n=r at*
  split
  ·rename_i h
   refine⟨h, ?_⟩
   have e:(r+1+1)*(r+1+1)=(r+1)*(r+1)+2*r+3:=by grind
   omega
  ·exact⟨by omega,by omega⟩
theorem Zmd {n r:Nat}(h:IsRt n r):rtN n=r:=(Zdk n).uniq h
theorem ZlB (r:Nat):rtN (r*r)=r:=Zmd ⟨Nat.le_refl _,by rw[show(r+1)*(r+1)=r*r+2*r+1 by grind];omega⟩
theorem Zck (n:Nat):rtN n<=n:=by
 have h:=(Zdk n).1
 generalize rtN n=r at*
 rcases Nat.eq_zero_or_pos r with h0|h0
 ·omega
 ·have:=Nat.mul_le_mul_left r h0
  omega
theorem ZoR {n x:Nat}(hn:0<n)(h:n<(x+1)*(x+1)):0<x:=by
 rcases Nat.eq_zero_or_pos x with h0|h0
 ·subst h0;omega
 ·exact h0
theorem Zop (q:Rat):(q*q).num=q.num*q.num/\(q*q).den=q.den*q.den:=by
 have hr:(q.num*q.num).natAbs.Coprime (q.den*q.den):=by
  rw[Int.natAbs_mul]
  exact Nat.Coprime.mul_left (Nat.Coprime.mul_right q.reduced q.reduced) (Nat.Coprime.mul_right q.reduced q.reduced)
 have hd:q.den*q.den≠0:=Nat.mul_ne_zero q.den_nz q.den_nz
 have e:q*q=⟨q.num*q.num,q.den*q.den,hd,hr⟩:=by
  rw[Rat.mul_def,Rat.normalize_eq_mk' _ _ hd hr]
 rw[e]
 exact⟨rfl,rfl⟩
def rtQ (a:Rat):Option Rat:=if 0<=a.num/\rtN a.num.natAbs*rtN a.num.natAbs=a.num.natAbs/\rtN a.den*rtN a.den=a.den then some (Rat.divInt (rtN a.num.natAbs) (rtN a.den)) else none
theorem Zln {q:Rat}(hq:0<=q):rtQ (q*q)=some q:=by
 obtain⟨h1,h2⟩:=Zop q
 have h3:=Rat.num_nonneg.2 hq
 have h4:(q*q).num.natAbs=q.num.natAbs*q.num.natAbs:=by rw[h1,Int.natAbs_mul]
 unfold rtQ
 rw[h4,h2,ZlB,ZlB,if_pos ⟨by rw[h1];exact Int.mul_nonneg h3 h3,rfl,rfl⟩,Int.natAbs_of_nonneg h3,Rat.num_divInt_den]
theorem ZeY {a q:Rat}(h:rtQ a=some q):0<=q/\q*q=a:=by
 unfold rtQ at h
 split at h
 ·rename_i hc
  obtain⟨c1,c2,c3⟩:=hc
  injection h with h
  subst h
  have hp:=a.den_pos
  generalize rtN a.num.natAbs=n at*
  generalize rtN a.den=d at*
  have hd:(d:Int)≠0:=by
   rintro h0
   have:d=0:=by omega
   subst this
   omega
  constructor
  ·exact Rat.divInt_nonneg_iff_of_pos_right (b:=(d:Int)) (by omega) |>.2 (by omega)
  ·rw[Rat.divInt_mul_divInt]
   conv=>rhs;rw[<-Rat.num_divInt_den a]
   have e1:((n:Int)*n)=a.num:=by
    have:((n*n:Nat):Int)=(a.num.natAbs:Int):=by rw[c2]
    rw[Int.natAbs_of_nonneg c1] at this
    exact_mod_cast this
   have e2:((d:Int)*d)=(a.den:Int):=by exact_mod_cast congrArg (Nat.cast (R:=Int)) c3
   rw[e1,e2]
 ·cases h
theorem ZdG {a:Rat}(h:rtQ a=none)(q:Rat):q*q≠a:=fun e=>by
 by_cases hq:0<=q
 ·rw[<-e,Zln hq] at h
  cases h
 ·have e2:(-q)*(-q)=a:=by rw[<-e];grind
  rw[<-e2,Zln (by grind)] at h
  cases h
end Go.Vt
namespace Go.Vt
open Go.RowKit Go.Proofs
open Go.Proofs.Tryz (prog)
section
theorem ZsF (w:World):(Instr.buildSlice 65 0 [].toArray).run prog w= .ok (.slice (some ⟨w.heap.size,0,none⟩) 0 0) (w.alloc (.cells (row (eI .i64) [] []) 3)):=by kernel_rfl
instance (priority :=high) ZBU:BsC prog 65 0 [] (row (eI .i64) [] []) 3:=⟨ZsF⟩
theorem ZlG :dI 2=[2]:=by rw[Zb8 (by decide)];rfl
instance (priority :=30000) lstD1 (w0:World)(L:List Blk)(b:Nat)(T:TypeId)[h:AtC w0 L b (row (eI .i64) [1] []) T]:LstC w0 L (.slice (some ⟨b,0,none⟩) 1 1) Int (eI .i64) (dI 1):=by
 rw[ZfL]
 exact⟨fun w hw=>by
  obtain⟨fz,hb⟩:=h.out w hw
  exact ZbH (c:=1) hb (Wl 1)⟩
instance (priority :=30000) lstD2 (w0:World)(L:List Blk)(b:Nat)(T:TypeId)[h:AtC w0 L b (row (eI .i64) [2] []) T]:LstC w0 L (.slice (some ⟨b,0,none⟩) 1 1) Int (eI .i64) (dI 2):=by
 rw[ZlG]
 exact⟨fun w hw=>by
  obtain⟨fz,hb⟩:=h.out w hw
  exact ZbH (c:=1) hb (Wl 1)⟩
theorem Zj8 (m n:Nat):Lib.compareInt (m:Int) n<0↔m<n:=by
 have:=Zl0 m n
 omega
theorem ZjT (m n:Nat):Lib.compareInt (m:Int) n<=0↔m<=n:=by
 unfold Lib.compareInt
 split
 ·exact⟨fun _=>by omega,fun _=>by decide⟩
 ·split
  ·exact⟨fun h=>by omega,fun h=>by omega⟩
  ·exact⟨fun _=>by omega,fun _=>by decide⟩
theorem Zj7 (m n:Nat):Lib.compareInt (m:Int) n=0↔m=n:=by
 unfold Lib.compareInt
 split
 ·exact⟨fun h=>by omega,fun h=>by omega⟩
 ·split
  ·exact⟨fun h=>by omega,fun h=>by omega⟩
  ·exact⟨fun _=>by omega,fun _=>rfl⟩
set_option maxHeartbeats 16000000 in
theorem ZkX (v:Value)(n:Nat)(w:World)(hv:ArgS w v (eI .i64) (dI n))(hl:(dI n).length<=268435456):
  Calls prog 159 [v].toArray w (RetM (FlS (eI .i64) 1 (dI (rtN n))) (fun s=>vF s) (fun s=>mF 3 s) w):=by
 have hc:=fun L=>hv.lst L
 have l1:(dI 1).length<=1:=by rw[ZfL];exact Wl _
 have l2:(dI 2).length<=1:=by rw[ZlG];exact Wl _
 have p0:(dI n).length<=1099511627776/\(dI 1).length<=1099511627776:=⟨by omega,by omega⟩
 have hb:∀m,m<=n+1->(dI m).length<=268435457:=fun m hm=>by
  have h1:=Zhw (m:=n) (n:=1) (a:=268435456) hl (by omega)
  exact ZfJ hm h1
 have hn1:n<(n+1)*(n+1):=by
  have:(n+1)*(n+1)=n*n+2*n+1:=by grind
  omega
 refine Zb Tryz.func159 rfl Tryz.ntmps159 rfl ?_
 repeat(first|(refine wkB ?_;intros)|(refine wnM ?_ ?_;(focus(exact p0));intros))
 rename_i b7 b9 f
 refine Zq (S:=(lo:Nat)×(hi:Nat)×FlS (eI .i64) 1 (dI lo)×FlS (eI .i64) 1 (dI hi)) (fun s=>(s.1*s.1<=n/\n<s.2.1*s.2.1)/\s.2.1<=n+1) (fun s=>[(0,v),(3,vF s.2.2.1),(4,vF s.2.2.2)]) (fun s=>mF 3 s.2.2.2++mF 3 s.2.2.1) (fun s=>s.2.1-s.1) ⟨0,n+1,FlS.em b7,f⟩ ⟨⟨Wm _,hn1⟩,Wl _⟩ sbB (by dsimp only[FlS.em_m];exact suB) (fun s hs=>?_)
 obtain⟨lo,hi,slo,shi⟩:=s
 obtain⟨⟨h1,h2⟩,h3⟩:=hs
 dsimp only at h1 h2 h3⊢
 have hlh:lo<hi:=by
  rcases Nat.lt_or_ge lo hi with h|h
  ·exact h
  ·have:=sqm h;omega
 have b1:=hb lo (by omega)
 have b2:=hb hi h3
 have p1:(dI lo).length<=1099511627776/\(dI 1).length<=1099511627776:=⟨by omega,by omega⟩
 have p2:(dI (lo+1)).length<=1125899906842624/\(dI hi).length<=1125899906842624:=⟨by have:=hb (lo+1) (by omega);omega,by omega⟩
 repeat(first|(refine wkB ?_;intros)|(refine wnM ?_ ?_;(focus(first|exact p1|exact p2));intros))
 refine Zk rfl (fun h=>?_) (fun h=>?_)
 ·have hlt:=(Zj8 (lo+1) hi).1 (Wa h)
  have p3:(dI lo).length<=1099511627776/\(dI hi).length<=1099511627776:=⟨by omega,by omega⟩
  have b3:(dI (lo+hi)).length<=268435458:=Zhw b1 b2
  have p4:((dI (lo+hi)).length<=1073741824/\(dI 2).length<=1073741824)/\0<2:=⟨⟨by omega,by omega⟩,by decide⟩
  repeat(first|(refine wkB ?_;intros)|(refine wnM ?_ ?_;(focus(first|exact p3|exact p4));intros))
  rename_i d
  obtain⟨q,r,al⟩:=d
  dsimp only
  simp only[List.append_assoc]
  have hm1:lo<(lo+hi) / 2:=by omega
  have hm2:(lo+hi) / 2<hi:=by omega
  have b4:=hb ((lo+hi) / 2) (by omega)
  have p5:(dI ((lo+hi) / 2)).length<=1099511627776/\(dI ((lo+hi) / 2)).length<=1099511627776:=⟨by omega,by omega⟩
  have b5:=Zcm b4 b4
  have p6:(dI (((lo+hi) / 2)*((lo+hi) / 2))).length<=1125899906842624/\(dI n).length<=1125899906842624:=⟨by omega,by omega⟩
  repeat(first|(refine wkB ?_;intros)|(refine wnM ?_ ?_;(focus(first|exact p5|exact p6));intros))
  refine Zk rfl (fun h=>?_) (fun h=>?_)
  ·have hle:=(ZjT (((lo+hi) / 2)*((lo+hi) / 2)) n).1 (Wa h)
   repeat(refine wkB ?_;intros)
   exact Zhh ⟨((lo+hi) / 2),hi,q,shi⟩ ⟨⟨hle,h2⟩,h3⟩ sbB inferInstance (by show hi-((lo+hi) / 2)<hi-lo;omega)
  ·have hgt:n<((lo+hi) / 2)*((lo+hi) / 2):=by
    rcases Nat.lt_or_ge n (((lo+hi) / 2)*((lo+hi) / 2)) with h0|h0
    ·exact h0
    ·exact absurd ((ZjT (((lo+hi) / 2)*((lo+hi) / 2)) n).2 h0) (Wb h)
   repeat(refine wkB ?_;intros)
   exact Zhh ⟨lo,((lo+hi) / 2),slo,q⟩ ⟨⟨h1,hgt⟩,by show((lo+hi) / 2)<=n+1;omega⟩ sbB inferInstance (by show((lo+hi) / 2)-lo<hi-lo;omega)
 ·have hge:hi=lo+1:=by
   have h0:¬lo+1<hi:=fun h0=>Wb h ((Zj8 (lo+1) hi).2 h0)
   omega
  subst hge
  have hr:rtN n=lo:=Zmd ⟨h1,h2⟩
  obtain⟨f',g1,g2⟩:=slo.like (show dI (rtN n)=dI lo by rw[hr])
  repeat(refine wkB ?_;intros)
  exact ZB rfl rfl (fun w hw=>⟨f',by show Ending.returned _=Ending.returned (vF f');rw[g1],by show Own _ (mF _ f') _;rw[g2];exact hw.sub suB⟩)
instance ZyC (w0:World)(L:List Blk)(v:Value)(n:Nat)[h:LstC w0 L v Int (eI .i64) (dI n)]:SpecR prog w0 L 159 [v] (FlS (eI .i64) 1 (dI (rtN n))) (fun s=>vF s) (fun s=>mF 3 s) ((dI n).length<=268435456):=⟨fun hl w hw=>ZkX v n w (h.out w hw) hl⟩
theorem Zq1 (q:Rat):(rtQ q).isSome=true↔0<=q.num/\rtN q.num.natAbs*rtN q.num.natAbs=q.num.natAbs/\rtN q.den*rtN q.den=q.den:=by
 unfold rtQ
 split
 ·rename_i h;exact⟨fun _=>h,fun _=>rfl⟩
 ·rename_i h;exact⟨(fun k=>by cases k),fun k=>(h k).elim⟩
set_option maxHeartbeats 16000000 in
theorem ZkY (a:Rat)(w:World)(hl:M a<=268435456):
  Calls prog 112 [vQ a].toArray w (Ret (.tuple #[vQ ((rtQ a).getD 0), .bool (rtQ a).isSome]) w):=by
 have ha:M a<=1073741824:=by omega
 have x1:(dI a.num.natAbs).length<=268435456:=by rw[Zbl];exact Wi (Nat.le_max_left _ _) hl
 have x2:(dI a.den).length<=268435456:=by have:=Zbl (a.den:Int);rw[Int.natAbs_natCast] at this;rw[this];exact Wi (Nat.le_max_right _ _) hl
 have r1:(dI (rtN a.num.natAbs)).length<=268435456:=ZfJ (Zck _) x1
 have r2:(dI (rtN a.den)).length<=268435456:=ZfJ (Zck _) x2
 have m1:=Zcm r1 r1
 have m2:=Zcm r2 r2
 have p1:(dI (rtN a.num.natAbs)).length<=1099511627776/\(dI (rtN a.num.natAbs)).length<=1099511627776:=⟨by omega,by omega⟩
 have p2:(dI (rtN a.den)).length<=1099511627776/\(dI (rtN a.den)).length<=1099511627776:=⟨by omega,by omega⟩
 have p3:(dI (rtN a.num.natAbs*rtN a.num.natAbs)).length<=1125899906842624/\(dI a.num.natAbs).length<=1125899906842624:=⟨by omega,by omega⟩
 have p4:(dI (rtN a.den*rtN a.den)).length<=1125899906842624/\(dI a.den).length<=1125899906842624:=⟨by omega,by omega⟩
 have hd0:0<rtN a.den:=ZoR a.den_pos (Zdk _).2
 have p5:((dI (rtN a.num.natAbs)).length<=1073741824/\(dI (rtN a.den)).length<=1073741824)/\0<rtN a.den:=⟨⟨by omega,by omega⟩,hd0⟩
 have hiff:=Zq1 a
 have hval:(rtQ a).isSome=true->Rat.divInt (sgI false (rtN a.num.natAbs)) (rtN a.den:Nat)=(rtQ a).getD 0:=fun h=>by
  have:=hiff.1 h
  unfold rtQ
  rw[if_pos this]
  rfl
 have hnone:(rtQ a).isSome=false->(rtQ a).getD 0=0:=fun h=>by
  cases h0:rtQ a with
  |none=>rfl
  |some q=>rw[h0] at h;cases h
 refine Zb Tryz.func112 rfl Tryz.ntmps112 rfl ?_
 repeat(first|(refine wkB ?_;intros)|(refine wnM ?_ ?_;(focus(exact ha));intros))
 rename_i b1 b2 s b4
 simp only[FrO.fr_eq,FrO.mem,List.append_assoc]
 refine ZY (S:=FlS (eI .i64) 1 (dI (rtN a.num.natAbs))×FlS (eI .i64) 1 (dI (rtN a.den))) (fun _=>True) (fun q=>[(2, .pointer (some ⟨b2,0,none⟩)),(3, .bool false),(4, .pointer (some ⟨b4,0,none⟩)),(5,vF q.1),(6,vF q.2)]) (fun q=>mF 3 q.1++(mF 3 q.2++(⟨b4,Zd ⟨decide (a.num<0),flH s.n,flH s.d⟩,162⟩::⟨b2,Zn (Q 0),33⟩::(mF 3 s.n++mF 3 s.d)))) ?_ (fun q _=>?_)
 ·(refine ZH (.v [0,1,3,4] (.e1 2 (.e1 5 (.e1 6 (.e1 7 (.fin)))))) ([⟨b4,Zd ⟨decide (a.num<0),flH s.n,flH s.d⟩,162⟩]) (h:=?_);refine wkX ?_)
  repeat' (first|(with_reducible refine And.intro ?_ ?_)|(with_reducible exact True.intro)|(refine wkT ?_;intros)|(refine tC rfl rfl ?_ ?_;focus(first|exact x1|exact x2))|(refine uC rfl rfl ?_ ?_;focus(first|exact x1|exact x2))|(refine eN rfl rfl ?_ ?_;(focus(first|exact x1|exact x2));intro _;(try simp only[Wf,Wg,Wh]))|fail)
  all_goals exact Zbg ⟨_,_⟩ trivial sbB inferInstance
 obtain⟨qn,qd⟩:=q
 dsimp only
 repeat(refine wkB ?_;intros)
 refine ZY (S:=Unit) (fun _=>True) (fun _=>[(2, .pointer (some ⟨b2,0,none⟩)),(3, .bool false),(5,vF qn),(6,vF qd),(34, .bool (!(rtQ a).isSome))]) (fun _=>mF 3 qn++(mF 3 qd++[⟨b2,Zn (Q 0),33⟩])) ?_ (fun _ _=>?_)
 ·have g1:=Zj7 (rtN a.num.natAbs*rtN a.num.natAbs) a.num.natAbs
  have g2:=Zj7 (rtN a.den*rtN a.den) a.den
  have i1:∀(L:List Blk)(u1 u2:Value) [LstC w L u1 Int (eI .i64) (dI (rtN a.num.natAbs*rtN a.num.natAbs))] [LstC w L u2 Int (eI .i64) (dI a.num.natAbs)],SpecM prog w L 125 [u1,u2] (.int .i64 (Lib.compareInt ((rtN a.num.natAbs*rtN a.num.natAbs:Nat):Int) a.num.natAbs)) ((dI (rtN a.num.natAbs*rtN a.num.natAbs)).length<=1125899906842624/\(dI a.num.natAbs).length<=1125899906842624):=fun L u1 u2 _ _=>inferInstance
  have i2:∀(L:List Blk)(u1 u2:Value) [LstC w L u1 Int (eI .i64) (dI (rtN a.den*rtN a.den))] [LstC w L u2 Int (eI .i64) (dI a.den)],SpecM prog w L 125 [u1,u2] (.int .i64 (Lib.compareInt ((rtN a.den*rtN a.den:Nat):Int) a.den)) ((dI (rtN a.den*rtN a.den)).length<=1125899906842624/\(dI a.den).length<=1125899906842624):=fun L u1 u2 _ _=>inferInstance
  generalize Lib.compareInt ((rtN a.num.natAbs*rtN a.num.natAbs:Nat):Int) a.num.natAbs=z1 at*
  generalize Lib.compareInt ((rtN a.den*rtN a.den:Nat):Int) a.den=z2 at*
  by_cases hneg:a.num<0
  ·have hs:(rtQ a).isSome=false:=Bool.eq_false_iff.2 fun h=>by have:=(hiff.1 h).1;omega
   simp only[Wc hneg,hs,Bool.not_false]
   (refine ZH (.v [0,1,2,3,4,5,6,7,8,9,10,11,12,13,14,15,16,17,18,19] (.fin)) ([⟨b4,Zd ⟨true,flH s.n,flH s.d⟩,162⟩]) (h:=?_);refine wkX ?_)
   repeat' (first|(with_reducible refine And.intro ?_ ?_)|(with_reducible exact True.intro)|(refine wkT ?_;intros)|(refine tC rfl rfl ?_ ?_;focus(first|exact p1|exact p2|exact p3|exact p4))|(refine uC rfl rfl ?_ ?_;focus(first|exact p1|exact p2|exact p3|exact p4))|(refine eN rfl rfl ?_ ?_;(focus(first|exact p1|exact p2|exact p3|exact p4));intro _;(try simp only[Wf,Wg,Wh]))|fail)
   all_goals exact Zbg () trivial sbB inferInstance
  ·simp only[We hneg]
   by_cases c1:z1=0
   ·by_cases c2:z2=0
    ·have hs:(rtQ a).isSome=true:=hiff.2 ⟨by omega,g1.1 c1,g2.1 c2⟩
     simp only[hs,Bool.not_true]
     (refine ZH (.v [0,1,2,3,4,6,7] (.e1 5 (.e1 8 (.v [9,10,11,12,13,15,16] (.e1 14 (.e1 17 (.v [18,19] (.fin)))))))) ([⟨b4,Zd ⟨false,flH s.n,flH s.d⟩,162⟩]) (h:=?_);refine wkX ?_)
     repeat' (first|(with_reducible refine And.intro ?_ ?_)|(with_reducible exact True.intro)|(refine wkT ?_;intros)|(refine tC rfl rfl ?_ ?_;focus(first|exact p1|exact p2|exact p3|exact p4))|(refine uC rfl rfl ?_ ?_;focus(first|exact p1|exact p2|exact p3|exact p4))|(refine eN rfl rfl ?_ ?_;(focus(first|exact p1|exact p2|exact p3|exact p4));intro _;(try simp only[Wf,Wg,Wh]))|fail)
     all_goals simp only[Wc c1,Bool.not_true]
     repeat' (first|(with_reducible refine And.intro ?_ ?_)|(with_reducible exact True.intro)|(refine wkT ?_;intros)|(refine tC rfl rfl ?_ ?_;focus(first|exact p1|exact p2|exact p3|exact p4))|(refine uC rfl rfl ?_ ?_;focus(first|exact p1|exact p2|exact p3|exact p4))|(refine eN rfl rfl ?_ ?_;(focus(first|exact p1|exact p2|exact p3|exact p4));intro _;(try simp only[Wf,Wg,Wh]))|fail)
     all_goals simp only[Wc c2,Bool.not_true]
     repeat' (first|(with_reducible refine And.intro ?_ ?_)|(with_reducible exact True.intro)|(refine wkT ?_;intros)|(refine tC rfl rfl ?_ ?_;focus(first|exact p1|exact p2|exact p3|exact p4))|(refine uC rfl rfl ?_ ?_;focus(first|exact p1|exact p2|exact p3|exact p4))|(refine eN rfl rfl ?_ ?_;(focus(first|exact p1|exact p2|exact p3|exact p4));intro _;(try simp only[Wf,Wg,Wh]))|fail)
     all_goals exact Zbg () trivial sbB inferInstance
    ·have hs:(rtQ a).isSome=false:=Bool.eq_false_iff.2 fun h=>c2 (g2.2 (hiff.1 h).2.2)
     simp only[hs,Bool.not_false]
     (refine ZH (.v [0,1,2,3,4,6,7] (.e1 5 (.e1 8 (.v [9,10,11,12,13,15,16] (.e1 14 (.e1 17 (.v [18,19] (.fin)))))))) ([⟨b4,Zd ⟨false,flH s.n,flH s.d⟩,162⟩]) (h:=?_);refine wkX ?_)
     repeat' (first|(with_reducible refine And.intro ?_ ?_)|(with_reducible exact True.intro)|(refine wkT ?_;intros)|(refine tC rfl rfl ?_ ?_;focus(first|exact p1|exact p2|exact p3|exact p4))|(refine uC rfl rfl ?_ ?_;focus(first|exact p1|exact p2|exact p3|exact p4))|(refine eN rfl rfl ?_ ?_;(focus(first|exact p1|exact p2|exact p3|exact p4));intro _;(try simp only[Wf,Wg,Wh]))|fail)
     all_goals simp only[Wc c1,Bool.not_true]
     repeat' (first|(with_reducible refine And.intro ?_ ?_)|(with_reducible exact True.intro)|(refine wkT ?_;intros)|(refine tC rfl rfl ?_ ?_;focus(first|exact p1|exact p2|exact p3|exact p4))|(refine uC rfl rfl ?_ ?_;focus(first|exact p1|exact p2|exact p3|exact p4))|(refine eN rfl rfl ?_ ?_;(focus(first|exact p1|exact p2|exact p3|exact p4));intro _;(try simp only[Wf,Wg,Wh]))|fail)
     all_goals simp only[We c2,Bool.not_false]
     repeat' (first|(with_reducible refine And.intro ?_ ?_)|(with_reducible exact True.intro)|(refine wkT ?_;intros)|(refine tC rfl rfl ?_ ?_;focus(first|exact p1|exact p2|exact p3|exact p4))|(refine uC rfl rfl ?_ ?_;focus(first|exact p1|exact p2|exact p3|exact p4))|(refine eN rfl rfl ?_ ?_;(focus(first|exact p1|exact p2|exact p3|exact p4));intro _;(try simp only[Wf,Wg,Wh]))|fail)
     all_goals exact Zbg () trivial sbB inferInstance
   ·have hs:(rtQ a).isSome=false:=Bool.eq_false_iff.2 fun h=>c1 (g1.2 (hiff.1 h).2.1)
    simp only[hs,Bool.not_false]
    (refine ZH (.v [0,1,2,3,4,6,7] (.e1 5 (.e1 8 (.v [9,10,11,12,13,14,15,16,17,18,19] (.fin))))) ([⟨b4,Zd ⟨false,flH s.n,flH s.d⟩,162⟩]) (h:=?_);refine wkX ?_)
    repeat' (first|(with_reducible refine And.intro ?_ ?_)|(with_reducible exact True.intro)|(refine wkT ?_;intros)|(refine tC rfl rfl ?_ ?_;focus(first|exact p1|exact p2|exact p3|exact p4))|(refine uC rfl rfl ?_ ?_;focus(first|exact p1|exact p2|exact p3|exact p4))|(refine eN rfl rfl ?_ ?_;(focus(first|exact p1|exact p2|exact p3|exact p4));intro _;(try simp only[Wf,Wg,Wh]))|fail)
    all_goals simp only[We c1,Bool.not_false]
    repeat' (first|(with_reducible refine And.intro ?_ ?_)|(with_reducible exact True.intro)|(refine wkT ?_;intros)|(refine tC rfl rfl ?_ ?_;focus(first|exact p1|exact p2|exact p3|exact p4))|(refine uC rfl rfl ?_ ?_;focus(first|exact p1|exact p2|exact p3|exact p4))|(refine eN rfl rfl ?_ ?_;(focus(first|exact p1|exact p2|exact p3|exact p4));intro _;(try simp only[Wf,Wg,Wh]))|fail)
    all_goals exact Zbg () trivial sbB inferInstance
 ·cases hs:(rtQ a).isSome with
  |false=>
   rw[hnone hs]
   repeat(refine wkB ?_;intros)
   exact ZF rfl (Z6 rfl) (Zy rfl) (fun w hw=>ZP hw)
  |true=>
   rw[<-hval hs]
   repeat(first|(refine wkB ?_;intros)|(refine wnM ?_ ?_;(focus(exact p5));intros))
   exact ZF rfl (Z6 rfl) (Zy rfl) (fun w hw=>ZP hw)
instance Zyu (a:Rat):SpecC prog 112 [vQ a] (.tuple #[vQ ((rtQ a).getD 0), .bool (rtQ a).isSome]) (M a<=268435456):=⟨fun hp w=>ZkY a w hp⟩
end
section
def ofR (p r:Rat)(neg:Bool):Rl:=match rtQ r with
 |some q=>⟨if neg=true then p-q else p+q,0,false⟩
 |none=>⟨p,r,neg⟩
theorem ZrC {p r:Rat}{neg:Bool}(hr:0<=r):(rvR (ofR p r neg)).ok:=by
 unfold ofR
 split
 ·exact RV.ok_rat _
 ·rename_i h
  have h0:r≠0:=fun h0=>by
   have:=ZdG h 0
   rw[h0] at this
   exact this (by grind)
  exact⟨.inr ⟨by show 0<r;grind,fun q=>ZdG h q⟩,fun h1=>(h0 h1).elim⟩
theorem Zpj {r q:Rat}(h:rtQ r=some q):M q<=M r:=by
 unfold rtQ at h
 split at h
 ·injection h with h
  subst h
  have h1:=ZaG r
  have h2:=ZaK r
  refine ZcH (Wi (ZeA ?_) h1) (Wi (ZeA ?_) h2) ?_
  ·rw[Int.natAbs_natCast];exact Zck _
  ·rw[Int.natAbs_natCast,Int.natAbs_natCast];exact Zck _
  ·exact @ZlL r
 ·cases h
theorem ZtL {p r:Rat}{neg:Bool}{k:Nat}(hr:0<=r)(h1:M p<=k)(h2:M r<=k)(hk:1<=k):RlB (2*k+1) (ofR p r neg):=by
 refine⟨ZrC hr, ?_, ?_⟩
 ·unfold ofR
  split
  ·rename_i q h
   have h3:=Zpj h
   dsimp only
   split
   ·have:=Zpk p q;omega
   ·have:=Zk4 p q;omega
  ·dsimp only;omega
 ·unfold ofR
  split
  ·show M 0<=_;have:M 0<=1:=by decide
   omega
  ·dsimp only;omega
set_option maxHeartbeats 8000000 in
instance Zzr (p r:Rat)(neg:Bool):SpecC prog 135 [vQ p,vQ r, .bool neg] (vR (ofR p r neg)) (M p<=1000/\M r<=1000):=⟨fun hp w=>by
 obtain⟨h1,h2⟩:=hp
 have h3:M r<=268435456:=by omega
 have d1:∀q,rtQ r=some q->ofR p r true=⟨p-q,0,false⟩:=fun q h=>by unfold ofR;rw[h];rfl
 have d2:∀q,rtQ r=some q->ofR p r false=⟨p+q,0,false⟩:=fun q h=>by unfold ofR;rw[h];rfl
 have d3:rtQ r=none->ofR p r neg=⟨p,r,neg⟩:=fun h=>by unfold ofR;rw[h]
 refine Zb Tryz.func135 rfl Tryz.ntmps135 rfl ?_
 repeat(first|(refine wkB ?_;intros)|(refine wnM ?_ ?_;(focus(exact h3));intros))
 cases h:rtQ r with
 |none=>
  rw[d3 h]
  repeat(refine wkB ?_;intros)
  exact rtC rfl rfl
 |some q=>
  have hq:=Zpj h
  have h4:M p<=268435456/\M q<=268435456:=⟨by omega,by omega⟩
  simp only[Option.isSome_some,Option.getD_some]
  cases neg with
  |true=>
   rw[d1 q h]
   repeat(first|(refine wkB ?_;intros)|(refine wnM ?_ ?_;(focus(exact h4));intros))
   exact rtC rfl rfl
  |false=>
   rw[d2 q h]
   repeat(first|(refine wkB ?_;intros)|(refine wnM ?_ ?_;(focus(exact h4));intros))
   exact rtC rfl rfl⟩
abbrev WI :=ZR
abbrev vWI (x:WI):Value:= .agg (ZL x)
structure WIOk (x:WI):Prop where
 p:0<=x.P/\x.P<=255
 d:0<=x.D/\x.D<=255
 r:0<=x.R/\x.R<=255
 e:0<=x.E/\x.E<=255
def inP (x:WI):Rat:=Rat.divInt (x.P % 64) (1+x.D % 4)
def inR (x:WI):Rat:=Rat.divInt (x.R % 12) (1+x.E % 3)
def insT (x:WI):Rl:=ofR (inP x) (inR x) x.Neg
theorem ZpH {x:WI}(h:WIOk x):M (inP x)<=1:=ZcH (Zb0 (k:=1) (by have:=h.p;omega)) (Zb0 (k:=1) (by have:=h.d;omega)) (Wl _)
theorem Zpp {x:WI}(h:WIOk x):M (inR x)<=1:=ZcH (Zb0 (k:=1) (by have:=h.r;omega)) (Zb0 (k:=1) (by have:=h.e;omega)) (Wl _)
theorem Zsb (x:WI):0<=inR x:=by
 unfold inR
 exact Rat.divInt_nonneg_iff_of_pos_right (by omega) |>.2 (by omega)
theorem ZfH {x:WI}(h:WIOk x):RlB 3 (insT x):=ZtL (Zsb x) (ZpH h) (Zpp h) (Wl _)
set_option maxHeartbeats 8000000 in
instance Ztl (x:WI):SpecC prog 89 [vWI x] (vR (insT x)) (WIOk x):=⟨fun hx w=>by
 have h1:=hx.p
 have h2:=hx.d
 have h3:=hx.r
 have h4:=hx.e
 have m1:=ZpH hx
 have m2:=Zpp hx
 have p1:1+x.D % 4≠0/\(-9223372036854775808<=x.P % 64/\x.P % 64<=9223372036854775807)/\(-9223372036854775808<=1+x.D % 4/\1+x.D % 4<=9223372036854775807):=by omega
 have p2:1+x.E % 3≠0/\(-9223372036854775808<=x.R % 12/\x.R % 12<=9223372036854775807)/\(-9223372036854775808<=1+x.E % 3/\1+x.E % 3<=9223372036854775807):=by omega
 have p3:M (Rat.divInt (x.P % 64) (1+x.D % 4))<=1000/\M (Rat.divInt (x.R % 12) (1+x.E % 3))<=1000:=⟨Wi m1 (by decide),Wi m2 (by decide)⟩
 refine Zb Tryz.func89 rfl Tryz.ntmps89 rfl ?_
 repeat(refine wkB ?_;intros)
 rename_i b1 b2
 (refine ZH (.v [0,1,2,3,4,5,6,7,8,9,10,11,12,13,14,15,16,17,18,19,20,21,22] (.e1 23 (.fin))) ([⟨b1,ZL x,40⟩]) (h:=?_);refine wkX ?_)
 (repeat(first|refine wkH ?_|(refine tC rfl rfl ?_ ?_;focus(first|exact p1|exact p2|exact p3))))
 repeat(refine wkT ?_;intros)
 repeat(refine wkB ?_;intros)
 exact rtC rfl rfl⟩
abbrev WS :=Z3
abbrev vWS (x:WS):Value:= .agg (ZW x)
structure WSOk (x:WS):Prop where
 a:WIOk x.A
 b:WIOk x.B
noncomputable def ivS (s:WS):Za:=if 0<cl (insT s.A) (insT s.B) then⟨insT s.B,insT s.A,s.OpenA,s.OpenB⟩ else if cl (insT s.A) (insT s.B)=0 then⟨insT s.A,insT s.B,false,false⟩ else⟨insT s.A,insT s.B,s.OpenA,s.OpenB⟩
theorem Zuq {s:WS}(h:WSOk s):IvOk 3 (ivS s):=by
 have h1:=ZfH h.a
 have h2:=ZfH h.b
 unfold ivS
 split
 ·exact⟨h2,h1⟩
 ·split <;> exact⟨h1,h2⟩
set_option maxHeartbeats 8000000 in
instance ZrN (s:WS):SpecC prog 71 [vWS s] (vIv (ivS s)) (WSOk s):=⟨fun hs w=>by
 have ha:=hs.a
 have hb:=hs.b
 have p1:RlB B28 (insT s.A)/\RlB B28 (insT s.B):=⟨(ZfH ha).mono (by decide),(ZfH hb).mono (by decide)⟩
 have hd:ivS s=ivS s:=rfl
 conv at hd=>rhs;unfold ivS
 refine Zb Tryz.func71 rfl Tryz.ntmps71 rfl ?_
 repeat(refine wkB ?_;intros)
 rename_i b1 b2
 (refine jD 11 12 (h:=?_);(repeat(first|refine wkH ?_|(refine tC rfl rfl ?_ ?_;focus(first|exact ha|exact hb))));refine Zo ?_;(repeat(refine Z0 ?_;intro _));refine Zs ?_)
 repeat(first|(refine wkB ?_;intros)|(refine wnM ?_ ?_;(focus(exact p1));intros))
 rw[hd]
 generalize cl (insT s.A) (insT s.B)=n at*
 by_cases c1:0<n
 ·rw[if_pos c1]
  simp only[Wc c1]
  repeat(refine wkB ?_;intros)
  simp only[We (show¬n=0 by omega)]
  repeat(refine wkB ?_;intros)
  exact rtC rfl rfl
 ·rw[if_neg c1]
  simp only[We c1]
  repeat(refine wkB ?_;intros)
  by_cases c2:n=0
  ·rw[if_pos c2]
   simp only[Wc c2]
   repeat(refine wkB ?_;intros)
   exact rtC rfl rfl
  ·rw[if_neg c2]
   simp only[We c2]
   repeat(refine wkB ?_;intros)
   exact rtC rfl rfl⟩
instance ZsK (s:WS):SpecC prog 18 [vWS s] (vIv (ivS s)) (WSOk s):=⟨fun hs w=>by
 refine Zb Tryz.func18 rfl Tryz.ntmps18 rfl ?_
 repeat(first|(refine wkB ?_;intros)|(refine wnM ?_ ?_;(focus(exact hs));intros))
 exact rtC rfl rfl⟩
end
end Go.Vt
