/- For any moving label, any fraction and any instant, Shift moves the labels in time, and back by the opposite fraction. Conditions: none. (part 23 of 28.) Conditions: those that each statement names. -/
import Derived.Test.YtcgkgdgpdpihmaaGreatDoorProg
import Derived.Calls
import Derived.Test.YtcgkgdgpdpihmaaGreatDoorKS9
import Derived.Test.YtcgkgdgpdpihmaaGreatDoorKS11
import Derived.Test.YtcgkgdgpdpihmaaGreatDoorKS15
import Derived.Test.YtcgkgdgpdpihmaaGreatDoorKS20
import Derived.Test.YtcgkgdgpdpihmaaGreatDoorKS22
set_option linter.unusedSimpArgs false
set_option linter.unusedVariables false
set_option maxHeartbeats 2000000
set_option maxRecDepth 100000
namespace Go.Vt
open Go
def rsW {α:Type}:Result α->World
 | .ok _ w=>w
 | .halt _ w=>w
theorem Zjy (w:World)(a:Addr)(v:Value):(w.setCell a v).drawn=w.drawn:=rfl
theorem Zmm (w:World)(a:Addr)(n:Nat):(w.freeze a n).drawn=w.drawn:=by
 unfold World.freeze
 split <;> rfl
theorem ZnD {α:Type}(a:Ask α)(w:World):w.drawn<=(w.ask a).2.drawn:=by
 induction a generalizing w with
 |done a=>exact Nat.le_refl _
 |ask what range k ih=>
  unfold World.ask
  dsimp only
  split
  ·exact ih _ _
  ·exact Nat.le_trans (Nat.le_succ _) (ih _ {w with drawn:=w.drawn+1})
theorem Zhn (w:World)(c:Sys):w.drawn<=(w.sys c).2.drawn:=by
 have h:=ZnD (Kernel.perform c w.os) w
 unfold World.sys
 generalize w.ask (Kernel.perform c w.os)=x at*
 obtain⟨⟨r,os⟩,w'⟩:=x
 cases r <;> first|exact h|exact Nat.le_refl _
theorem Zq3 {p:Program}{w:World}{b:Addr}{u:TypeId}{k:Addr}{v:Value}{at':Bool}{r:World×List Addr}(h:w.viewStore p b u k v at'= .ok r):r.1.drawn=w.drawn:=by
 unfold World.viewStore at h
 simp only[bind,Except.bind,pure,Except.pure] at h
 repeat' split at h
 all_goals first
  |(injection h with h;subst h;rfl)
  |cases h
theorem Zlw {p:Program}{w:World}{a:Addr}{v:Value}{at':Bool}{r:World×List Addr}(h:w.farStore p a v at'= .ok r):r.1.drawn=w.drawn:=by
 unfold World.farStore at h
 split at h
 ·split at h
  ·rename_i h1
   injection h with h
   subst h
   exact Zq3 h1
  ·cases h
 ·cases h
theorem ZgS {α:Type}{p:Program}(s:Sem α)(w:World):w.drawn<=(rsW (s.run p w)).drawn:=by
 induction s generalizing w with
 |pure a=>exact Nat.le_refl _
 |halt h=>exact Nat.le_refl _
 |store m a v k ih=>
  have key:∀v:Value,w.drawn<=(rsW (match w.cell? a with
    |some _=>if w.frozen? a then .halt (.unsupported (.unsafePointer "a write to bytes that a string shares")) w else k.run p (w.setCell a v)
    |none=>match w.farStore p a v (m== .atomic) with
     | .ok (w,_)=>k.run p w
     | .error h=> .halt h w)).drawn:=fun v=>by
   split
   ·split
    ·exact Nat.le_refl _
    ·exact Nat.le_trans (Nat.le_of_eq (Zjy w a v).symm) (ih _)
   ·split
    ·rename_i h1
     exact Nat.le_trans (Nat.le_of_eq (Zlw h1).symm) (ih _)
    ·exact Nat.le_refl _
  cases v <;> first|exact key _|exact Nat.le_refl _
 |load m a k ih=>
  unfold Sem.run
  repeat' split
  all_goals first
   |exact Nat.le_refl _
   |exact ih _ _
 |new o k ih=>exact ih _ {w with heap:=w.heap.push o}
 |shape r k ih=>exact ih _ _
 |freeze a n k ih=>exact Nat.le_trans (Nat.le_of_eq (Zmm w a n).symm) (ih _)
 |frozen a k ih=>exact ih _ _
 |getObj r k ih=>
  unfold Sem.run
  repeat' split
  all_goals first
   |exact Nat.le_refl _
   |exact ih _ _
 |setObj r o k ih=>
  unfold Sem.run
  repeat' split
  all_goals first
   |exact Nat.le_refl _
   |exact ih {w with heap:=w.heap.setIfInBounds r o}
 |choose q k ih=>
  unfold Sem.run
  split
  ·exact ih _ _
  ·exact Nat.le_trans (Nat.le_succ _) (ih _ {w with drawn:=w.drawn+1})
 |sys c k ih=>exact Nat.le_trans (Zhn w c) (ih _ _)
 |program k ih=>exact ih _ _
 |mark m k ih=>exact ih _
theorem Zcg {α:Type}{p:Program}(s:Sem α)(w:World)(es:Array Event):w.drawn<=(rsW (s.runT p w es).1).drawn:=by
 induction s generalizing w es with
 |pure a=>exact Nat.le_refl _
 |halt h=>exact Nat.le_refl _
 |store m a v k ih=>
  have key:∀v:Value,w.drawn<=(rsW (match w.cell? a with
    |some _=>
     if w.frozen? a then(.halt (.unsupported (.unsafePointer "a write to bytes that a string shares")) w,es)
     else k.runT p (w.setCell a v) (es.push ⟨.cell a,true,m== .atomic⟩)
    |none=>match w.farStore p a v (m== .atomic) with
     | .ok (w,touched)=>k.runT p w (es++touched.toArray.map (⟨.cell ·,true,m== .atomic⟩))
     | .error h=>(.halt h w,es):Result α×Array Event).1).drawn:=fun v=>by
   split
   ·split
    ·exact Nat.le_refl _
    ·exact Nat.le_trans (Nat.le_of_eq (Zjy w a v).symm) (ih _ _)
   ·split
    ·rename_i h1
     exact Nat.le_trans (Nat.le_of_eq (Zlw h1).symm) (ih _ _)
    ·exact Nat.le_refl _
  cases v <;> first|exact key _|exact Nat.le_refl _
 |load m a k ih=>
  unfold Sem.runT
  repeat' split
  all_goals first
   |exact Nat.le_refl _
   |exact ih _ _ _
 |new o k ih=>exact ih _ {w with heap:=w.heap.push o} _
 |shape r k ih=>exact ih _ _ _
 |freeze a n k ih=>exact Nat.le_trans (Nat.le_of_eq (Zmm w a n).symm) (ih _ _)
 |frozen a k ih=>exact ih _ _ _
 |getObj r k ih=>
  unfold Sem.runT
  repeat' split
  all_goals first
   |exact Nat.le_refl _
   |exact ih _ _ _
 |setObj r o k ih=>
  unfold Sem.runT
  repeat' split
  all_goals first
   |exact Nat.le_refl _
   |exact ih {w with heap:=w.heap.setIfInBounds r o} _
 |choose q k ih=>
  unfold Sem.runT
  split
  ·exact ih _ _ _
  ·exact Nat.le_trans (Nat.le_succ _) (ih _ {w with drawn:=w.drawn+1} _)
 |sys c k ih=>exact Nat.le_trans (Zhn w c) (ih _ _ _)
 |program k ih=>exact ih _ _ _
 |mark m k ih=>exact ih _ _
def GOk (d:Nat):GStep->Prop
 | .go _ w _=>d<=w.drawn
 | .comm _ _ _ _ w _=>d<=w.drawn
 | .spawn _ _ w _=>d<=w.drawn
 | .count _ w _=>d<=w.drawn
 | .timer _ _ w _=>d<=w.drawn
 | .alone _ _ w _=>d<=w.drawn
 | .newcoro _ _ _ w _=>d<=w.drawn
 | .coroswitch _ _ _ w _=>d<=w.drawn
 | .collect _ w _=>d<=w.drawn
 | .watch _ w _=>d<=w.drawn
 | .ended .. =>True
def SOk (d:Nat):Stepped->Prop
 | .next m=>d<=m.world.drawn
 | .ended .. =>True
theorem GOk.after {d:Nat}{es:Array Event}{g:GStep}(h:GOk d g):GOk d (g.after es):=by
 cases g <;> exact h
theorem Zjb {d:Nat}{c:Prop}[Decidable c]{a b:GStep}(ha:GOk d a)(hb:GOk d b):GOk d (if c then a else b):=by
 split
 ·exact ha
 ·exact hb
theorem Znu {d:Nat}{α:Type}{o:Option α}{a:GStep}{f:α->GStep}(ha:GOk d a)(hf:∀x,GOk d (f x)):GOk d (o.elim a f):=by
 cases o
 ·exact ha
 ·exact hf _
section
variable {p : Program} {d : Nat} {w : World}
theorem Zj4 (_:d<=w.drawn)(fd:Nat)(t:ByteArray)(o:Outcome):GOk d (endWith w fd t o):=by
 unfold endWith
 dsimp only
 repeat' split
 all_goals trivial
theorem Zex (h:d<=w.drawn)(fr:Frame)(m:String):GOk d (endThrow fr m w):=h
theorem Zdr (h:d<=w.drawn)(fr:Frame)(v:Value):GOk d (endPrinting p fr v w):=by
 unfold endPrinting
 dsimp only
 split
 ·exact h
 ·trivial
theorem ZaK {α:Type}{s:Sem α}{a:α}{w':World}(h:d<=w.drawn)(e:s.run p w= .ok a w'):d<=w'.drawn:=by
 have:=ZgS (p:=p) s w
 rw[e] at this
 exact Nat.le_trans h this
theorem ZjB {α:Type}{s:Sem α}{es es':Array Event}{r:Result α}(h:d<=w.drawn)(e:s.runT p w es=(r,es')):d<=(rsW r).drawn:=by
 have:=Zcg (p:=p) s w es
 rw[e] at this
 exact Nat.le_trans h this
theorem Zb3 {α:Type}{s:Sem α}{es:Array Event}{a:α}{w':World}(h:d<=w.drawn)(e:(s.runT p w es).1= .ok a w'):d<=w'.drawn:=by
 have:=Zcg (p:=p) s w es
 rw[e] at this
 exact Nat.le_trans h this
theorem Zi9 {α:Type}{s:Sem α}{es:Array Event}{a:Halt}{w':World}(h:d<=w.drawn)(e:(s.runT p w es).1= .halt a w'):d<=w'.drawn:=by
 have:=Zcg (p:=p) s w es
 rw[e] at this
 exact Nat.le_trans h this
theorem Zon (h:d<=w.drawn)(fr:Frame)(l:List ByteArray)(m:String)(b:Bool):GOk d (dieOf fr l m b w):=h
theorem Zeu (h:d<=w.drawn)(fr:Frame)(cs:List Frame)(dy:Option Dying)(m:String):GOk d (endFatal p fr cs dy m w):=by
 unfold endFatal
 dsimp only
 split
 ·rename_i e
  exact Zon (ZaK h e) _ _ _ _
 ·trivial
 ·trivial
theorem Zkk (h:d<=w.drawn)(fr:Frame)(dy:Dying)(f:Fatal):GOk d (writeOn p fr dy f w):=by
 unfold writeOn
 dsimp only
 split
 ·trivial
 ·split
  ·rename_i e
   exact ZjB h e
  ·rename_i e
   exact ZjB h e
  ·trivial
  ·trivial
theorem ZrT (h:d<=w.drawn)(fr:Frame)(dy:Dying):GOk d (die p fr dy w):=by
 unfold die
 split
 ·exact Zkk h _ _ _
 ·split
  ·split
   ·exact h
   ·exact Zj4 h _ _ _
  ·dsimp only
   split
   ·exact h
   ·split
    ·rename_i e
     exact ZaK h e
    ·trivial
   ·refine GOk.after ?_
    split
    ·rename_i e
     exact Zb3 h e
    ·rename_i e
     exact Zb3 h e
    ·trivial
    ·rename_i e
     exact Zdr (Zi9 h e) _ _
    ·trivial
   ·trivial
theorem Zc4 (h:d<=w.drawn)(mn:Bool)(fr:Frame)(cs:List Frame)(dy:Option Dying)(v:Value):GOk d (doReturn p mn fr cs dy v w):=by
 unfold doReturn
 dsimp only
 repeat' split
 all_goals first
  |trivial
  |exact h
theorem Zfl (h:d<=w.drawn)(fr:Frame)(cs:List Frame)(dy:Option Dying)(e:Deferred):GOk d (callDeferred p fr cs dy e w):=by
 unfold callDeferred
 refine Zjb trivial ?_
 dsimp only
 refine GOk.after ?_
 have h1:=Nat.le_trans h (Zcg (p:=p) (invoke e.target e.args) w #[])
 generalize ((invoke e.target e.args).runT p w #[]).1=r at*
 repeat' split
 all_goals first
  |trivial
  |exact h1
  |exact Zeu h1 _ _ _ _
  |exact Zex h1 _ _
theorem Zmy (h:d<=w.drawn)(mn:Bool)(fr:Frame)(cs:List Frame)(dy:Option Dying):GOk d (unwind p mn fr cs dy w):=by
 unfold unwind
 dsimp only
 repeat' first
  |split
  |refine GOk.after ?_
 all_goals first
  |trivial
  |exact h
  |exact Zfl h _ _ _ _
  |exact Zdr h _ _
  |exact Zc4 h _ _ _ _ _
  |exact ZaK h (by assumption)
  |exact Zb3 h (by assumption)
  |exact Zc4 (Zb3 h (by assumption)) _ _ _ _ _
theorem Znv (h:d<=w.drawn)(fr:Frame)(cs:List Frame)(dy:Option Dying)(g:Nat):GOk d (early p fr cs dy g w):=by
 unfold early
 dsimp only
 repeat' split
 all_goals first
  |trivial
  |exact h
  |exact ZaK h (by assumption)
  |(have h2:=ZaK h ‹Sem.run p _ w=Result.ok _ _›;exact h2)
theorem ZeL (h:d<=w.drawn)(ls:Bool)(fr:Frame)(cs:List Frame)(dy:Option Dying)(s:Sem Next):GOk d (stepG.apply p ls fr cs dy s w):=by
 unfold stepG.apply
 dsimp only
 have h1:d<=(rsW (if ls=true then s.runT p w #[] else(s.run p w,#[])).1).drawn:=by
  split
  ·exact Nat.le_trans h (Zcg s w #[])
  ·exact Nat.le_trans h (ZgS s w)
 generalize (if ls=true then s.runT p w #[] else(s.run p w,#[]))=x at*
 obtain⟨r,es⟩:=x
 dsimp only at h1⊢
 refine GOk.after ?_
 repeat' split
 all_goals first
  |trivial
  |exact h1
  |exact Zeu h1 _ _ _ _
  |exact Zex h1 _ _
  |exact Znv h1 _ _ _ _
theorem ZpA (h:d<=w.drawn)(ls:Bool)(fr:Frame)(cs:List Frame)(dy:Option Dying):GOk d (stepG.oper p ls fr cs dy w):=by
 unfold stepG.oper
 repeat' split
 all_goals first
  |trivial
  |exact ZeL h _ _ _ _ _
theorem Zqe (h:d<=w.drawn)(mn ls:Bool)(fr:Frame)(cs:List Frame)(dy:Option Dying):GOk d (stepG.exec p mn ls fr cs dy w):=by
 unfold stepG.exec
 dsimp only
 split
 all_goals repeat' first
  |exact h
  |trivial
  |exact ZeL h _ _ _ _ _
  |exact ZpA h _ _ _ _
  |exact ZaK h (by assumption)
  |exact Zb3 h (by assumption)
  |exact Zc4 (Zb3 h (by assumption)) _ _ _ _ _
  |exact ZeL (Zb3 h (by assumption)) _ _ _ _ _
  |exact Zi9 h (by assumption)
  |split
  |refine GOk.after ?_
  |refine Znu ?_ fun _=>?_
  |refine Zjb ?_ ?_
theorem ZnT (h:d<=w.drawn)(mn:Bool)(g:Goroutine)(ls:Bool):GOk d (stepG p mn g w ls):=by
 unfold stepG
 dsimp only
 split
 ·exact ZrT h _ _
 ·exact Zqe h _ _ _ _ _
 ·exact Zmy h _ _ _ _
theorem Zqh (h:d<=w.drawn){rest:Rest}{cs:Array CommCase}{w':World}(e:waitingAt rest cs w=some w'):d<=w'.drawn:=by
 unfold waitingAt at e
 split at e
 ·split at e
  ·injection e with e
   subst e
   exact h
  ·cases e
 ·injection e with e
  subst e
  exact h
theorem Zpn (h:d<=w.drawn)(rest:Rest)(gs:Array Goroutine)(i:Nat)(g:Goroutine)(cases:Array CommCase)(bl:Bool)(sh:CommShape):SOk d (communicate p rest gs i g cases bl sh w).1:=by
 unfold communicate
 dsimp only
 repeat' first
  |exact h
  |trivial
  |exact Zqh h (by assumption)
  |(have h2:=ZaK h ‹Sem.run p _ w=Result.ok _ _›;exact h2)
  |(have h2:=ZaK h ‹Sem.run p _ w=Result.ok _ _›;have h3:=ZaK h2 (by assumption);exact h3)
  |split
theorem ZjF (h:d<=w.drawn)(gs:Array Goroutine)(rest:Rest):SOk d (Go.look p gs rest w):=by
 unfold Go.look
 dsimp only
 repeat' first
  |exact h
  |trivial
  |(have h2:=ZaK h ‹Sem.run p _ w=Result.ok _ _›;exact h2)
  |split
theorem Zox (w:World)(c:Nat):(drain w c).2.drawn=w.drawn:=by
 unfold drain
 split <;> rfl
theorem Zf2 (m:Machine)(k:Nat)(t:Timer)(a b:Nat):(retime m k t a b).2.world.drawn=m.world.drawn:=by
 unfold retime
 dsimp only
 split
 ·exact Zox _ _
 ·rfl
theorem ZlD {m m':Machine}{v:Addr}(e:timerOp.opened m v=some m'):m'.world.drawn=m.world.drawn:=by
 unfold timerOp.opened at e
 split at e
 ·split at e
  ·injection e with e
   subst e
   rfl
  ·cases e
 ·injection e with e
  subst e
  rfl
theorem ZnE {m:Machine}{o:TimerOp}{r:Value×Machine}(e:timerOp m o= .ok r):r.2.world.drawn=m.world.drawn:=by
 unfold timerOp timerOp.named at e
 dsimp only at e
 repeat' split at e
 all_goals first
  |(injection e with e;subst e;rfl)
  |(injection e with e;subst e;exact Zf2 _ _ _ _ _)
  |(injection e with e;subst e;exact(Zf2 _ _ _ _ _).trans (ZlD (by assumption)))
  |cases e
theorem ZpC (m:Machine)(h:d<=m.world.drawn)(i:Nat)(ls:Bool):SOk d (runT p m i ls).1:=by
 unfold runT
 dsimp only
 have h1:=ZnT (p:=p) h (i==0) (m.gs.swapAt! i {(default:Goroutine) with status:= .finished}).1 ls
 generalize stepG p (i==0) (m.gs.swapAt! i {(default:Goroutine) with status:= .finished}).1 m.world ls=s at*
 repeat' first
  |exact h1
  |trivial
  |exact Zpn h1 _ _ _ _ _ _ _
  |exact ZjF h1 _ _
  |exact Nat.le_trans h1 (Nat.le_of_eq (ZnE (by assumption)).symm)
  |split
theorem Zm1 (m:Machine)(h:d<=m.world.drawn)(k:Nat):SOk d (serve p m k):=by
 unfold serve
 dsimp only
 repeat' first
  |exact h
  |trivial
  |split
def VOk (d:Nat):Move->Prop
 | .goroutine m _=>d<=m.world.drawn
 | .machine s _=>SOk d s
theorem ZeR (m:Machine)(h:d<=m.world.drawn):VOk d (askOn p m):=by
 unfold askOn
 dsimp only
 repeat' first
  |exact h
  |trivial
  |exact Zm1 _ (ZaK h (by assumption)) _
  |split
 all_goals dsimp only[VOk,SOk,Machine.advanceTo]
 all_goals repeat' first
  |exact h
  |refine ZaK ?_ (by assumption)
  |dsimp only[Machine.advanceTo]
theorem ZpG (m:Machine)(h:d<=m.world.drawn):VOk d (ask p m):=by
 unfold ask
 have key:∀w':World,d<=w'.drawn->VOk d (match Go.look p m.gs m.rest w' with
   | .next m=>askOn p m
   |e=> .machine e):=fun w' h'=>by
  have h1:=ZjF (p:=p) h' m.gs m.rest
  generalize Go.look p m.gs m.rest w'=s at*
  cases s
  ·exact ZeR _ h1
  ·trivial
 repeat' first
  |trivial
  |exact key _ (ZaK h (by assumption))
  |exact ZeR _ h
  |exact ZeR {m with world:=_} (ZaK h (by assumption))
  |split
theorem Zqk (m:Machine)(h:d<=m.world.drawn):VOk d (move p m):=by
 unfold move
 repeat' first
  |exact h
  |trivial
  |exact ZpG _ h
  |split
theorem Zpf {m m':Machine}(e:step p m= .next m'):m.world.drawn<=m'.world.drawn:=by
 have h:SOk m.world.drawn (step p m):=by
  unfold step stepT
  have h1:=Zqk (p:=p) m (Nat.le_refl _)
  generalize move p m=v at*
  cases v
  ·exact ZpC _ h1 _ _
  ·exact h1
 rw[e] at h
 exact h
theorem ZfD :∀(n:Nat) {m m':Machine},runN p n m= .next m'->m.world.drawn<=m'.world.drawn
 |0,m,m',e=>by
  injection e with e
  subst e
  exact Nat.le_refl _
 |n+1,m,m',e=>by
  unfold runN at e
  split at e
  ·exact Nat.le_trans (Zpf (by assumption)) (ZfD n e)
  ·cases hs:step p m with
   |next m1=>rename_i h1;exact absurd hs (h1 m1)
   |ended o w=>rw[hs] at e;cases e
theorem ZkA {f:FuncId}{args:Array Value}{w:World}{R:Ending->World->Prop}(hc:Calls p f args w R):Calls p f args w fun e w'=>R e w'/\(e≠ .outgrown->w.drawn<=w'.drawn):=fun cs=>by
 obtain⟨e,w',fr,h1,h2,h3,h4⟩:=hc cs
 refine⟨e,w',fr,⟨h1,fun hn=>?_⟩,h2,h3,h4⟩
 cases e with
 |returned v=>obtain⟨n,hn⟩:=h2;exact ZfD n hn
 |panicked c=>obtain⟨n,hn⟩:=h2;exact ZfD n hn
 |outgrown=>exact absurd rfl hn
end
end Go.Vt
namespace Go.Vt
open Go.RowKit Go.Proofs
open Go.Proofs.Tryz (prog)
section
instance ZxH :CallC prog 252:=⟨by kernel_rfl⟩
instance ZvW :CallC prog 251:=⟨by kernel_rfl⟩
theorem Zor (c:Nat):Lib.repeatL [0] c=List.replicate c 0:=by
 have:=Lib.repeatL_replicate 0 1 c
 rw[Nat.mul_one] at this
 exact this
instance ZAG (c:Nat):SpecC prog 252 [.string ⟨#[0]⟩, .int .i64 (c:Nat)] (.string ⟨(List.replicate c 0).toArray⟩) (c<=1048576):=⟨fun hp w=>(ZkA (Zh4 ⟨#[0]⟩ c w (by omega) (by show 1*c<=_;omega))).mono fun e w' ⟨⟨h1,h2⟩,h3⟩=>by
 subst h1
 refine⟨?_,h2,h3 (by intro h;cases h)⟩
 rw[<-Zor]⟩
instance ZzE (n:Nat):SpecC prog 251 [.int .u8 (n:Nat)] (.int .i64 (Lib.bitLen n)) (n<=255):=⟨fun hp w=>(Tryz.bits_Len8 (n:Nat) w (by omega) (by omega)).mono fun e w' ⟨h1,h2⟩=>by subst h2;exact⟨h1,Ext.refl _⟩⟩
theorem sh8f :∀r:Fin 8,IntKind.u8.wrap (1*2 ^ r.val)=(((UInt8.ofNat (2 ^ r.val)).toNat:Nat):Int):=by decide+kernel
theorem sh8 (k:Nat):IntKind.u8.wrap (1*2 ^ ((k:Int) % 8).toNat)=(((UInt8.ofNat (2 ^ (k % 8))).toNat:Nat):Int):=by
 rw[show((k:Int) % 8).toNat=k % 8 by omega]
 exact sh8f ⟨k % 8,Nat.mod_lt _ (by decide)⟩
theorem Zmp {P:Program}{w0:World}{n:Nat}{L:List Blk}{E:Env}{T T' ty:TypeId}{x y:Operand}{d:Option Tmp}{pos:String}{aft:Array Edge}{gd:Option (Nat×Bool)}{a b:List UInt8}(hx:Env.ev E x=some (.string ⟨a.toArray⟩))(hy:Env.ev E y=some (.string ⟨b.toArray⟩))(ha:(a.length:Int)<=8388608)(hb:(b.length:Int)<=8388608):Yl P w0 n L E ⟨d, .binOp .add T x y T',ty,pos,aft,gd⟩ (.string ⟨(a++b).toArray⟩):=
 ZcE hx hy (fun w=>by rw[eqGuard_at_string];rfl) (fun w=>by rw[binOp_string_add];exact run_string_add_lists w a b ha hb)
theorem Zc5 {a b N:Nat}(h:a<=b)(hb:(mag b).size<=N):(mag a).size<=N:=ZY.2 (Nat.lt_of_le_of_lt h (ZY.1 hb))
theorem Zpo {a x N:Nat}(ha:(mag a).size<=N)(hx:(mag x).size<=N):(mag (x+a / x)).size<=N+1:=by
 refine ZY.2 ?_
 have h1:=ZY.1 hx
 have h2:=Nat.lt_of_le_of_lt (Nat.div_le_self a x) (ZY.1 ha)
 rw[Nat.pow_succ]
 omega
theorem Zjo :mag 2=⟨#[2]⟩:=by decide+kernel
instance Zzk (a:Nat):SpecC prog 223 [.string (mag a), .string ⟨#[2]⟩] (.tuple #[.string (mag (a / 2)), .string (mag (a % 2))]) ((mag a).size<=LIM):=⟨fun h w=>by
 rw[<-Zjo]
 exact(Zrx a 2).out ⟨by decide,h,by rw[Zjo];decide⟩ w⟩
set_option maxHeartbeats 4000000 in
theorem Zmj (a:Nat)(ha:(mag a).size<=1048576)(w:World):Calls prog 239 [.string (mag a)].toArray w (Ret (.string (mag (rtN a))) w):=by
 refine Zb Tryz.func239 rfl Tryz.ntmps239 rfl ?_
 repeat(refine wkB ?_;intros)
 by_cases h0:a=0
 ·subst h0
  simp only[Wc (show mag 0=⟨#[]⟩ from rfl)]
  repeat(refine wkB ?_;intros)
  exact rtT rfl rfl
 have hne:mag a≠⟨#[]⟩:=fun e=>h0 (Z8.1 (show mag a=ByteArray.empty from e))
 simp only[We hne]
 have hsz:0<(mag a).size:=Nat.pos_of_ne_zero fun h=>hne (by
  generalize mag a=m at*
  obtain⟨⟨l⟩⟩:=m
  cases l with
  |nil=>rfl
  |cons x l=>simp[ByteArray.size] at h)
 obtain⟨t,ht⟩:∃t,(mag a)[(0:Int).toNat]? =some t:=⟨(mag a)[0],by simp[hsz]⟩
 obtain⟨hb1,hb8,hbt⟩:=ZjR ht
 have htl:=UInt8.toNat_lt t
 repeat(refine wkB ?_;intros)
 refine Go.Vt.jq (Zbs rfl rfl (by decide) ht) rfl rfl ?_
 repeat(first|(refine wkB ?_;intros)|(refine wnM ?_ ?_;(focus(exact(show t.toNat<=255 by omega)));intros))
 generalize hK:(8*((((mag a).size:Nat):Int)-1)+((Lib.bitLen t.toNat:Nat):Int)+1) / 2=K
 obtain⟨k,rfl⟩:∃k:Nat,K=(k:Nat):=Int.eq_ofNat_of_zero_le (by omega)
 have hk1:isq a<2 ^ k:=Zro hbt (by omega)
 have hk2:k<=4194312:=by omega
 clear hK hbt
 refine ZS (S:=Unit) (fun _=>True) (fun _=>[(0, .string (mag a)),(4, .string (mag (2 ^ k)))]) (fun _=>[]) ?_ (fun _ _=>?_)
 ·(refine ZG (.v [0,1,2,5,6,7] (.e1 3 (.e1 4 (.v [8] (.e1 9 (.fin)))))) (([]:List Blk)) (h:=?_);refine wkX ?_)
  (repeat(refine wkH ?_))
  refine Go.Vt.hq (Zcc rfl rfl ⟨by omega,by simp only[IntKind.bits];omega⟩) rfl rfl ?_
  rw[sh8 k]
  (repeat(refine wkH ?_))
  rw[show(k:Int) / 8=((k / 8:Nat):Int) by omega]
  (repeat(first|refine wkH ?_|(refine tC rfl rfl ?_ ?_;focus(exact(show k / 8<=1048576 by omega)))))
  repeat(refine wkT ?_;intros)
  refine eV (Zbp (bs:=[UInt8.ofNat (2 ^ (k % 8))]) rfl rfl (fun i u hi=>?_)) rfl rfl ?_ ?_
  ·rcases i with _|i
   ·injection hi with hi
    subst hi
    rfl
   ·cases hi
  ·exact Wk _
  repeat(refine wkT ?_;intros)
  refine Go.Vt.hq (Zmp (a:=[UInt8.ofNat (2 ^ (k % 8))]) (b:=List.replicate (k / 8) 0) rfl rfl (by simp) (by rw[List.length_replicate];omega)) rfl rfl ?_
  repeat(refine wkT ?_;intros)
  have hmp:=Zjp k
  exact Zg () trivial (by rw[hmp];exact sbB) suB
 have hpos:0<isq a:=by
  rcases Nat.eq_zero_or_pos (isq a) with h|h
  ·have:=(Zb5 a).2
   rw[h] at this
   omega
  ·exact h
 have hpk:(mag (2 ^ k)).size<=1048576:=by
  rw[Zjp]
  simp only[ByteArray.size,List.size_toArray,Wu,List.length_replicate]
  omega
 have hsz2:∀x,x<=2 ^ k->(mag x).size<=1048576:=fun x hx=>Zc5 hx hpk
 repeat(refine wkB ?_;intros)
 refine Zq (S:=Nat) (fun x=>isq a<=x/\x<=2 ^ k) (fun x=>[(0, .string (mag a)),(4, .string (mag x))]) (fun _=>[]) (fun x=>x) (2 ^ k) ⟨by omega,Wl _⟩ sbB suB (fun x hx=>?_)
 try dsimp only at hx⊢
 have hx0:x≠0:=by omega
 have hsx:=hsz2 x hx.2
 have hp1:x≠0/\(mag a).size<=LIM/\(mag x).size<=LIM:=⟨hx0,Wi ha (by decide),Wi hsx (by decide)⟩
 have hq:(mag (a / x)).size<=LIM:=Wi (Zc5 (Nat.div_le_self a x) ha) (by decide)
 have hp2:(mag x).size<=LIM/\(mag (a / x)).size<=LIM:=⟨hp1.2.2,hq⟩
 have hp3:(mag (x+a / x)).size<=LIM:=Wi (Zpo ha hsx) (by decide)
 repeat(first|(refine wkB ?_;intros)|(refine wnM ?_ ?_;(focus(first|exact hp1|exact hp2|exact hp3));intros))
 refine Zi rfl (fun h=>?_) (fun h=>?_)
 ·have hle:x<=nwS a x:=by
   have:=Zee.1 (Wa h)
   unfold nwS
   omega
  have hxe:=Zps (Zb5 a).1 (Zb5 a).2 hx.1 (by omega) hle
  rw[hxe,ZqK]
  repeat(refine wkB ?_;intros)
  exact rtT rfl rfl
 ·have hlt:(x+a / x) / 2<x:=by
   rcases Nat.lt_or_ge ((x+a / x) / 2) x with h1|h1
   ·exact h1
   ·exact absurd (Zee.2 (by omega)) (Wb h)
  have hlo:isq a<=(x+a / x) / 2:=Zrp (by omega) (Zb5 a).1
  repeat(refine wkB ?_;intros)
  exact Zf ((x+a / x) / 2) ⟨hlo,Wi (Nat.le_of_lt hlt) hx.2⟩ sbB suB hlt
instance ZzF (a:Nat):SpecC prog 239 [.string (mag a)] (.string (mag (rtN a))) ((mag a).size<=1048576):=⟨fun hp w=>Zmj a hp w⟩
def isqI (a:Int):Bool:=decide (0<=a/\rtN a.natAbs*rtN a.natAbs=a.natAbs)
def isqV (a:Int):Int:=if isqI a then(rtN a.natAbs:Nat) else 0
theorem Zrc (a:Int)(w:World)(ha:mg a<=1048576):Calls prog 219 [vI a].toArray w (Ret (.tuple #[vI (isqV a), .bool (isqI a)]) w):=by
 have p1:(mag a.natAbs).size<=1048576:=ha
 have p2:(mag (rtN a.natAbs)).size<=LIM/\(mag (rtN a.natAbs)).size<=LIM:=⟨Wi (Zc5 (Zcd _) ha) (by decide),Wi (Zc5 (Zcd _) ha) (by decide)⟩
 refine Zb Tryz.func219 rfl Tryz.ntmps219 rfl ?_
 repeat(refine wkB ?_;intros)
 refine Zi rfl (fun h=>?_) (fun h=>?_)
 ·have hn:¬0<=a:=by have:=Wa h;omega
  have e1:isqI a=false:=We fun k=>hn k.1
  have e2:isqV a=0:=by unfold isqV;rw[e1];rfl
  rw[e1,e2]
  repeat(refine wkB ?_;intros)
  exact ZE rfl (Z6 rfl) (Zs rfl) (fun w hw=>ZM hw)
 ·have hn:0<=a:=by have:=Wb h;omega
  repeat(first|(refine wkB ?_;intros)|(refine wnM ?_ ?_;(focus(exact p1));intros))
  (refine jD 6 6 (h:=?_);(repeat(first|refine wkH ?_|(refine tC rfl rfl ?_ ?_;focus(exact p2))));refine Zo ?_;(repeat(refine ZZ ?_;intro _));refine Zr ?_)
  repeat(refine wkB ?_;intros)
  refine Zi rfl (fun h2=>?_) (fun h2=>?_)
  ·have e1:isqI a=false:=by
    refine We fun k=>?_
    rw[k.2] at h2
    simp at h2
   have e2:isqV a=0:=by unfold isqV;rw[e1];rfl
   rw[e1,e2]
   repeat(refine wkB ?_;intros)
   exact ZE rfl (Z6 rfl) (Zs rfl) (fun w hw=>ZM hw)
  ·have hs:rtN a.natAbs*rtN a.natAbs=a.natAbs:=by
    have h3:mag (rtN a.natAbs*rtN a.natAbs)=mag a.natAbs:=by simpa using h2
    exact Zel.1 h3
   have e1:isqI a=true:=Wc ⟨hn,hs⟩
   have e2:isqV a=sg false (rtN a.natAbs):=by unfold isqV;rw[e1];rfl
   rw[e1,e2]
   repeat(refine wkB ?_;intros)
   exact ZE rfl (Z6 rfl) (Zs rfl) (fun w hw=>ZM hw)
instance ZzG (a:Int):SpecC prog 219 [vI a] (.tuple #[vI (isqV a), .bool (isqI a)]) (mg a<=1048576):=⟨fun hp w=>Zrc a w hp⟩
theorem ZpI (q:Rat):rtQ q=if isqI q.num&&isqI (q.den:Int) then some (Rat.divInt (isqV q.num) (isqV (q.den:Int))) else none:=by
 have hd:(0:Int)<=(q.den:Int):=by omega
 unfold rtQ isqV isqI
 rw[Int.natAbs_natCast]
 by_cases h1:0<=q.num/\rtN q.num.natAbs*rtN q.num.natAbs=q.num.natAbs
 ·by_cases h2:rtN q.den*rtN q.den=q.den
  ·rw[if_pos ⟨h1.1,h1.2,h2⟩,Wc h1,Wc ⟨hd,h2⟩]
   rfl
  ·rw[if_neg (fun h=>h2 h.2.2),Wc h1,We (fun h=>h2 h.2)]
   rfl
 ·rw[if_neg (fun h=>h1 ⟨h.1,h.2.1⟩),We h1]
  rfl
theorem Zhc (q:Rat)(w:World)(hq:M q<=1048576):Calls prog 197 [vQ q].toArray w (Ret (.tuple #[vQ ((rtQ q).getD 0), .bool (rtQ q).isSome]) w):=by
 have p1:mg q.num<=1048576:=Wi (Za7 q) hq
 have p2:mg (q.den:Int)<=1048576:=Wi (ZaQ q) hq
 have hr:=ZpI q
 refine Zb Tryz.func197 rfl Tryz.ntmps197 rfl ?_
 repeat(first|(refine wkB ?_;intros)|(refine wnM ?_ ?_;(focus(first|exact p1|exact p2));intros))
 by_cases h:(isqI q.num&&isqI (q.den:Int))=true
 ·rw[if_pos h] at hr
  obtain⟨h1,h2⟩:=Bool.and_eq_true_iff.1 h
  have e1:isqV q.num=(rtN q.num.natAbs:Nat):=by unfold isqV;rw[h1];rfl
  have e2:isqV (q.den:Int)=(rtN q.den:Nat):=by unfold isqV;rw[h2];rfl
  have p3:isqV (q.den:Int)≠0/\mg (isqV q.num)<=LIM/\mg (isqV (q.den:Int))<=LIM:=by
   rw[e1,e2]
   refine⟨?_, ?_, ?_⟩
   ·have h4:=(Wa h2).2
    rw[Int.natAbs_natCast] at h4
    have:=q.den_pos
    intro h5
    have h6:rtN q.den=0:=by omega
    rw[h6] at h4
    omega
   ·exact Wi (Zc5 (a:=(((rtN q.num.natAbs:Nat):Int)).natAbs) (by rw[Int.natAbs_natCast];exact Zcd _) p1) (by decide)
   ·exact Wi (Zc5 (a:=(((rtN q.den:Nat):Int)).natAbs) (b:=((q.den:Int)).natAbs) (by rw[Int.natAbs_natCast,Int.natAbs_natCast];exact Zcd _) p2) (by decide)
  simp only[h1,h2,Bool.not_true]
  rw[hr]
  repeat(first|(refine wkB ?_;intros)|(refine wnM ?_ ?_;(focus(exact p3));intros))
  exact ZE rfl (Z6 rfl) (Zs rfl) (fun w hw=>ZM hw)
 ·rw[if_neg h] at hr
  rw[hr]
  cases h1:isqI q.num
  ·simp only[Bool.not_false]
   repeat(refine wkB ?_;intros)
   exact ZE rfl (Z6 rfl) (Zs rfl) (fun w hw=>ZM hw)
  ·have h2:isqI (q.den:Int)=false:=by
    rw[h1,Bool.true_and] at h
    exact Bool.eq_false_iff.2 h
   simp only[h2,Bool.not_true,Bool.not_false]
   repeat(refine wkB ?_;intros)
   exact ZE rfl (Z6 rfl) (Zs rfl) (fun w hw=>ZM hw)
instance ZtV (q:Rat):SpecC prog 197 [vQ q] (.tuple #[vQ ((rtQ q).getD 0), .bool (rtQ q).isSome]) (M q<=1048576):=⟨fun hp w=>Zhc q w hp⟩
end
section
instance (priority :=high) ZAB {P:Program}{w0:World}{n:Nat}{L:List Blk}{E:Env}{T T0:TypeId}{x:Operand}{b:Nat}{i:Int}{a1 a2:Sl}[IsC (evl E x) (.pointer (some ⟨b,0+i.toNat*1,none⟩))][h:AtC w0 L b (row eSlc [a1,a2] []) T0][hv:LdC P T (eSlc (gi [a1,a2] i)) 0 (.slice (gi [a1,a2] i).a (gi [a1,a2] i).len (gi [a1,a2] i).cap)]:YsC P w0 n L E (.load T x) (.slice (gi [a1,a2] i).a (gi [a1,a2] i).len (gi [a1,a2] i).cap) (0<=i/\i<2):=⟨fun hi=>Zi3.out (by show i.toNat<2;omega)⟩
theorem Zp5 (x y:Ev):∀w:World,(Instr.buildSlice 213 2 [(0,vEv x),(1,vEv y)].toArray).run prog w= .ok (.slice (some ⟨w.heap.size,0,none⟩) 2 2) (w.alloc (.cells (row eEv [x,y] []) 216)):=fun w=>by kernel_rfl
instance ZAs (x y:Ev):BsC prog 213 2 [(0,vEv x),(1,vEv y)] (row eEv [x,y] []) 216:=⟨Zp5 x y⟩
instance (priority :=high) ZA3 {P:Program}{w0:World}{n:Nat}{L:List Blk}{E:Env}{T T0:TypeId}{x:Operand}{b:Nat}{i a1 a2:Int}[IsC (evl E x) (.pointer (some ⟨b,0+i.toNat*1,none⟩))][h:AtC w0 L b (row (eI .i64) [a1,a2] []) T0][hv:LdC P T (eI .i64 (gi [a1,a2] i)) 0 (.int .i64 (gi [a1,a2] i))]:YsC P w0 n L E (.load T x) (.int .i64 (gi [a1,a2] i)) (0<=i/\i<2):=⟨fun hi=>Zi3.out (by show i.toNat<2;omega)⟩
instance ZzT (x:Ev):LdC prog 3 (eEv x) (10+Int.toNat 0*1) (.int .i64 x.n0):=⟨ZF⟩
instance ZyD (x:Ev):LdC prog 3 (eEv x) (10+Int.toNat 1*1) (.int .i64 x.n1):=⟨ZF⟩
set_option maxHeartbeats 4000000 in
theorem Zj0 (kf:FuncId)(kp:Bool->Bool->Bool)[CallC prog kf](hkp:∀a b,SpecC prog kf [.bool a, .bool b] (.bool (kp a b)) True)(v1 v2:Value)(is js:List Za)(w:World)(hv1:ArgS w v1 rI is)(hv2:ArgS w v2 rI js)(hl:2*is.length+2*js.length<=65536)(hk0:kp false false=false)(ho1:∀i∈is,BdOk (bdF i)/\BdOk (bdL i))(ho2:∀i∈js,BdOk (bdF i)/\BdOk (bdL i)):
  Calls prog 138 [v1,v2,vFn kf].toArray w (RetM (SlS rI 20 (swpR kp is js)) (fun s=>vSl s) (fun s=>mS 37 s) w):=by
 refine Zb Tryz.func138 rfl Tryz.ntmps138 rfl ?_
 obtain⟨p1,c1,rfl⟩:=hv1.form
 obtain⟨p2,c2,rfl⟩:=hv2.form
 repeat(refine wkB ?_;intros)
 rename_i b23
 refine Zq (S:=(ys:List Ev)×Nat×SlS eEv 12 ys) (fun s=>s.1=evK is js s.2.1/\s.2.1<=2) (fun s=>[(2,vFn kf),(7,vSl s.2.2),(23, .slice (some ⟨b23,0,none⟩) 2 2),(24, .int .i64 2),(25, .int .i64 (s.2.1:Nat))])
  (fun s=>mS 216 s.2.2++[⟨b23,row eSlc [⟨p1,is.length,c1⟩,⟨p2,js.length,c2⟩] [],47⟩]) (fun s=>2-s.2.1) ⟨[],0,SlS.no⟩ ⟨rfl,Wm _⟩ sbB slB (fun s hs=>?_)
 obtain⟨ys,k,s⟩:=s
 obtain⟨hys,hk⟩:=hs
 simp only at hys hk s⊢
 have hz:prog.info? 0=prog.info? 0:=rfl
 repeat(refine wkB ?_;intros)
 rcases(by omega:k=0\/k=1\/k=2) with h0|h0|h0
 ·subst h0
  simp only[Wc (show((0:Nat):Int)<2 by omega)]
  repeat(refine wkB ?_;intros)
  simp only[show gi [(⟨p1,is.length,c1⟩:Sl),⟨p2,js.length,c2⟩] ((0:Nat):Int)=⟨p1,is.length,c1⟩ from rfl]
  repeat(refine wkB ?_;intros)
  refine Zq (S:=(zs:List Ev)×Nat×SlS eEv 12 zs) (fun r=>r.1=evA is r.2.1/\r.2.1<=is.length) (fun r=>[(2,vFn kf),(7,vSl r.2.2),(8, .int .i64 0),(23, .slice (some ⟨b23,0,none⟩) 2 2),(24, .int .i64 2),(25, .int .i64 0),(30, .slice p1 is.length c1),(31, .int .i64 is.length),(32, .int .i64 (r.2.1:Nat))])
   (fun r=>mS 216 r.2.2++[⟨b23,row eSlc [⟨p1,is.length,c1⟩,⟨p2,js.length,c2⟩] [],47⟩]) (fun r=>is.length-r.2.1) ⟨ys,0,s⟩ ⟨hys,Wm _⟩ sbB slB (fun r hr=>?_)
  obtain⟨zs,m,r⟩:=r
  obtain⟨hzs,hm⟩:=hr
  simp only at hzs hm r⊢
  repeat(refine wkB ?_;intros)
  refine Zi rfl (fun h=>?_) (fun h=>?_)
  ·have hlt:m<is.length:=by have:=Wa h;omega
   have hne:is≠[]:=fun h0=>by rw[h0] at hlt;simp at hlt
   obtain⟨bw,ow,cw,hvw,hcw,hrow⟩:=hv1.blk (k:=19) hne []
   injection hvw with e1 e2 e3
   subst e1
   subst e3
   have hrow':∀L,RowC w L bw ow Za rI is:=fun L=>⟨fun w' hw'=>hrow.out w' (hw'.sub (Wk _))⟩
   have hel:=Zea is m
   repeat(refine wkB ?_;intros)
   rename_i b11
   obtain⟨iv,hiv⟩:∃iv,iv=gi is (m:Int):=⟨_,rfl⟩
   simp only[<-hiv]
   (refine Zct [0,1,2,3,4,5] [6,7] [8,9] ([⟨b11,Zk (Zl iv),37⟩]) (h:=?_);refine wkI ?_)
   (repeat(refine wkH ?_))
   repeat(refine wkT ?_;intros)
   repeat(refine wkB ?_;intros)
   refine sU rfl rfl ?_ ?_ ?_ ?_
   ·rfl
   ·rfl
   ·exact⟨by decide,by rw[hzs];omega,by rw[hzs];omega⟩
   intro r'
   repeat(first|(refine wkB ?_;intros)|(refine wnM ?_ ?_;(focus(exact⟨by omega,by omega⟩));intros))
   exact Zf ⟨_,m+1,r'⟩ ⟨by show zs++_=evA is m++_;rw[hzs,hiv],hlt⟩ sbB suB (by show is.length-(m+1)<is.length-m;omega)
  ·have hge:m=is.length:=by have:=Wb h;omega
   subst hge
   repeat(refine wkB ?_;intros)
   exact Zf ⟨zs,1,r⟩ ⟨hzs,Nat.le_of_ble_eq_true rfl⟩ sbB suB (by show 2-1<2-0;decide)
 ·subst h0
  simp only[Wc (show((1:Nat):Int)<2 by omega)]
  repeat(refine wkB ?_;intros)
  simp only[show gi [(⟨p1,is.length,c1⟩:Sl),⟨p2,js.length,c2⟩] ((1:Nat):Int)=⟨p2,js.length,c2⟩ from rfl]
  repeat(refine wkB ?_;intros)
  refine Zq (S:=(zs:List Ev)×Nat×SlS eEv 12 zs) (fun r=>r.1=evA is is.length++evB js r.2.1/\r.2.1<=js.length) (fun r=>[(2,vFn kf),(7,vSl r.2.2),(8, .int .i64 1),(23, .slice (some ⟨b23,0,none⟩) 2 2),(24, .int .i64 2),(25, .int .i64 1),(30, .slice p2 js.length c2),(31, .int .i64 js.length),(32, .int .i64 (r.2.1:Nat))])
   (fun r=>mS 216 r.2.2++[⟨b23,row eSlc [⟨p1,is.length,c1⟩,⟨p2,js.length,c2⟩] [],47⟩]) (fun r=>js.length-r.2.1) ⟨ys,0,s⟩ ⟨by rw[evB,Wh];exact hys,Wm _⟩ sbB slB (fun r hr=>?_)
  obtain⟨zs,m,r⟩:=r
  obtain⟨hzs,hm⟩:=hr
  simp only at hzs hm r⊢
  repeat(refine wkB ?_;intros)
  refine Zi rfl (fun h=>?_) (fun h=>?_)
  ·have hlt:m<js.length:=by have:=Wa h;omega
   have hne:js≠[]:=fun h0=>by rw[h0] at hlt;simp at hlt
   obtain⟨bw,ow,cw,hvw,hcw,hrow⟩:=hv2.blk (k:=19) hne []
   injection hvw with e1 e2 e3
   subst e1
   subst e3
   have hrow':∀L,RowC w L bw ow Za rI js:=fun L=>⟨fun w' hw'=>hrow.out w' (hw'.sub (Wk _))⟩
   have hel:=Zft js m
   have hel2:=Zea is is.length
   repeat(refine wkB ?_;intros)
   rename_i b11
   obtain⟨iv,hiv⟩:∃iv,iv=gi js (m:Int):=⟨_,rfl⟩
   simp only[<-hiv]
   (refine Zct [0,1,2,3,4,5] [6,7] [8,9] ([⟨b11,Zk (Zl iv),37⟩]) (h:=?_);refine wkI ?_)
   (repeat(refine wkH ?_))
   repeat(refine wkT ?_;intros)
   repeat(refine wkB ?_;intros)
   refine sU rfl rfl ?_ ?_ ?_ ?_
   ·rfl
   ·rfl
   ·exact⟨by decide,by rw[hzs,Wp];omega,by rw[hzs,Wp];omega⟩
   intro r'
   repeat(first|(refine wkB ?_;intros)|(refine wnM ?_ ?_;(focus(exact⟨by omega,by omega⟩));intros))
   exact Zf ⟨_,m+1,r'⟩ ⟨by show zs++_=evA is is.length++(evB js m++_);rw[hzs,hiv,List.append_assoc],hlt⟩ sbB suB (by show js.length-(m+1)<js.length-m;omega)
  ·have hge:m=js.length:=by have:=Wb h;omega
   subst hge
   repeat(refine wkB ?_;intros)
   exact Zf ⟨zs,2,r⟩ ⟨hzs,Nat.le_of_ble_eq_true rfl⟩ sbB suB (by show 2-2<2-1;decide)
 ·subst h0
  simp only[We (show¬((2:Nat):Int)<2 by omega)]
  have hlen2:ys.length<=65536:=by
   rw[hys]
   show(evA is is.length++evB js js.length).length<=65536
   rw[Wp,Zea,Zft]
   exact hl
  have hbd:∀u∈ys,BdOk u.b:=by
   rw[hys]
   intro u hu
   rcases List.mem_append.1 (show u∈evA is is.length++evB js js.length from hu) with h1|h1
   ·exact Zl2 ho1 _ (Wl _) u h1
   ·exact Zk3 ho2 _ (Wl _) u h1
  repeat(refine wkB ?_;intros)
  refine sZ rfl rfl ?_ ?_
  ·exact⟨by omega,hbd⟩
  intro s'
  obtain⟨⟨es,hso⟩,s3,hv3⟩:=s'
  dsimp only
  dsimp only at s3 hv3
  repeat(refine wkB ?_;intros)
  rename_i b15 b16
  have hzl:ys.length=es.length:=hso.p.length_eq.symm
  have hzb:∀u∈es,BdOk u.b:=fun u hu=>hbd u (hso.p.mem_iff.1 hu)
  have hz1:∀u∈es,Ev1 u:=fun u hu=>by
   have h2:=hso.p.mem_iff.1 hu
   rw[hys] at h2
   rcases List.mem_append.1 (show u∈evA is is.length++evB js js.length from h2) with h3|h3
   ·exact ZoW _ _ u h3
   ·exact ZoS _ _ u h3
  simp only[<-hv3,hzl]
  refine Zq (S:=(q:SwS)×Nat×SlS rI 20 q.out) (fun r=>r.1=sws kp es r.2.1/\r.2.1<=es.length) (fun r=>[(2,vFn kf),(7,vSl s3),(14,vSl r.2.2),(15, .pointer (some ⟨b15,0,none⟩)),(16, .pointer (some ⟨b16,0,none⟩)),(17, .bool r.1.on),(57,vSl s3),(58, .int .i64 es.length),(59, .int .i64 (r.2.1:Nat))])
   (fun r=>mS 37 r.2.2++(⟨b16,ZO (ZP r.1.fr),193⟩::⟨b15,row (eI .i64) [r.1.n0,r.1.n1] [],78⟩::mS 216 s3)) (fun r=>es.length-r.2.1) ⟨sws kp es 0,0,SlS.no⟩ ⟨rfl,Wm _⟩ sbB suB (fun r hr=>?_)
  obtain⟨q,m,r⟩:=r
  obtain⟨hq,hm⟩:=hr
  simp only at hq hm r⊢
  repeat(refine wkB ?_;intros)
  refine Zi rfl (fun h=>?_) (fun h=>?_)
  ·have hlt:m<es.length:=by have:=Wa h;omega
   rcases s3.cases 216 with⟨h0, -, -⟩|⟨bE,cE,spE,hc1,hvE,hmE,hneE⟩
   ·rw[h0] at hlt;simp at hlt
   ·simp only[hvE,hmE]
    obtain⟨w1,w2⟩:=ZjP (kp:=kp) hz1 m (by omega)
    rw[<-hq] at w1 w2
    obtain⟨w3,w4⟩:=hz1 _ (Zy (i:=(m:Int)) (xs:=es) (by omega))
    repeat(refine wkB ?_;intros)
    rename_i b19
    have q0:gi [q.n0,q.n1] 0=q.n0:=rfl
    have q1:gi [q.n0,q.n1] 1=q.n1:=rfl
    refine ZS (S:=Unit) (fun _=>True) (fun _=>[(2,vFn kf),(7, .slice (some ⟨bE,0,none⟩) es.length cE),(14,vSl r),(15, .pointer (some ⟨b15,0,none⟩)),(16, .pointer (some ⟨b16,0,none⟩)),(17, .bool q.on),(18, .int .i64 (m:Nat)),(19, .pointer (some ⟨b19,0,none⟩)),(57, .slice (some ⟨bE,0,none⟩) es.length cE),(58, .int .i64 es.length),(59, .int .i64 (m:Nat))])
     (fun _=>⟨b19,eEv (gi es (m:Int)),216⟩::(mS 37 r++[⟨b16,ZO (ZP q.fr),193⟩,⟨b15,row (eI .i64) [q.n0+(gi es (m:Int)).n0,q.n1+(gi es (m:Int)).n1] [],78⟩,⟨bE,row eEv es spE,216⟩])) ?_ (fun _ _=>?_)
    ·(refine ZG (.v [0,2,3,4,6,8,9,10] (.e2 1 (.v [5] (.e1 7 (.v [11,12] (.e1 13 (.v [14] (.e1 15 (.fin))))))) 7 (.v [11] (.e1 1 (.v [5,12] (.e1 13 (.v [14] (.e1 15 (.fin))))))))) ([⟨b19,eEv (gi es (m:Int)),216⟩]) (h:=?_);refine wkX ?_)
     repeat' (first|(with_reducible refine And.intro ?_ ?_)|(with_reducible exact True.intro)|(refine wkT ?_;intros)|fail)
     all_goals simp only[q0,q1]
     all_goals refine eR rfl ?_ ?_
     all_goals first|exact Nat.le_of_ble_eq_true rfl|skip
     repeat' (first|(with_reducible refine And.intro ?_ ?_)|(with_reducible exact True.intro)|(refine wkT ?_;intros)|fail)
     all_goals refine eR rfl ?_ ?_
     all_goals first|exact Nat.le_of_ble_eq_true rfl|skip
     repeat' (first|(with_reducible refine And.intro ?_ ?_)|(with_reducible exact True.intro)|(refine wkT ?_;intros)|fail)
     all_goals exact Zg () trivial sbB suB
    repeat(refine wkB ?_;intros)
    obtain⟨x,hx⟩:∃x,x=gi es (m:Int):=⟨_,rfl⟩
    obtain⟨nx,hnx⟩:∃nx,nx=gi es ((m+1:Nat):Int):=⟨_,rfl⟩
    obtain⟨N0,hN0⟩:∃N0,N0=q.n0+(gi es (m:Int)).n0:=⟨_,rfl⟩
    obtain⟨N1,hN1⟩:∃N1,N1=q.n1+(gi es (m:Int)).n1:=⟨_,rfl⟩
    simp only[<-hN0,<-hN1]
    have hxo:=hzb _ (Zy (i:=(m:Int)) (xs:=es) (by omega))
    have e1:(m:Int)+1=((m+1:Nat):Int):=by omega
    refine ZS (S:=Bool) (fun v=>v=decide (m+1<es.length/\cmpB x.b nx.b=0)) (fun v=>[(2,vFn kf),(7, .slice (some ⟨bE,0,none⟩) es.length cE),(14,vSl r),(15, .pointer (some ⟨b15,0,none⟩)),(16, .pointer (some ⟨b16,0,none⟩)),(17, .bool q.on),(18, .int .i64 (m:Nat)),(19, .pointer (some ⟨b19,0,none⟩)),(57, .slice (some ⟨bE,0,none⟩) es.length cE),(58, .int .i64 es.length),(59, .int .i64 (m:Nat)),(94, .bool v)])
     (fun _=>⟨b19,eEv (gi es (m:Int)),216⟩::(mS 37 r++[⟨b16,ZO (ZP q.fr),193⟩,⟨b15,row (eI .i64) [N0,N1] [],78⟩,⟨bE,row eEv es spE,216⟩])) ?_ (fun v hv=>?_)
    ·by_cases hml:m+1<es.length
     ·have hno:=hzb _ (Zy (i:=((m+1:Nat):Int)) (xs:=es) (by omega))
      refine jD 17 17 (h:=?_)
      (repeat(refine wkH ?_))
      simp only[Wc (show(m:Int)+1<(es.length:Int) by omega)]
      (repeat(refine wkH ?_))
      simp only[e1]
      (repeat(first|refine wkH ?_|(refine tC rfl rfl ?_ ?_;focus(exact⟨hxo,hno⟩))))
      refine Zo ?_
      refine Zr ?_
      repeat(refine wkB ?_;intros)
      exact Zg (decide (cmpB (gi es (m:Int)).b (gi es ((m+1:Nat):Int)).b=0)) (by rw[hx,hnx];simp[hml]) sbB suB
     ·refine jD 17 17 (h:=?_)
      (repeat(refine wkH ?_))
      simp only[We (show¬(m:Int)+1<(es.length:Int) by omega)]
      (repeat(refine wkH ?_))
      refine Zo ?_
      refine Zr ?_
      repeat(refine wkB ?_;intros)
      exact Zg false (by simp[hml]) sbB suB
    ·have hsw:sws kp es (m+1)=if m+1<es.length/\cmpB x.b nx.b=0 then⟨N0,N1,q.fr,q.on,q.out⟩ else
       ⟨N0,N1,if kp (decide (0<N0)) (decide (0<N1))&& !q.on then x.b else q.fr,kp (decide (0<N0)) (decide (0<N1)),if kp (decide (0<N0)) (decide (0<N1))&& !q.on then q.out else if !kp (decide (0<N0)) (decide (0<N1))&&q.on then q.out++[bdB q.fr x.b] else q.out⟩:=by
      rw[sws,<-hq,<-hx,<-hnx,hN0,hN1,hx]
     by_cases hc:m+1<es.length/\cmpB x.b nx.b=0
     ·rw[if_pos hc] at hsw
      rw[Wc hc] at hv
      subst hv
      repeat(first|(refine wkB ?_;intros)|(refine wnM ?_ ?_;(focus(exact⟨by omega,by omega⟩));intros))
      exact Zf ⟨⟨N0,N1,q.fr,q.on,q.out⟩,m+1,r⟩ ⟨hsw.symm,hlt⟩ sbB suB (by show es.length-(m+1)<es.length-m;omega)
     ·rw[if_neg hc] at hsw
      rw[We hc] at hv
      subst hv
      repeat(first|(refine wkB ?_;intros)|(refine wnM ?_ ?_;(focus(first|exact trivial|exact⟨by omega,by omega⟩));intros))
      obtain⟨nw,hnw⟩:∃nw,nw=kp (decide (0<N0)) (decide (0<N1)):=⟨_,rfl⟩
      simp only[show gi [N0,N1] 0=N0 from rfl,show gi [N0,N1] 1=N1 from rfl,<-hnw]
      rw[<-hnw] at hsw
      have hol:=ZiO kp es m
      rw[<-hq] at hol
      obtain⟨n0',n1',fr,on,out⟩:=q
      simp only at hol
      simp only at hsw r⊢
      rcases nw with _|_ <;> rcases on with _|_
      ·repeat(first|(refine wkB ?_;intros)|(refine wnM ?_ ?_;(focus(exact⟨by omega,by omega⟩));intros))
       exact Zf ⟨⟨N0,N1,fr,false,out⟩,m+1,r⟩ ⟨hsw.symm,hlt⟩ sbB suB (by show es.length-(m+1)<es.length-m;omega)
      ·repeat(first|(refine wkB ?_;intros)|(refine wnM ?_ ?_;(focus(first|exact trivial|exact⟨by omega,by omega⟩));intros))
       rw[<-hx]
       refine sU rfl rfl ?_ ?_ ?_ ?_
       ·rfl
       ·rfl
       ·exact⟨by decide,by omega,by omega⟩
       intro r'
       repeat(first|(refine wkB ?_;intros)|(refine wnM ?_ ?_;(focus(exact⟨by omega,by omega⟩));intros))
       exact Zf ⟨⟨N0,N1,fr,false,out++[bdB fr x.b]⟩,m+1,r'⟩ ⟨hsw.symm,hlt⟩ sbB suB (by show es.length-(m+1)<es.length-m;omega)
      ·repeat(first|(refine wkB ?_;intros)|(refine wnM ?_ ?_;(focus(exact⟨by omega,by omega⟩));intros))
       rw[<-hx]
       exact Zf ⟨⟨N0,N1,x.b,true,out⟩,m+1,r⟩ ⟨hsw.symm,hlt⟩ sbB suB (by show es.length-(m+1)<es.length-m;omega)
      ·repeat(first|(refine wkB ?_;intros)|(refine wnM ?_ ?_;(focus(exact⟨by omega,by omega⟩));intros))
       exact Zf ⟨⟨N0,N1,fr,true,out⟩,m+1,r⟩ ⟨hsw.symm,hlt⟩ sbB suB (by show es.length-(m+1)<es.length-m;omega)
  ·have hge:m=es.length:=by have:=Wb h;omega
   subst hge
   subst hq
   repeat(refine wkB ?_;intros)
   have hfin:swpR kp is js=(sws kp es es.length).out:=by
    have h1:=ZdQ is is.length
    have h2:=ZdQ js js.length
    have h3:evK is js 2=evA is is.length++evB js js.length:=rfl
    unfold swpR
    rw[<-hys]
    refine(ZpW hk0 hso hbd ?_ ?_).symm
    ·rw[hys,h3,ZaO,h1.1.1,h2.2.1];rfl
    ·rw[hys,h3,ZaO,h1.1.2,h2.2.2];rfl
   obtain⟨r2,hr1,hr2⟩:=r.like hfin
   refine ZA (v:=vSl r2) rfl (by rw[hr1];rfl) (fun w hw=>⟨r2,rfl, ?_⟩)
   dsimp only
   rw[hr2]
   exact hw.sub suB
instance Zxn (w0:World)(L:List Blk)(kf:FuncId)(kp:Bool->Bool->Bool)[CallC prog kf][hkp:∀a b,SpecC prog kf [.bool a, .bool b] (.bool (kp a b)) True](v1 v2:Value)(is js:List Za)[h1:LstC w0 L v1 Za rI is][h2:LstC w0 L v2 Za rI js]:SpecR prog w0 L 138 [v1,v2,vFn kf] (SlS rI 20 (swpR kp is js)) (fun s=>vSl s) (fun s=>mS 37 s) (2*is.length+2*js.length<=65536/\kp false false=false/\(∀i∈is,BdOk (bdF i)/\BdOk (bdL i))/\∀i∈js,BdOk (bdF i)/\BdOk (bdL i)):=⟨fun hp w hw=>Zj0 kf kp hkp v1 v2 is js w (h1.out w hw) (h2.out w hw) hp.1 hp.2.1 hp.2.2.1 hp.2.2.2⟩
end
section
instance ZvN (a b:Bool):SpecC prog 195 [.bool a, .bool b] (.bool (kpU a b)) True:=⟨fun _ w=>by
 refine Zb Tryz.func195 rfl Tryz.ntmps195 rfl ?_
 rcases a with _|_
 ·repeat(refine wkB ?_;intros)
  exact rtT rfl rfl
 ·repeat(refine wkB ?_;intros)
  exact rtT rfl rfl⟩
structure SwOk (is js:List Za):Prop where
 l:2*is.length+2*js.length<=65536
 a:∀i∈is,BdOk (bdF i)/\BdOk (bdL i)
 b:∀i∈js,BdOk (bdF i)/\BdOk (bdL i)
theorem Zkx (v1 v2:Value)(is js:List Za)(w:World)(hv1:ArgS w v1 rI is)(hv2:ArgS w v2 rI js)(h:SwOk is js):
  Calls prog 149 [v1,v2].toArray w (RetM (SlS rI 20 (swpR kpU is js)) (fun s=>vSl s) (fun s=>mS 37 s) w):=by
 have:=ArgC.mk hv1
 have:=ArgC.mk hv2
 refine Zb Tryz.func149 rfl Tryz.ntmps149 rfl ?_
 repeat(first|(refine wkB ?_;intros)|(refine wnM ?_ ?_;(focus(exact⟨h.l,rfl,h.a,h.b⟩));intros))
 rename_i s
 exact ZA rfl rfl (fun w hw=>⟨s,rfl,hw.sub suB⟩)
instance Zyk (w0:World)(L:List Blk)(v1 v2:Value)(is js:List Za)[h1:LstC w0 L v1 Za rI is][h2:LstC w0 L v2 Za rI js]:SpecR prog w0 L 149 [v1,v2] (SlS rI 20 (swpR kpU is js)) (fun s=>vSl s) (fun s=>mS 37 s) (SwOk is js):=⟨fun hp w hw=>Zkx v1 v2 is js w (h1.out w hw) (h2.out w hw) hp⟩
theorem ZmG (v1:Value)(is:List Za)(w:World)(hv1:ArgS w v1 rI is)(h:SwOk is []):
  Calls prog 106 [v1].toArray w (RetM (SlS rI 20 (swpR kpU is [])) (fun s=>vSl s) (fun s=>mS 37 s) w):=by
 have:=ArgC.mk hv1
 have hn:∀L,LstC w L (.slice none 0 0) Za rI []:=fun L=>⟨fun _ _=>⟨.inl ⟨rfl,rfl⟩⟩⟩
 refine Zb Tryz.func106 rfl Tryz.ntmps106 rfl ?_
 repeat(first|(refine wkB ?_;intros)|(refine wnM ?_ ?_;(focus(exact h));intros))
 rename_i s
 exact ZA rfl rfl (fun w hw=>⟨s,rfl,hw.sub suB⟩)
instance ZyW (w0:World)(L:List Blk)(v1:Value)(is:List Za)[h1:LstC w0 L v1 Za rI is]:SpecR prog w0 L 106 [v1] (SlS rI 20 (swpR kpU is [])) (fun s=>vSl s) (fun s=>mS 37 s) (SwOk is []):=⟨fun hp w hw=>ZmG v1 is w (h1.out w hw) hp⟩
end
section
def icb (x:ZI):Bool:=if x.Mag=ByteArray.empty then !x.Neg else !decide (x.Mag[0]? =some 0)
theorem Znr {l:List UInt8}(h:l[0]? ≠some 0):Top l.reverse:=by
 intro b hb
 rw[List.getLast?_reverse] at hb
 intro h0
 subst h0
 refine h ?_
 cases l with
 |nil=>cases hb
 |cons x r=>simpa using hb
theorem bget (s:ByteArray)(i:Nat):s[i]? =s.data.toList[i]? :=by
 by_cases h:i<s.size
 ·have h':i<s.data.toList.length:=h
  rw[getElem?_pos s i h,getElem?_pos s.data.toList i h']
  rfl
 ·have h':¬i<s.data.toList.length:=h
  rw[getElem?_neg s i h,getElem?_neg s.data.toList i h']
theorem Zdc {x:ZI}:icb x=true↔∃a:Int,x=I a:=by
 obtain⟨n,s⟩:=x
 unfold icb
 simp only
 constructor
 ·intro h
  have hc:Can s:=by
   split at h
   ·rename_i h0
    subst h0
    exact Zjx 0
   ·rename_i h0
    simp only[Bool.not_eq_true',decide_eq_false_iff_not] at h
    exact Znr (by rw[<-bget];exact h)
  have hm:=Zok hc
  refine⟨if n=true then-(vmag s:Int) else(vmag s:Int), ?_⟩
  unfold I
  cases n
  ·simp only[Bool.false_eq_true,if_false,Int.natAbs_natCast,hm]
   rw[We (by omega)]
  ·simp only[if_true,Int.natAbs_neg,Int.natAbs_natCast,hm]
   congr 1
   have hne:vmag s≠0:=fun h0=>by
    rw[h0] at hm
    split at h
    ·cases h
    ·rename_i h1
     exact h1 (hm.symm.trans ZdF)
   simp
   omega
 ·rintro⟨a,h⟩
  unfold I at h
  injection h with h1 h2
  subst h1
  subst h2
  split
  ·rename_i h0
   have:=Z8.1 h0
   simp
   omega
  ·rename_i h0
   simp only[Bool.not_eq_true',decide_eq_false_iff_not]
   intro h1
   have hc:=Zjx a.natAbs
   rw[bget] at h1
   cases hl:(mag a.natAbs).data.toList with
   |nil=>rw[hl] at h1;cases h1
   |cons y r=>
    rw[hl] at h1
    simp only[List.getElem?_cons_zero,Option.some.injEq] at h1
    unfold Can Top at hc
    rw[hl] at hc
    exact hc y (by simp) h1
theorem ZoJ (a:Int):icb (I a)=true:=Zdc.2 ⟨a,rfl⟩
instance ZtE (x:ZI):SpecC prog 218 [.agg (Zp x)] (.int .i64 (if icb x=true then 0 else 5)) True:=⟨fun _ w=>by
 refine Zb Tryz.func218 rfl Tryz.ntmps218 rfl ?_
 repeat(refine wkB ?_;intros)
 by_cases h:x.Mag=ByteArray.empty
 ·have e:icb x= !x.Neg:=by unfold icb;rw[if_pos h]
  have hd:=Wc (show x.Mag=⟨#[]⟩ from h)
  rw[e]
  simp only[hd]
  repeat(refine wkB ?_;intros)
  rcases hN:x.Neg with _|_
  ·repeat(refine wkB ?_;intros)
   simp only[hd,Bool.not_true]
   repeat(refine wkB ?_;intros)
   exact rtT rfl rfl
  ·repeat(refine wkB ?_;intros)
   exact rtT rfl rfl
 ·have e:icb x= !decide (x.Mag[0]? =some 0):=by unfold icb;rw[if_neg h]
  have hd:=We (show¬x.Mag=⟨#[]⟩ from h)
  rw[e]
  simp only[hd]
  repeat(refine wkB ?_;intros)
  simp only[hd,Bool.not_false]
  repeat(refine wkB ?_;intros)
  obtain⟨u,hu⟩:∃u,x.Mag[0]? =some u:=by
   rw[bget]
   cases hl:x.Mag.data.toList with
   |nil=>
    refine absurd ?_ h
    have h2:x.Mag.data=#[]:=by rw[<-Array.toArray_toList (xs:=x.Mag.data),hl]
    cases hx:x.Mag with
    |mk d=>
     rw[hx] at h2
     simp only at h2
     subst h2
     rfl
   |cons y r=>exact⟨y,rfl⟩
  refine jq (Zbs rfl rfl (by omega) (show x.Mag[(0:Int).toNat]? =some u from hu)) rfl rfl ?_
  repeat(refine wkB ?_;intros)
  have hd:decide (((u.toNat:Nat):Int)=0)=decide (x.Mag[0]? =some 0):=by
   rw[hu,decide_eq_decide]
   simp only[Option.some.injEq]
   constructor
   ·intro h0
    exact UInt8.toNat_inj.1 (by simpa using h0)
   ·intro h0
    subst h0
    rfl
  rw[hd]
  rcases hq:decide (x.Mag[0]? =some 0) with _|_
  ·repeat(refine wkB ?_;intros)
   exact rtT rfl rfl
  ·repeat(refine wkB ?_;intros)
   exact rtT rfl rfl⟩
def rcb (x:ZT):Bool:=icb x.Num&&(icb x.Den&&(decide (x.Den=I 0)||(!decide (Lib.compareInt (ival x.Den) 1<=0)&&decide ((Int.gcd (ival x.Num) (ival x.Den):Int)=1))))
where ival (x:ZI):Int:=if x.Neg=true then-(vmag x.Mag:Int) else vmag x.Mag
theorem Zdn (a:Int):rcb.ival (I a)=a:=by
 unfold rcb.ival I
 simp only[ZbW,decide_eq_true_eq]
 split <;> omega
theorem Zqo {x:ZT}:rcb x=true↔∃q:Rat,x=Q q:=by
 obtain⟨n,d⟩:=x
 unfold rcb
 simp only[Wq,Bool.or_eq_true,Bool.not_eq_true',decide_eq_true_eq,decide_eq_false_iff_not]
 constructor
 ·rintro⟨h1,h2,h3⟩
  obtain⟨a,rfl⟩:=Zdc.1 h1
  obtain⟨b,rfl⟩:=Zdc.1 h2
  rw[Zdn,Zdn,Zca] at h3
  rcases h3 with rfl|⟨h3,h4⟩
  ·exact⟨(a:Rat),(ZoP a)⟩
  ·have hb:1<b:=by
    unfold Lib.compareInt at h3
    split at h3
    ·omega
    ·split at h3 <;> omega
   have hc:Nat.Coprime a.natAbs b.natAbs:=by
    have:Int.gcd a b=1:=by omega
    exact this
   refine⟨⟨a,b.natAbs,by omega,hc⟩, ?_⟩
   unfold Q dn
   simp only
   rw[if_neg (by omega)]
   congr 2
   omega
 ·rintro⟨q,h⟩
  unfold Q at h
  injection h with h1 h2
  subst h1
  subst h2
  refine⟨ZoJ _,ZoJ _, ?_⟩
  rw[Zdn,Zdn,Zca]
  have hp:=q.den_pos
  by_cases hd:q.den=1
  ·exact .inl (ZfL.2 hd)
  ·have e:dn q=q.den:=by unfold dn;rw[if_neg hd]
   refine .inr ⟨?_, ?_⟩
   ·rw[e]
    unfold Lib.compareInt
    rw[if_neg (by omega),if_pos (by omega)]
    omega
   ·rw[e]
    have hc:=q.reduced
    have h0:Int.gcd q.num (q.den:Int)=1:=hc
    omega
theorem Ztz (q:Rat):rcb (Q q)=true:=Zqo.2 ⟨q,rfl⟩
theorem Zrb {n d:ZI}:rcb ⟨n,d⟩=(icb n&&(icb d&&(decide (d=I 0)||(!decide (Lib.compareInt (rcb.ival d) 1<=0)&&decide ((Int.gcd (rcb.ival n) (rcb.ival d):Int)=1))))):=rfl
instance Zkf (x:ZT):SpecC prog 196 [.agg (Zj x)] (.int .i64 (if rcb x=true then 0 else 5)) (x.Num.Mag.size<=LIM/\x.Den.Mag.size<=LIM):=⟨fun hp w=>by
 obtain⟨p1,p2⟩:=hp
 refine Zb Tryz.func196 rfl Tryz.ntmps196 rfl ?_
 repeat(refine wkB ?_;intros)
 rcases hn:icb x.Num with _|_
 ·rw[show rcb x=false by unfold rcb;rw[hn];rfl]
  repeat(refine wkB ?_;intros)
  exact rtT rfl rfl
 repeat(refine wkB ?_;intros)
 rcases hd:icb x.Den with _|_
 ·rw[show rcb x=false by unfold rcb;rw[hn,hd];rfl]
  repeat(refine wkB ?_;intros)
  exact rtT rfl rfl
 obtain⟨a,ha⟩:=Zdc.1 hn
 obtain⟨b,hb⟩:=Zdc.1 hd
 obtain⟨n,d⟩:=x
 simp only at ha hb p1 p2 hn hd⊢
 subst ha
 subst hb
 rw[Zrb,hn,hd,Zdn,Zdn,Bool.true_and,Bool.true_and]
 have hz:decide (I b=I 0)=decide (b=0):=by rw[decide_eq_decide];exact Zca
 rw[hz]
 repeat(refine wkB ?_;intros)
 by_cases hb:b=0
 ·simp only[Wc hb]
  repeat(refine wkB ?_;intros)
  exact rtT rfl rfl
 ·simp only[We hb]
  repeat(refine wkB ?_;intros)
  refine jD 14 14 (h:=?_)
  (repeat(refine wkH ?_))
  rcases hc:decide (Lib.compareInt b 1<=0) with _|_
  ·(repeat(first|refine wkH ?_|(refine tC rfl rfl ?_ ?_;focus(first|exact trivial|exact⟨p1,p2⟩))))
   refine Zo ?_
   refine Zr ?_
   repeat(refine wkB ?_;intros)
   rcases hg:decide (((Int.gcd a b:Nat):Int)=1) with _|_
   ·repeat(refine wkB ?_;intros)
    exact rtT rfl rfl
   ·repeat(refine wkB ?_;intros)
    exact rtT rfl rfl
  ·(repeat(refine wkH ?_))
   refine Zo ?_
   refine Zr ?_
   repeat(refine wkB ?_;intros)
   exact rtT rfl rfl⟩
instance (priority :=high) ZuA (q:Rat):SpecC prog 196 [vQ q] (.int .i64 0) (M q<=LQ):=⟨fun hp w=>by
 have h:=(Zkf (Q q)).out ⟨?_, ?_⟩ w
 ·rw[Ztz] at h
  exact h
 ·have:=Wi (Za7 q) hp
  exact Wi this (by decide)
 ·show(mag (dn q).natAbs).size<=LIM
  have h1:=Wi (ZaQ q) hp
  unfold dn
  split
  ·decide
  ·exact Wi h1 (by decide)⟩
end
end Go.Vt
