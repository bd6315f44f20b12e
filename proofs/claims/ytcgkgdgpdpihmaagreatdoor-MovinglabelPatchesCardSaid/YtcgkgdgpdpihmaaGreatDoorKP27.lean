/- For any two moving labels and any period, Restrict returns the part during the period, and Patch the second one in place of the first one; patching by a part of itself changes nothing. Conditions: none. (part 27 of 30.) Conditions: those that each statement names. -/
import Derived.Test.YtcgkgdgpdpihmaaGreatDoorProg
import Derived.Calls
import Derived.Test.YtcgkgdgpdpihmaaGreatDoorKP9
import Derived.Test.YtcgkgdgpdpihmaaGreatDoorKP11
import Derived.Test.YtcgkgdgpdpihmaaGreatDoorKP15
import Derived.Test.YtcgkgdgpdpihmaaGreatDoorKP20
import Derived.Test.YtcgkgdgpdpihmaaGreatDoorKP23
import Derived.Test.YtcgkgdgpdpihmaaGreatDoorKP24
import Derived.Test.YtcgkgdgpdpihmaaGreatDoorKP26
set_option linter.unusedSimpArgs false
set_option linter.unusedVariables false
set_option maxHeartbeats 2000000
set_option maxRecDepth 100000
namespace Go.Vt
open Go
def rsW {α:Type}:Result α->World
 | .ok _ w=>w
 | .halt _ w=>w
theorem ZkI (w:World)(a:Addr)(v:Value):(w.setCell a v).drawn=w.drawn:=rfl
theorem ZnZ (w:World)(a:Addr)(n:Nat):(w.freeze a n).drawn=w.drawn:=by
 unfold World.freeze
 split <;> rfl
theorem ZpG {α:Type}(a:Ask α)(w:World):w.drawn<=(w.ask a).2.drawn:=by
 induction a generalizing w with
 |done a=>exact Nat.le_refl _
 |ask what range k ih=>
  unfold World.ask
  dsimp only
  split
  ·exact ih _ _
  ·exact Nat.le_trans (Nat.le_succ _) (ih _ {w with drawn:=w.drawn+1})
theorem ZiZ (w:World)(c:Sys):w.drawn<=(w.sys c).2.drawn:=by
 have h:=ZpG (Kernel.perform c w.os) w
 unfold World.sys
 generalize w.ask (Kernel.perform c w.os)=x at*
 obtain⟨⟨r,os⟩,w'⟩:=x
 cases r <;> first|exact h|exact Nat.le_refl _
theorem Ztr {p:Program}{w:World}{b:Addr}{u:TypeId}{k:Addr}{v:Value}{at':Bool}{r:World×List Addr}(h:w.viewStore p b u k v at'= .ok r):r.1.drawn=w.drawn:=by
 unfold World.viewStore at h
 simp only[bind,Except.bind,pure,Except.pure] at h
 repeat' split at h
 all_goals first
  |(injection h with h;subst h;rfl)
  |cases h
theorem Zm7 {p:Program}{w:World}{a:Addr}{v:Value}{at':Bool}{r:World×List Addr}(h:w.farStore p a v at'= .ok r):r.1.drawn=w.drawn:=by
 unfold World.farStore at h
 split at h
 ·split at h
  ·rename_i h1
   injection h with h
   subst h
   exact Ztr h1
  ·cases h
 ·cases h
theorem ZhQ {α:Type}{p:Program}(s:Sem α)(w:World):w.drawn<=(rsW (s.run p w)).drawn:=by
 induction s generalizing w with
 |pure a=>exact Nat.le_refl _
 |halt h=>exact Nat.le_refl _
 |store m a v k ih=>
  have key:∀v:Value,w.drawn<=(rsW (match w.cell? a with
    |some _=>if w.frozen? a then .halt (.unsupported (.unsafePointer "a write to bytes that a string shares")) w else k.run p (w.setCell a v)
    |none=>match w.farStore p a v (m== .atomic) with
     | .ok (w,_)=>k.run p w
     | .error h=> .halt h w)).drawn:=fun v=>by
   split
   ·split
    ·exact Nat.le_refl _
    ·exact Nat.le_trans (Nat.le_of_eq (ZkI w a v).symm) (ih _)
   ·split
    ·rename_i h1
     exact Nat.le_trans (Nat.le_of_eq (Zm7 h1).symm) (ih _)
    ·exact Nat.le_refl _
  cases v <;> first|exact key _|exact Nat.le_refl _
 |load m a k ih=>
  unfold Sem.run
  repeat' split
  all_goals first
   |exact Nat.le_refl _
   |exact ih _ _
 |new o k ih=>exact ih _ {w with heap:=w.heap.push o}
 |shape r k ih=>exact ih _ _
 |freeze a n k ih=>exact Nat.le_trans (Nat.le_of_eq (ZnZ w a n).symm) (ih _)
 |frozen a k ih=>exact ih _ _
 |getObj r k ih=>
  unfold Sem.run
  repeat' split
  all_goals first
   |exact Nat.le_refl _
   |exact ih _ _
 |setObj r o k ih=>
  unfold Sem.run
  repeat' split
  all_goals first
   |exact Nat.le_refl _
   |exact ih {w with heap:=w.heap.setIfInBounds r o}
 |choose q k ih=>
  unfold Sem.run
  split
  ·exact ih _ _
  ·exact Nat.le_trans (Nat.le_succ _) (ih _ {w with drawn:=w.drawn+1})
 |sys c k ih=>exact Nat.le_trans (ZiZ w c) (ih _ _)
 |program k ih=>exact ih _ _
 |mark m k ih=>exact ih _
theorem Zcy {α:Type}{p:Program}(s:Sem α)(w:World)(es:Array Event):w.drawn<=(rsW (s.runT p w es).1).drawn:=by
 induction s generalizing w es with
 |pure a=>exact Nat.le_refl _
 |halt h=>exact Nat.le_refl _
 |store m a v k ih=>
  have key:∀v:Value,w.drawn<=(rsW (match w.cell? a with
    |some _=>
     if w.frozen? a then(.halt (.unsupported (.unsafePointer "a write to bytes that a string shares")) w,es)
     else k.runT p (w.setCell a v) (es.push ⟨.cell a,true,m== .atomic⟩)
    |none=>match w.farStore p a v (m== .atomic) with
     | .ok (w,touched)=>k.runT p w (es++touched.toArray.map (⟨.cell ·,true,m== .atomic⟩))
     | .error h=>(.halt h w,es):Result α×Array Event).1).drawn:=fun v=>by
   split
   ·split
    ·exact Nat.le_refl _
    ·exact Nat.le_trans (Nat.le_of_eq (ZkI w a v).symm) (ih _ _)
   ·split
    ·rename_i h1
     exact Nat.le_trans (Nat.le_of_eq (Zm7 h1).symm) (ih _ _)
    ·exact Nat.le_refl _
  cases v <;> first|exact key _|exact Nat.le_refl _
 |load m a k ih=>
  unfold Sem.runT
  repeat' split
  all_goals first
   |exact Nat.le_refl _
   |exact ih _ _ _
 |new o k ih=>exact ih _ {w with heap:=w.heap.push o} _
 |shape r k ih=>exact ih _ _ _
 |freeze a n k ih=>exact Nat.le_trans (Nat.le_of_eq (ZnZ w a n).symm) (ih _ _)
 |frozen a k ih=>exact ih _ _ _
 |getObj r k ih=>
  unfold Sem.runT
  repeat' split
  all_goals first
   |exact Nat.le_refl _
   |exact ih _ _ _
 |setObj r o k ih=>
  unfold Sem.runT
  repeat' split
  all_goals first
   |exact Nat.le_refl _
   |exact ih {w with heap:=w.heap.setIfInBounds r o} _
 |choose q k ih=>
  unfold Sem.runT
  split
  ·exact ih _ _ _
  ·exact Nat.le_trans (Nat.le_succ _) (ih _ {w with drawn:=w.drawn+1} _)
 |sys c k ih=>exact Nat.le_trans (ZiZ w c) (ih _ _ _)
 |program k ih=>exact ih _ _ _
 |mark m k ih=>exact ih _ _
def GOk (d:Nat):GStep->Prop
 | .go _ w _=>d<=w.drawn
 | .comm _ _ _ _ w _=>d<=w.drawn
 | .spawn _ _ w _=>d<=w.drawn
 | .count _ w _=>d<=w.drawn
 | .timer _ _ w _=>d<=w.drawn
 | .alone _ _ w _=>d<=w.drawn
 | .newcoro _ _ _ w _=>d<=w.drawn
 | .coroswitch _ _ _ w _=>d<=w.drawn
 | .collect _ w _=>d<=w.drawn
 | .watch _ w _=>d<=w.drawn
 | .ended .. =>True
def SOk (d:Nat):Stepped->Prop
 | .next m=>d<=m.world.drawn
 | .ended .. =>True
theorem GOk.after {d:Nat}{es:Array Event}{g:GStep}(h:GOk d g):GOk d (g.after es):=by
 cases g <;> exact h
theorem ZjU {d:Nat}{c:Prop}[Decidable c]{a b:GStep}(ha:GOk d a)(hb:GOk d b):GOk d (if c then a else b):=by
 split
 ·exact ha
 ·exact hb
theorem Zoz {d:Nat}{α:Type}{o:Option α}{a:GStep}{f:α->GStep}(ha:GOk d a)(hf:∀x,GOk d (f x)):GOk d (o.elim a f):=by
 cases o
 ·exact ha
 ·exact hf _
section
variable {p : Program} {d : Nat} {w : World}
theorem ZlG (_:d<=w.drawn)(fd:Nat)(t:ByteArray)(o:Outcome):GOk d (endWith w fd t o):=by
 unfold endWith
 dsimp only
 repeat' split
 all_goals trivial
theorem Ze0 (h:d<=w.drawn)(fr:Frame)(m:String):GOk d (endThrow fr m w):=h
theorem Zdy (h:d<=w.drawn)(fr:Frame)(v:Value):GOk d (endPrinting p fr v w):=by
 unfold endPrinting
 dsimp only
 split
 ·exact h
 ·trivial
theorem ZaL {α:Type}{s:Sem α}{a:α}{w':World}(h:d<=w.drawn)(e:s.run p w= .ok a w'):d<=w'.drawn:=by
 have:=ZhQ (p:=p) s w
 rw[e] at this
 exact Nat.le_trans h this
theorem ZjS {α:Type}{s:Sem α}{es es':Array Event}{r:Result α}(h:d<=w.drawn)(e:s.runT p w es=(r,es')):d<=(rsW r).drawn:=by
 have:=Zcy (p:=p) s w es
 rw[e] at this
 exact Nat.le_trans h this
theorem Zcj {α:Type}{s:Sem α}{es:Array Event}{a:α}{w':World}(h:d<=w.drawn)(e:(s.runT p w es).1= .ok a w'):d<=w'.drawn:=by
 have:=Zcy (p:=p) s w es
 rw[e] at this
 exact Nat.le_trans h this
theorem Zlb {α:Type}{s:Sem α}{es:Array Event}{a:Halt}{w':World}(h:d<=w.drawn)(e:(s.runT p w es).1= .halt a w'):d<=w'.drawn:=by
 have:=Zcy (p:=p) s w es
 rw[e] at this
 exact Nat.le_trans h this
theorem Zp6 (h:d<=w.drawn)(fr:Frame)(l:List ByteArray)(m:String)(b:Bool):GOk d (dieOf fr l m b w):=h
theorem ZeZ (h:d<=w.drawn)(fr:Frame)(cs:List Frame)(dy:Option Dying)(m:String):GOk d (endFatal p fr cs dy m w):=by
 unfold endFatal
 dsimp only
 split
 ·rename_i e
  exact Zp6 (ZaL h e) _ _ _ _
 ·trivial
 ·trivial
theorem ZlU (h:d<=w.drawn)(fr:Frame)(dy:Dying)(f:Fatal):GOk d (writeOn p fr dy f w):=by
 unfold writeOn
 dsimp only
 split
 ·trivial
 ·split
  ·rename_i e
   exact ZjS h e
  ·rename_i e
   exact ZjS h e
  ·trivial
  ·trivial
theorem Zs2 (h:d<=w.drawn)(fr:Frame)(dy:Dying):GOk d (die p fr dy w):=by
 unfold die
 split
 ·exact ZlU h _ _ _
 ·split
  ·split
   ·exact h
   ·exact ZlG h _ _ _
  ·dsimp only
   split
   ·exact h
   ·split
    ·rename_i e
     exact ZaL h e
    ·trivial
   ·refine GOk.after ?_
    split
    ·rename_i e
     exact Zcj h e
    ·rename_i e
     exact Zcj h e
    ·trivial
    ·rename_i e
     exact Zdy (Zlb h e) _ _
    ·trivial
   ·trivial
theorem Zdh (h:d<=w.drawn)(mn:Bool)(fr:Frame)(cs:List Frame)(dy:Option Dying)(v:Value):GOk d (doReturn p mn fr cs dy v w):=by
 unfold doReturn
 dsimp only
 repeat' split
 all_goals first
  |trivial
  |exact h
theorem ZfR (h:d<=w.drawn)(fr:Frame)(cs:List Frame)(dy:Option Dying)(e:Deferred):GOk d (callDeferred p fr cs dy e w):=by
 unfold callDeferred
 refine ZjU trivial ?_
 dsimp only
 refine GOk.after ?_
 have h1:=Nat.le_trans h (Zcy (p:=p) (invoke e.target e.args) w #[])
 generalize ((invoke e.target e.args).runT p w #[]).1=r at*
 repeat' split
 all_goals first
  |trivial
  |exact h1
  |exact ZeZ h1 _ _ _ _
  |exact Ze0 h1 _ _
theorem Zn0 (h:d<=w.drawn)(mn:Bool)(fr:Frame)(cs:List Frame)(dy:Option Dying):GOk d (unwind p mn fr cs dy w):=by
 unfold unwind
 dsimp only
 repeat' first
  |split
  |refine GOk.after ?_
 all_goals first
  |trivial
  |exact h
  |exact ZfR h _ _ _ _
  |exact Zdy h _ _
  |exact Zdh h _ _ _ _ _
  |exact ZaL h (by assumption)
  |exact Zcj h (by assumption)
  |exact Zdh (Zcj h (by assumption)) _ _ _ _ _
theorem ZoP (h:d<=w.drawn)(fr:Frame)(cs:List Frame)(dy:Option Dying)(g:Nat):GOk d (early p fr cs dy g w):=by
 unfold early
 dsimp only
 repeat' split
 all_goals first
  |trivial
  |exact h
  |exact ZaL h (by assumption)
  |(have h2:=ZaL h ‹Sem.run p _ w=Result.ok _ _›;exact h2)
theorem Zfa (h:d<=w.drawn)(ls:Bool)(fr:Frame)(cs:List Frame)(dy:Option Dying)(s:Sem Next):GOk d (stepG.apply p ls fr cs dy s w):=by
 unfold stepG.apply
 dsimp only
 have h1:d<=(rsW (if ls=true then s.runT p w #[] else(s.run p w,#[])).1).drawn:=by
  split
  ·exact Nat.le_trans h (Zcy s w #[])
  ·exact Nat.le_trans h (ZhQ s w)
 generalize (if ls=true then s.runT p w #[] else(s.run p w,#[]))=x at*
 obtain⟨r,es⟩:=x
 dsimp only at h1⊢
 refine GOk.after ?_
 repeat' split
 all_goals first
  |trivial
  |exact h1
  |exact ZeZ h1 _ _ _ _
  |exact Ze0 h1 _ _
  |exact ZoP h1 _ _ _ _
theorem Zrr (h:d<=w.drawn)(ls:Bool)(fr:Frame)(cs:List Frame)(dy:Option Dying):GOk d (stepG.oper p ls fr cs dy w):=by
 unfold stepG.oper
 repeat' split
 all_goals first
  |trivial
  |exact Zfa h _ _ _ _ _
theorem Zsz (h:d<=w.drawn)(mn ls:Bool)(fr:Frame)(cs:List Frame)(dy:Option Dying):GOk d (stepG.exec p mn ls fr cs dy w):=by
 unfold stepG.exec
 dsimp only
 split
 all_goals repeat' first
  |exact h
  |trivial
  |exact Zfa h _ _ _ _ _
  |exact Zrr h _ _ _ _
  |exact ZaL h (by assumption)
  |exact Zcj h (by assumption)
  |exact Zdh (Zcj h (by assumption)) _ _ _ _ _
  |exact Zfa (Zcj h (by assumption)) _ _ _ _ _
  |exact Zlb h (by assumption)
  |split
  |refine GOk.after ?_
  |refine Zoz ?_ fun _=>?_
  |refine ZjU ?_ ?_
theorem Zps (h:d<=w.drawn)(mn:Bool)(g:Goroutine)(ls:Bool):GOk d (stepG p mn g w ls):=by
 unfold stepG
 dsimp only
 split
 ·exact Zs2 h _ _
 ·exact Zsz h _ _ _ _ _
 ·exact Zn0 h _ _ _ _
theorem ZsH (h:d<=w.drawn){rest:Rest}{cs:Array CommCase}{w':World}(e:waitingAt rest cs w=some w'):d<=w'.drawn:=by
 unfold waitingAt at e
 split at e
 ·split at e
  ·injection e with e
   subst e
   exact h
  ·cases e
 ·injection e with e
  subst e
  exact h
theorem ZrK (h:d<=w.drawn)(rest:Rest)(gs:Array Goroutine)(i:Nat)(g:Goroutine)(cases:Array CommCase)(bl:Bool)(sh:CommShape):SOk d (communicate p rest gs i g cases bl sh w).1:=by
 unfold communicate
 dsimp only
 repeat' first
  |exact h
  |trivial
  |exact ZsH h (by assumption)
  |(have h2:=ZaL h ‹Sem.run p _ w=Result.ok _ _›;exact h2)
  |(have h2:=ZaL h ‹Sem.run p _ w=Result.ok _ _›;have h3:=ZaL h2 (by assumption);exact h3)
  |split
theorem Zj1 (h:d<=w.drawn)(gs:Array Goroutine)(rest:Rest):SOk d (Go.look p gs rest w):=by
 unfold Go.look
 dsimp only
 repeat' first
  |exact h
  |trivial
  |(have h2:=ZaL h ‹Sem.run p _ w=Result.ok _ _›;exact h2)
  |split
theorem Zpa (w:World)(c:Nat):(drain w c).2.drawn=w.drawn:=by
 unfold drain
 split <;> rfl
theorem Zha (m:Machine)(k:Nat)(t:Timer)(a b:Nat):(retime m k t a b).2.world.drawn=m.world.drawn:=by
 unfold retime
 dsimp only
 split
 ·exact Zpa _ _
 ·rfl
theorem Znf {m m':Machine}{v:Addr}(e:timerOp.opened m v=some m'):m'.world.drawn=m.world.drawn:=by
 unfold timerOp.opened at e
 split at e
 ·split at e
  ·injection e with e
   subst e
   rfl
  ·cases e
 ·injection e with e
  subst e
  rfl
theorem Zp0 {m:Machine}{o:TimerOp}{r:Value×Machine}(e:timerOp m o= .ok r):r.2.world.drawn=m.world.drawn:=by
 unfold timerOp timerOp.named at e
 dsimp only at e
 repeat' split at e
 all_goals first
  |(injection e with e;subst e;rfl)
  |(injection e with e;subst e;exact Zha _ _ _ _ _)
  |(injection e with e;subst e;exact(Zha _ _ _ _ _).trans (Znf (by assumption)))
  |cases e
theorem ZrR (m:Machine)(h:d<=m.world.drawn)(i:Nat)(ls:Bool):SOk d (runT p m i ls).1:=by
 unfold runT
 dsimp only
 have h1:=Zps (p:=p) h (i==0) (m.gs.swapAt! i {(default:Goroutine) with status:= .finished}).1 ls
 generalize stepG p (i==0) (m.gs.swapAt! i {(default:Goroutine) with status:= .finished}).1 m.world ls=s at*
 repeat' first
  |exact h1
  |trivial
  |exact ZrK h1 _ _ _ _ _ _ _
  |exact Zj1 h1 _ _
  |exact Nat.le_trans h1 (Nat.le_of_eq (Zp0 (by assumption)).symm)
  |split
theorem ZpI (m:Machine)(h:d<=m.world.drawn)(k:Nat):SOk d (serve p m k):=by
 unfold serve
 dsimp only
 repeat' first
  |exact h
  |trivial
  |split
def VOk (d:Nat):Move->Prop
 | .goroutine m _=>d<=m.world.drawn
 | .machine s _=>SOk d s
theorem Zfd (m:Machine)(h:d<=m.world.drawn):VOk d (askOn p m):=by
 unfold askOn
 dsimp only
 repeat' first
  |exact h
  |trivial
  |exact ZpI _ (ZaL h (by assumption)) _
  |split
 all_goals dsimp only[VOk,SOk,Machine.advanceTo]
 all_goals repeat' first
  |exact h
  |refine ZaL ?_ (by assumption)
  |dsimp only[Machine.advanceTo]
theorem Zra (m:Machine)(h:d<=m.world.drawn):VOk d (ask p m):=by
 unfold ask
 have key:∀w':World,d<=w'.drawn->VOk d (match Go.look p m.gs m.rest w' with
   | .next m=>askOn p m
   |e=> .machine e):=fun w' h'=>by
  have h1:=Zj1 (p:=p) h' m.gs m.rest
  generalize Go.look p m.gs m.rest w'=s at*
  cases s
  ·exact Zfd _ h1
  ·trivial
 repeat' first
  |trivial
  |exact key _ (ZaL h (by assumption))
  |exact Zfd _ h
  |exact Zfd {m with world:=_} (ZaL h (by assumption))
  |split
theorem Zrf (m:Machine)(h:d<=m.world.drawn):VOk d (move p m):=by
 unfold move
 repeat' first
  |exact h
  |trivial
  |exact Zra _ h
  |split
theorem ZrE {m m':Machine}(e:step p m= .next m'):m.world.drawn<=m'.world.drawn:=by
 have h:SOk m.world.drawn (step p m):=by
  unfold step stepT
  have h1:=Zrf (p:=p) m (Nat.le_refl _)
  generalize move p m=v at*
  cases v
  ·exact ZrR _ h1 _ _
  ·exact h1
 rw[e] at h
 exact h
theorem Zgs :∀(n:Nat) {m m':Machine},runN p n m= .next m'->m.world.drawn<=m'.world.drawn
 |0,m,m',e=>by
  injection e with e
  subst e
  exact Nat.le_refl _
 |n+1,m,m',e=>by
  unfold runN at e
  split at e
  ·exact Nat.le_trans (ZrE (by assumption)) (Zgs n e)
  ·cases hs:step p m with
   |next m1=>rename_i h1;exact absurd hs (h1 m1)
   |ended o w=>rw[hs] at e;cases e
theorem Zlw {f:FuncId}{args:Array Value}{w:World}{R:Ending->World->Prop}(hc:Calls p f args w R):Calls p f args w fun e w'=>R e w'/\(e≠ .outgrown->w.drawn<=w'.drawn):=fun cs=>by
 obtain⟨e,w',fr,h1,h2,h3,h4⟩:=hc cs
 refine⟨e,w',fr,⟨h1,fun hn=>?_⟩,h2,h3,h4⟩
 cases e with
 |returned v=>obtain⟨n,hn⟩:=h2;exact Zgs n hn
 |panicked c=>obtain⟨n,hn⟩:=h2;exact Zgs n hn
 |outgrown=>exact absurd rfl hn
end
end Go.Vt
namespace Go.Vt
open Go.RowKit Go.Proofs
open Go.Proofs.Tryz (prog)
section
instance Zyn :CallC prog 252:=⟨by kernel_rfl⟩
instance Zxy :CallC prog 251:=⟨by kernel_rfl⟩
theorem Zqt (c:Nat):Lib.repeatL [0] c=List.replicate c 0:=by
 have:=Lib.repeatL_replicate 0 1 c
 rw[Nat.mul_one] at this
 exact this
instance ZCN (c:Nat):SpecC prog 252 [.string ⟨#[0]⟩, .int .i64 (c:Nat)] (.string ⟨(List.replicate c 0).toArray⟩) (c<=1048576):=⟨fun hp w=>(Zlw (Zi5 ⟨#[0]⟩ c w (by omega) (by show 1*c<=_;omega))).mono fun e w' ⟨⟨h1,h2⟩,h3⟩=>by
 subst h1
 refine⟨?_,h2,h3 (by intro h;cases h)⟩
 rw[<-Zqt]⟩
instance ZBf (n:Nat):SpecC prog 251 [.int .u8 (n:Nat)] (.int .i64 (Lib.bitLen n)) (n<=255):=⟨fun hp w=>(Tryz.bits_Len8 (n:Nat) w (by omega) (by omega)).mono fun e w' ⟨h1,h2⟩=>by subst h2;exact⟨h1,Ext.refl _⟩⟩
theorem sh8f :∀r:Fin 8,IntKind.u8.wrap (1*2 ^ r.val)=(((UInt8.ofNat (2 ^ r.val)).toNat:Nat):Int):=by decide+kernel
theorem sh8 (k:Nat):IntKind.u8.wrap (1*2 ^ ((k:Int) % 8).toNat)=(((UInt8.ofNat (2 ^ (k % 8))).toNat:Nat):Int):=by
 rw[show((k:Int) % 8).toNat=k % 8 by omega]
 exact sh8f ⟨k % 8,Nat.mod_lt _ (by decide)⟩
theorem ZnU {P:Program}{w0:World}{n:Nat}{L:List Blk}{E:Env}{T T' ty:TypeId}{x y:Operand}{d:Option Tmp}{pos:String}{aft:Array Edge}{gd:Option (Nat×Bool)}{a b:List UInt8}(hx:Env.ev E x=some (.string ⟨a.toArray⟩))(hy:Env.ev E y=some (.string ⟨b.toArray⟩))(ha:(a.length:Int)<=8388608)(hb:(b.length:Int)<=8388608):Yl P w0 n L E ⟨d, .binOp .add T x y T',ty,pos,aft,gd⟩ (.string ⟨(a++b).toArray⟩):=
 ZdD hx hy (fun w=>by rw[eqGuard_at_string];rfl) (fun w=>by rw[binOp_string_add];exact run_string_add_lists w a b ha hb)
theorem Zdp {a b N:Nat}(h:a<=b)(hb:(mag b).size<=N):(mag a).size<=N:=Z1.2 (Nat.lt_of_le_of_lt h (Z1.1 hb))
theorem Zrj {a x N:Nat}(ha:(mag a).size<=N)(hx:(mag x).size<=N):(mag (x+a / x)).size<=N+1:=by
 refine Z1.2 ?_
 have h1:=Z1.1 hx
 have h2:=Nat.lt_of_le_of_lt (Nat.div_le_self a x) (Z1.1 ha)
 rw[Nat.pow_succ]
 omega
theorem Zku :mag 2=⟨#[2]⟩:=by decide+kernel
instance ZBu (a:Nat):SpecC prog 223 [.string (mag a), .string ⟨#[2]⟩] (.tuple #[.string (mag (a / 2)), .string (mag (a % 2))]) ((mag a).size<=LIM):=⟨fun h w=>by
 rw[<-Zku]
 exact(Zub a 2).out ⟨by decide,h,by rw[Zku];decide⟩ w⟩
set_option maxHeartbeats 4000000 in
theorem Zm4 (a:Nat)(ha:(mag a).size<=1048576)(w:World):Calls prog 239 [.string (mag a)].toArray w (Ret (.string (mag (rtN a))) w):=by
 refine Zb Tryz.func239 rfl Tryz.ntmps239 rfl ?_
 repeat(refine wkB ?_;intros)
 by_cases h0:a=0
 ·subst h0
  simp only[Wc (show mag 0=⟨#[]⟩ from rfl)]
  repeat(refine wkB ?_;intros)
  exact rtT rfl rfl
 have hne:mag a≠⟨#[]⟩:=fun e=>h0 (Zad.1 (show mag a=ByteArray.empty from e))
 simp only[We hne]
 have hsz:0<(mag a).size:=Nat.pos_of_ne_zero fun h=>hne (by
  generalize mag a=m at*
  obtain⟨⟨l⟩⟩:=m
  cases l with
  |nil=>rfl
  |cons x l=>simp[ByteArray.size] at h)
 obtain⟨t,ht⟩:∃t,(mag a)[(0:Int).toNat]? =some t:=⟨(mag a)[0],by simp[hsz]⟩
 obtain⟨hb1,hb8,hbt⟩:=ZlD ht
 have htl:=UInt8.toNat_lt t
 repeat(refine wkB ?_;intros)
 refine Go.Vt.jq (ZbB rfl rfl (by decide) ht) rfl rfl ?_
 repeat(first|(refine wkB ?_;intros)|(refine wnM ?_ ?_;(focus(exact(show t.toNat<=255 by omega)));intros))
 generalize hK:(8*((((mag a).size:Nat):Int)-1)+((Lib.bitLen t.toNat:Nat):Int)+1) / 2=K
 obtain⟨k,rfl⟩:∃k:Nat,K=(k:Nat):=Int.eq_ofNat_of_zero_le (by omega)
 have hk1:isq a<2 ^ k:=Ztb hbt (by omega)
 have hk2:k<=4194312:=by omega
 clear hK hbt
 refine ZY (S:=Unit) (fun _=>True) (fun _=>[(0, .string (mag a)),(4, .string (mag (2 ^ k)))]) (fun _=>[]) ?_ (fun _ _=>?_)
 ·(refine ZE (.v [0,1,2,5,6,7] (.e1 3 (.e1 4 (.v [8] (.e1 9 (.fin)))))) (([]:List Blk)) (h:=?_);refine wkX ?_)
  (repeat(refine wkH ?_))
  refine Go.Vt.hq (Zcw rfl rfl ⟨by omega,by simp only[IntKind.bits];omega⟩) rfl rfl ?_
  rw[sh8 k]
  (repeat(refine wkH ?_))
  rw[show(k:Int) / 8=((k / 8:Nat):Int) by omega]
  (repeat(first|refine wkH ?_|(refine tC rfl rfl ?_ ?_;focus(exact(show k / 8<=1048576 by omega)))))
  repeat(refine wkT ?_;intros)
  refine eV (Zbu (bs:=[UInt8.ofNat (2 ^ (k % 8))]) rfl rfl (fun i u hi=>?_)) rfl rfl ?_ ?_
  ·rcases i with _|i
   ·injection hi with hi
    subst hi
    rfl
   ·cases hi
  ·exact Wk _
  repeat(refine wkT ?_;intros)
  refine Go.Vt.hq (ZnU (a:=[UInt8.ofNat (2 ^ (k % 8))]) (b:=List.replicate (k / 8) 0) rfl rfl (by simp) (by rw[List.length_replicate];omega)) rfl rfl ?_
  repeat(refine wkT ?_;intros)
  have hmp:=ZkB k
  exact Ze () trivial (by rw[hmp];exact sbB) suB
 have hpos:0<isq a:=by
  rcases Nat.eq_zero_or_pos (isq a) with h|h
  ·have:=(Zck a).2
   rw[h] at this
   omega
  ·exact h
 have hpk:(mag (2 ^ k)).size<=1048576:=by
  rw[ZkB]
  simp only[ByteArray.size,List.size_toArray,Wu,List.length_replicate]
  omega
 have hsz2:∀x,x<=2 ^ k->(mag x).size<=1048576:=fun x hx=>Zdp hx hpk
 repeat(refine wkB ?_;intros)
 refine Zo (S:=Nat) (fun x=>isq a<=x/\x<=2 ^ k) (fun x=>[(0, .string (mag a)),(4, .string (mag x))]) (fun _=>[]) (fun x=>x) (2 ^ k) ⟨by omega,Wl _⟩ sbB suB (fun x hx=>?_)
 try dsimp only at hx⊢
 have hx0:x≠0:=by omega
 have hsx:=hsz2 x hx.2
 have hp1:x≠0/\(mag a).size<=LIM/\(mag x).size<=LIM:=⟨hx0,Wi ha (by decide),Wi hsx (by decide)⟩
 have hq:(mag (a / x)).size<=LIM:=Wi (Zdp (Nat.div_le_self a x) ha) (by decide)
 have hp2:(mag x).size<=LIM/\(mag (a / x)).size<=LIM:=⟨hp1.2.2,hq⟩
 have hp3:(mag (x+a / x)).size<=LIM:=Wi (Zrj ha hsx) (by decide)
 repeat(first|(refine wkB ?_;intros)|(refine wnM ?_ ?_;(focus(first|exact hp1|exact hp2|exact hp3));intros))
 refine Zk rfl (fun h=>?_) (fun h=>?_)
 ·have hle:x<=nwS a x:=by
   have:=Zew.1 (Wa h)
   unfold nwS
   omega
  have hxe:=Zrx (Zck a).1 (Zck a).2 hx.1 (by omega) hle
  rw[hxe,Zs3]
  repeat(refine wkB ?_;intros)
  exact rtT rfl rfl
 ·have hlt:(x+a / x) / 2<x:=by
   rcases Nat.lt_or_ge ((x+a / x) / 2) x with h1|h1
   ·exact h1
   ·exact absurd (Zew.2 (by omega)) (Wb h)
  have hlo:isq a<=(x+a / x) / 2:=ZtT (by omega) (Zck a).1
  repeat(refine wkB ?_;intros)
  exact Zc ((x+a / x) / 2) ⟨hlo,Wi (Nat.le_of_lt hlt) hx.2⟩ sbB suB hlt
instance ZBp (a:Nat):SpecC prog 239 [.string (mag a)] (.string (mag (rtN a))) ((mag a).size<=1048576):=⟨fun hp w=>Zm4 a hp w⟩
def isqI (a:Int):Bool:=decide (0<=a/\rtN a.natAbs*rtN a.natAbs=a.natAbs)
def isqV (a:Int):Int:=if isqI a then(rtN a.natAbs:Nat) else 0
theorem ZtP (a:Int)(w:World)(ha:mg a<=1048576):Calls prog 219 [vI a].toArray w (Ret (.tuple #[vI (isqV a), .bool (isqI a)]) w):=by
 have p1:(mag a.natAbs).size<=1048576:=ha
 have p2:(mag (rtN a.natAbs)).size<=LIM/\(mag (rtN a.natAbs)).size<=LIM:=⟨Wi (Zdp (Zcr _) ha) (by decide),Wi (Zdp (Zcr _) ha) (by decide)⟩
 refine Zb Tryz.func219 rfl Tryz.ntmps219 rfl ?_
 repeat(refine wkB ?_;intros)
 refine Zk rfl (fun h=>?_) (fun h=>?_)
 ·have hn:¬0<=a:=by have:=Wa h;omega
  have e1:isqI a=false:=We fun k=>hn k.1
  have e2:isqV a=0:=by unfold isqV;rw[e1];rfl
  rw[e1,e2]
  repeat(refine wkB ?_;intros)
  exact ZC rfl (ZZ rfl) (Zs rfl) (fun w hw=>ZG hw)
 ·have hn:0<=a:=by have:=Wb h;omega
  repeat(first|(refine wkB ?_;intros)|(refine wnM ?_ ?_;(focus(exact p1));intros))
  (refine jD 6 6 (h:=?_);(repeat(first|refine wkH ?_|(refine tC rfl rfl ?_ ?_;focus(exact p2))));refine Zp ?_;(repeat(refine Z3 ?_;intro _));refine Zq ?_)
  repeat(refine wkB ?_;intros)
  refine Zk rfl (fun h2=>?_) (fun h2=>?_)
  ·have e1:isqI a=false:=by
    refine We fun k=>?_
    rw[k.2] at h2
    simp at h2
   have e2:isqV a=0:=by unfold isqV;rw[e1];rfl
   rw[e1,e2]
   repeat(refine wkB ?_;intros)
   exact ZC rfl (ZZ rfl) (Zs rfl) (fun w hw=>ZG hw)
  ·have hs:rtN a.natAbs*rtN a.natAbs=a.natAbs:=by
    have h3:mag (rtN a.natAbs*rtN a.natAbs)=mag a.natAbs:=by simpa using h2
    exact Zey.1 h3
   have e1:isqI a=true:=Wc ⟨hn,hs⟩
   have e2:isqV a=sg false (rtN a.natAbs):=by unfold isqV;rw[e1];rfl
   rw[e1,e2]
   repeat(refine wkB ?_;intros)
   exact ZC rfl (ZZ rfl) (Zs rfl) (fun w hw=>ZG hw)
instance ZBZ (a:Int):SpecC prog 219 [vI a] (.tuple #[vI (isqV a), .bool (isqI a)]) (mg a<=1048576):=⟨fun hp w=>ZtP a w hp⟩
theorem Zsh (q:Rat):rtQ q=if isqI q.num&&isqI (q.den:Int) then some (Rat.divInt (isqV q.num) (isqV (q.den:Int))) else none:=by
 have hd:(0:Int)<=(q.den:Int):=by omega
 unfold rtQ isqV isqI
 rw[Int.natAbs_natCast]
 by_cases h1:0<=q.num/\rtN q.num.natAbs*rtN q.num.natAbs=q.num.natAbs
 ·by_cases h2:rtN q.den*rtN q.den=q.den
  ·rw[if_pos ⟨h1.1,h1.2,h2⟩,Wc h1,Wc ⟨hd,h2⟩]
   rfl
  ·rw[if_neg (fun h=>h2 h.2.2),Wc h1,We (fun h=>h2 h.2)]
   rfl
 ·rw[if_neg (fun h=>h1 ⟨h.1,h.2.1⟩),We h1]
  rfl
theorem ZiR (q:Rat)(w:World)(hq:M q<=1048576):Calls prog 197 [vQ q].toArray w (Ret (.tuple #[vQ ((rtQ q).getD 0), .bool (rtQ q).isSome]) w):=by
 have p1:mg q.num<=1048576:=Wi (Zbh q) hq
 have p2:mg (q.den:Int)<=1048576:=Wi (ZaV q) hq
 have hr:=Zsh q
 refine Zb Tryz.func197 rfl Tryz.ntmps197 rfl ?_
 repeat(first|(refine wkB ?_;intros)|(refine wnM ?_ ?_;(focus(first|exact p1|exact p2));intros))
 by_cases h:(isqI q.num&&isqI (q.den:Int))=true
 ·rw[if_pos h] at hr
  obtain⟨h1,h2⟩:=Bool.and_eq_true_iff.1 h
  have e1:isqV q.num=(rtN q.num.natAbs:Nat):=by unfold isqV;rw[h1];rfl
  have e2:isqV (q.den:Int)=(rtN q.den:Nat):=by unfold isqV;rw[h2];rfl
  have p3:isqV (q.den:Int)≠0/\mg (isqV q.num)<=LIM/\mg (isqV (q.den:Int))<=LIM:=by
   rw[e1,e2]
   refine⟨?_, ?_, ?_⟩
   ·have h4:=(Wa h2).2
    rw[Int.natAbs_natCast] at h4
    have:=q.den_pos
    intro h5
    have h6:rtN q.den=0:=by omega
    rw[h6] at h4
    omega
   ·exact Wi (Zdp (a:=(((rtN q.num.natAbs:Nat):Int)).natAbs) (by rw[Int.natAbs_natCast];exact Zcr _) p1) (by decide)
   ·exact Wi (Zdp (a:=(((rtN q.den:Nat):Int)).natAbs) (b:=((q.den:Int)).natAbs) (by rw[Int.natAbs_natCast,Int.natAbs_natCast];exact Zcr _) p2) (by decide)
  simp only[h1,h2,Bool.not_true]
  rw[hr]
  repeat(first|(refine wkB ?_;intros)|(refine wnM ?_ ?_;(focus(exact p3));intros))
  exact ZC rfl (ZZ rfl) (Zs rfl) (fun w hw=>ZG hw)
 ·rw[if_neg h] at hr
  rw[hr]
  cases h1:isqI q.num
  ·simp only[Bool.not_false]
   repeat(refine wkB ?_;intros)
   exact ZC rfl (ZZ rfl) (Zs rfl) (fun w hw=>ZG hw)
  ·have h2:isqI (q.den:Int)=false:=by
    rw[h1,Bool.true_and] at h
    exact Bool.eq_false_iff.2 h
   simp only[h2,Bool.not_true,Bool.not_false]
   repeat(refine wkB ?_;intros)
   exact ZC rfl (ZZ rfl) (Zs rfl) (fun w hw=>ZG hw)
instance Zve (q:Rat):SpecC prog 197 [vQ q] (.tuple #[vQ ((rtQ q).getD 0), .bool (rtQ q).isSome]) (M q<=1048576):=⟨fun hp w=>ZiR q w hp⟩
end
section
def icb (x:ZQ):Bool:=if x.Mag=ByteArray.empty then !x.Neg else !decide (x.Mag[0]? =some 0)
theorem ZoW {l:List UInt8}(h:l[0]? ≠some 0):Top l.reverse:=by
 intro b hb
 rw[List.getLast?_reverse] at hb
 intro h0
 subst h0
 refine h ?_
 cases l with
 |nil=>cases hb
 |cons x r=>simpa using hb
theorem bget (s:ByteArray)(i:Nat):s[i]? =s.data.toList[i]? :=by
 by_cases h:i<s.size
 ·have h':i<s.data.toList.length:=h
  rw[getElem?_pos s i h,getElem?_pos s.data.toList i h']
  rfl
 ·have h':¬i<s.data.toList.length:=h
  rw[getElem?_neg s i h,getElem?_neg s.data.toList i h']
theorem Zdo {x:ZQ}:icb x=true↔∃a:Int,x=I a:=by
 obtain⟨n,s⟩:=x
 unfold icb
 simp only
 constructor
 ·intro h
  have hc:Can s:=by
   split at h
   ·rename_i h0
    subst h0
    exact Zkd 0
   ·rename_i h0
    simp only[Bool.not_eq_true',decide_eq_false_iff_not] at h
    exact ZoW (by rw[<-bget];exact h)
  have hm:=ZpY hc
  refine⟨if n=true then-(vmag s:Int) else(vmag s:Int), ?_⟩
  unfold I
  cases n
  ·simp only[Bool.false_eq_true,if_false,Int.natAbs_natCast,hm]
   rw[We (by omega)]
  ·simp only[if_true,Int.natAbs_neg,Int.natAbs_natCast,hm]
   congr 1
   have hne:vmag s≠0:=fun h0=>by
    rw[h0] at hm
    split at h
    ·cases h
    ·rename_i h1
     exact h1 (hm.symm.trans Zd2)
   simp
   omega
 ·rintro⟨a,h⟩
  unfold I at h
  injection h with h1 h2
  subst h1
  subst h2
  split
  ·rename_i h0
   have:=Zad.1 h0
   simp
   omega
  ·rename_i h0
   simp only[Bool.not_eq_true',decide_eq_false_iff_not]
   intro h1
   have hc:=Zkd a.natAbs
   rw[bget] at h1
   cases hl:(mag a.natAbs).data.toList with
   |nil=>rw[hl] at h1;cases h1
   |cons y r=>
    rw[hl] at h1
    simp only[List.getElem?_cons_zero,Option.some.injEq] at h1
    unfold Can Top at hc
    rw[hl] at hc
    exact hc y (by simp) h1
theorem Zqv (a:Int):icb (I a)=true:=Zdo.2 ⟨a,rfl⟩
instance ZwJ (x:ZQ):SpecC prog 218 [.agg (Zv x)] (.int .i64 (if icb x=true then 0 else 5)) True:=⟨fun _ w=>by
 refine Zb Tryz.func218 rfl Tryz.ntmps218 rfl ?_
 repeat(refine wkB ?_;intros)
 by_cases h:x.Mag=ByteArray.empty
 ·have e:icb x= !x.Neg:=by unfold icb;rw[if_pos h]
  have hd:=Wc (show x.Mag=⟨#[]⟩ from h)
  rw[e]
  simp only[hd]
  repeat(refine wkB ?_;intros)
  rcases hN:x.Neg with _|_
  ·repeat(refine wkB ?_;intros)
   simp only[hd,Bool.not_true]
   repeat(refine wkB ?_;intros)
   exact rtT rfl rfl
  ·repeat(refine wkB ?_;intros)
   exact rtT rfl rfl
 ·have e:icb x= !decide (x.Mag[0]? =some 0):=by unfold icb;rw[if_neg h]
  have hd:=We (show¬x.Mag=⟨#[]⟩ from h)
  rw[e]
  simp only[hd]
  repeat(refine wkB ?_;intros)
  simp only[hd,Bool.not_false]
  repeat(refine wkB ?_;intros)
  obtain⟨u,hu⟩:∃u,x.Mag[0]? =some u:=by
   rw[bget]
   cases hl:x.Mag.data.toList with
   |nil=>
    refine absurd ?_ h
    have h2:x.Mag.data=#[]:=by rw[<-Array.toArray_toList (xs:=x.Mag.data),hl]
    cases hx:x.Mag with
    |mk d=>
     rw[hx] at h2
     simp only at h2
     subst h2
     rfl
   |cons y r=>exact⟨y,rfl⟩
  refine jq (ZbB rfl rfl (by omega) (show x.Mag[(0:Int).toNat]? =some u from hu)) rfl rfl ?_
  repeat(refine wkB ?_;intros)
  have hd:decide (((u.toNat:Nat):Int)=0)=decide (x.Mag[0]? =some 0):=by
   rw[hu,decide_eq_decide]
   simp only[Option.some.injEq]
   constructor
   ·intro h0
    exact UInt8.toNat_inj.1 (by simpa using h0)
   ·intro h0
    subst h0
    rfl
  rw[hd]
  rcases hq:decide (x.Mag[0]? =some 0) with _|_
  ·repeat(refine wkB ?_;intros)
   exact rtT rfl rfl
  ·repeat(refine wkB ?_;intros)
   exact rtT rfl rfl⟩
def rcb (x:ZV):Bool:=icb x.Num&&(icb x.Den&&(decide (x.Den=I 0)||(!decide (Lib.compareInt (ival x.Den) 1<=0)&&decide ((Int.gcd (ival x.Num) (ival x.Den):Int)=1))))
where ival (x:ZQ):Int:=if x.Neg=true then-(vmag x.Mag:Int) else vmag x.Mag
theorem ZdE (a:Int):rcb.ival (I a)=a:=by
 unfold rcb.ival I
 simp only[Zce,decide_eq_true_eq]
 split <;> omega
theorem Zrb {x:ZV}:rcb x=true↔∃q:Rat,x=Q q:=by
 obtain⟨n,d⟩:=x
 unfold rcb
 simp only[Wq,Bool.or_eq_true,Bool.not_eq_true',decide_eq_true_eq,decide_eq_false_iff_not]
 constructor
 ·rintro⟨h1,h2,h3⟩
  obtain⟨a,rfl⟩:=Zdo.1 h1
  obtain⟨b,rfl⟩:=Zdo.1 h2
  rw[ZdE,ZdE,Zcq] at h3
  rcases h3 with rfl|⟨h3,h4⟩
  ·exact⟨(a:Rat),(ZqS a)⟩
  ·have hb:1<b:=by
    unfold Lib.compareInt at h3
    split at h3
    ·omega
    ·split at h3 <;> omega
   have hc:Nat.Coprime a.natAbs b.natAbs:=by
    have:Int.gcd a b=1:=by omega
    exact this
   refine⟨⟨a,b.natAbs,by omega,hc⟩, ?_⟩
   unfold Q dn
   simp only
   rw[if_neg (by omega)]
   congr 2
   omega
 ·rintro⟨q,h⟩
  unfold Q at h
  injection h with h1 h2
  subst h1
  subst h2
  refine⟨Zqv _,Zqv _, ?_⟩
  rw[ZdE,ZdE,Zcq]
  have hp:=q.den_pos
  by_cases hd:q.den=1
  ·exact .inl (Zgx.2 hd)
  ·have e:dn q=q.den:=by unfold dn;rw[if_neg hd]
   refine .inr ⟨?_, ?_⟩
   ·rw[e]
    unfold Lib.compareInt
    rw[if_neg (by omega),if_pos (by omega)]
    omega
   ·rw[e]
    have hc:=q.reduced
    have h0:Int.gcd q.num (q.den:Int)=1:=hc
    omega
theorem Zvd (q:Rat):rcb (Q q)=true:=Zrb.2 ⟨q,rfl⟩
theorem ZtN {n d:ZQ}:rcb ⟨n,d⟩=(icb n&&(icb d&&(decide (d=I 0)||(!decide (Lib.compareInt (rcb.ival d) 1<=0)&&decide ((Int.gcd (rcb.ival n) (rcb.ival d):Int)=1))))):=rfl
instance ZlW (x:ZV):SpecC prog 196 [.agg (Zl x)] (.int .i64 (if rcb x=true then 0 else 5)) (x.Num.Mag.size<=LIM/\x.Den.Mag.size<=LIM):=⟨fun hp w=>by
 obtain⟨p1,p2⟩:=hp
 refine Zb Tryz.func196 rfl Tryz.ntmps196 rfl ?_
 repeat(refine wkB ?_;intros)
 rcases hn:icb x.Num with _|_
 ·rw[show rcb x=false by unfold rcb;rw[hn];rfl]
  repeat(refine wkB ?_;intros)
  exact rtT rfl rfl
 repeat(refine wkB ?_;intros)
 rcases hd:icb x.Den with _|_
 ·rw[show rcb x=false by unfold rcb;rw[hn,hd];rfl]
  repeat(refine wkB ?_;intros)
  exact rtT rfl rfl
 obtain⟨a,ha⟩:=Zdo.1 hn
 obtain⟨b,hb⟩:=Zdo.1 hd
 obtain⟨n,d⟩:=x
 simp only at ha hb p1 p2 hn hd⊢
 subst ha
 subst hb
 rw[ZtN,hn,hd,ZdE,ZdE,Bool.true_and,Bool.true_and]
 have hz:decide (I b=I 0)=decide (b=0):=by rw[decide_eq_decide];exact Zcq
 rw[hz]
 repeat(refine wkB ?_;intros)
 by_cases hb:b=0
 ·simp only[Wc hb]
  repeat(refine wkB ?_;intros)
  exact rtT rfl rfl
 ·simp only[We hb]
  repeat(refine wkB ?_;intros)
  refine jD 14 14 (h:=?_)
  (repeat(refine wkH ?_))
  rcases hc:decide (Lib.compareInt b 1<=0) with _|_
  ·(repeat(first|refine wkH ?_|(refine tC rfl rfl ?_ ?_;focus(first|exact trivial|exact⟨p1,p2⟩))))
   refine Zp ?_
   refine Zq ?_
   repeat(refine wkB ?_;intros)
   rcases hg:decide (((Int.gcd a b:Nat):Int)=1) with _|_
   ·repeat(refine wkB ?_;intros)
    exact rtT rfl rfl
   ·repeat(refine wkB ?_;intros)
    exact rtT rfl rfl
  ·(repeat(refine wkH ?_))
   refine Zp ?_
   refine Zq ?_
   repeat(refine wkB ?_;intros)
   exact rtT rfl rfl⟩
instance (priority :=high) ZxD (q:Rat):SpecC prog 196 [vQ q] (.int .i64 0) (M q<=LQ):=⟨fun hp w=>by
 have h:=(ZlW (Q q)).out ⟨?_, ?_⟩ w
 ·rw[Zvd] at h
  exact h
 ·have:=Wi (Zbh q) hp
  exact Wi this (by decide)
 ·show(mag (dn q).natAbs).size<=LIM
  have h1:=Wi (ZaV q) hp
  unfold dn
  split
  ·decide
  ·exact Wi h1 (by decide)⟩
end
section
theorem ZnG :(0:Rat).num.sign=0:=by decide
instance Zhj (x:Zj):SpecC prog 150 [vR x] (.int .i64 0) (RlB KR x/\x.R=0):=⟨fun hp w=>by
 obtain⟨p,r,n⟩:=x
 obtain⟨h1,h2⟩:=hp
 simp only at h2
 subst h2
 obtain rfl:n=false:=h1.o.z rfl
 have h3:M p<=LQ:=Wi h1.p (by decide)
 have h0:M 0<=LQ:=by decide
 refine Zb Tryz.func150 rfl Tryz.ntmps150 rfl ?_
 repeat(refine wkB ?_;intros)
 simp only[ZnG]
 repeat(refine wkB ?_;intros)
 exact rtT rfl rfl⟩
instance Zx5 (f:Int)(z:Array Value):SpecC prog 298 [.agg z, .int .i64 f] (.int .i64 0) True:=⟨fun _ w=>by
 refine Zb Tryz.func298 rfl Tryz.ntmps298 rfl ?_
 repeat(refine wkB ?_;intros)
 exact rtT rfl rfl⟩
instance ZvW :MethC prog 109 (.agg #[]) "Check" 298 (.agg #[]):=⟨fun w=>by kernel_rfl⟩
instance ZyT :LdC prog 107 #[vLabels] 0 vLabels:=⟨ZF (by kernel_rfl) rfl⟩
instance ZCf {E:Env}{T:TypeId}{x:Operand}{d:TypeId}{v:Value}[h:IsC (evl E x) (.iface d v)]:AlC prog E (.box T x) #[.iface d v] T:=⟨fun hg hd h=>Zmp isE hg hd h⟩
theorem ZoA (x y:UL)(b:Nat)(w:World)(hb:∃T fz,w.heap[b]? =some (.cells #[vLabels] T fz)):Calls prog 155 [vUL x,vUL y, .pointer (some ⟨b,0,none⟩)].toArray w (Ret (.bool (decide (x=y))) w):=by
 obtain⟨T,hb⟩:=hb
 have:=FoC.mk hb
 refine Zb Tryz.func155 rfl Tryz.ntmps155 rfl ?_
 repeat(refine wkB ?_;intros)
 by_cases h:x.In=y.In
 ·simp only[Wc h]
  repeat(refine wkB ?_;intros)
  have e:decide (x.F=y.F)=decide (x=y):=by
   rw[decide_eq_decide]
   obtain⟨I,F⟩:=x
   obtain⟨I',F'⟩:=y
   simp only at h
   subst h
   simp
  rw[e]
  exact rtT rfl rfl
 ·simp only[We h]
  repeat(refine wkB ?_;intros)
  rw[We (show¬x=y from fun e=>h (by rw[e]))]
  exact rtT rfl rfl
instance ZDy (w0:World)(L:List Blk)(x y:UL)(b:Nat)(T:TypeId)[h:AtC w0 L b #[vLabels] T]:SpecM prog w0 L 155 [vUL x,vUL y, .pointer (some ⟨b,0,none⟩)] (.bool (decide (x=y))) True:=⟨fun _ w hw=>ZoA x y b w ⟨T,h.out w hw⟩⟩
theorem Zp4 (v1 v2:Value)(us:List UL)(b:Nat)(w:World)(h1:ArgS w v1 rU us)(h2:ArgS w v2 rU us)(hb:∃T fz,w.heap[b]? =some (.cells #[vLabels] T fz))(hl:us.length<=1048576):
  Calls prog 154 [v1,v2, .func (.func 155) #[] [.pointer (some ⟨b,0,none⟩)].toArray].toArray w (Ret (.bool true) w):=by
 obtain⟨T,hb⟩:=hb
 have:=FoC.mk hb
 refine Zb Tryz.func154 rfl Tryz.ntmps154 rfl ?_
 obtain⟨p1,c1,rfl⟩:=h1.form
 obtain⟨p2,c2,rfl⟩:=h2.form
 repeat(refine wkB ?_;intros)
 simp only[Wc (rfl:(us.length:Int)=(us.length:Int)),Bool.not_true]
 repeat(refine wkB ?_;intros)
 refine Zo (S:=Nat) (fun m=>m<=us.length) (fun m=>[(1, .slice p2 us.length c2),(2, .func (.func 155) #[] [.pointer (some ⟨b,0,none⟩)].toArray),(15, .slice p1 us.length c1),(16, .int .i64 us.length),(17, .int .i64 (m:Nat))]) (fun _=>[]) (fun m=>us.length-m) 0 (Wm _) sbB slB (fun m hm=>?_)
 repeat(refine wkB ?_;intros)
 refine Zk rfl (fun h=>?_) (fun h=>?_)
 ·have hlt:m<us.length:=by have:=Wa h;omega
  have hne:us≠[]:=fun h0=>by rw[h0] at hlt;simp at hlt
  obtain⟨b1,o1,c1',hv1,hc1,hr1⟩:=h1.blk (k:=20) hne []
  injection hv1 with e1 e2 e3
  subst e1
  subst e3
  obtain⟨b2,o2,c2',hv2,hc2,hr2⟩:=h2.blk (k:=20) hne []
  injection hv2 with e1 e2 e3
  subst e1
  subst e3
  have hr1':∀L,RowC w L b1 o1 UL rU us:=fun L=>⟨fun w' hw'=>hr1.out w' (hw'.sub (Wk _))⟩
  have hr2':∀L,RowC w L b2 o2 UL rU us:=fun L=>⟨fun w' hw'=>hr2.out w' (hw'.sub (Wk _))⟩
  repeat(refine wkB ?_;intros)
  simp only[Wc (rfl:gi us (m:Int)=gi us (m:Int)),Bool.not_true]
  repeat(refine wkB ?_;intros)
  exact Zc (m+1) hlt sbB slB (by omega)
 ·repeat(refine wkB ?_;intros)
  exact rtT rfl rfl
instance ZDk (w0:World)(L:List Blk)(v1 v2:Value)(us:List UL)(b:Nat)(T:TypeId)[h1:LstC w0 L v1 UL rU us][h2:LstC w0 L v2 UL rU us][h:AtC w0 L b #[vLabels] T]:SpecM prog w0 L 154 [v1,v2, .func (.func 155) #[] [.pointer (some ⟨b,0,none⟩)].toArray] (.bool true) (us.length<=1048576):=⟨fun hp w hw=>Zp4 v1 v2 us b w (h1.out w hw) (h2.out w hw) ⟨T,h.out w hw⟩ hp⟩
theorem Zo1 (v1 v2:Value)(us:List UL)(w:World)(h1:ArgS w v1 rU us)(h2:ArgS w v2 rU us)(hl:us.length<=1048576):
  Calls prog 109 [vLabels,v1,v2].toArray w (Ret (.bool true) w):=by
 have:=ArgC.mk h1
 have:=ArgC.mk h2
 refine Zb Tryz.func109 rfl Tryz.ntmps109 rfl ?_
 repeat(first|(refine wkB ?_;intros)|(refine wnM ?_ ?_;(focus(exact hl));intros))
 exact rtT rfl rfl
instance ZDn (w0:World)(L:List Blk)(v1 v2:Value)(us:List UL)[h1:LstC w0 L v1 UL rU us][h2:LstC w0 L v2 UL rU us]:SpecM prog w0 L 109 [vLabels,v1,v2] (.bool true) (us.length<=1048576):=⟨fun hp w hw=>Zo1 v1 v2 us w (h1.out w hw) (h2.out w hw) hp⟩
theorem Zvq {R:List UL}(h:NF (R.map absU)){i j:Nat}(hij:i<j)(hj:j<R.length):(absU (gi R (i:Int))).bfr (absU (gi R (j:Int))):=by
 have h1:=List.pairwise_iff_getElem.1 h.pw i j (by rw[Ws];omega) (by rw[Ws];omega) hij
 rw[List.getElem_map,List.getElem_map,<-Zt (by omega),<-Zt hj] at h1
 exact h1.bf
theorem ZpQ {us:List UL}(h:NF (us.map absU))(hk:∀u∈us,UIn u):nrmR us=us/\nrmE us=0/\∀i,i+1<us.length->aprt (gi us (i:Int)).In (gi us ((i+1:Nat):Int)).In=true:=by
 have hd:(us.map absU).Pairwise Dis:=h.pw.imp fun h=>h.bf.Dis
 have hv:UVal us:=⟨hk,fun u hu=>h.ok _ (List.mem_map.2 ⟨u,hu,rfl⟩)⟩
 obtain⟨h1,h2⟩:=Zf3 hv hd
 refine⟨Zfm (fun u hu=>(Zkx hk u hu).i) (fun u hu=>(hk u hu).i) (NF.uniq h1 h h2),(ZhW hv).2 hd,fun i hi=>?_⟩
 exact Zfn.2 (Zvq h (i:=i) (j:=i+1) (by omega) hi)
noncomputable def absP (u:PU):GU Ri Int:=⟨ri u.In.From,ri u.In.To,u.In.OpenFrom,u.In.OpenTo,u.Label⟩
structure PFine (us:List PU):Prop where
 nf:NF (us.map absP)
 k:∀u∈us,UIn (toU u)
 r:∀u∈us,u.In.From.R=0/\u.In.To.R=0
 l:us.length<=19
end
section
theorem Zob {x:Zj}(h:(rvR x).ok)(h0:x.R≠0):rtQ x.R=none/\0<x.R:=by
 rcases h.k with hk|⟨hk,hn⟩
 ·exact absurd hk h0
 ·refine⟨?_,hk⟩
  cases hr:rtQ x.R with
  |none=>rfl
  |some q=>exact absurd (Zql hr).2 (hn q)
instance (priority :=high) ZsM (x:Zj):SpecC prog 150 [vR x] (.int .i64 0) (RlB 1048576 x):=⟨fun hp w=>by
 by_cases h0:x.R=0
 ·exact(Zhj x).out ⟨⟨hp.o,Wi hp.p (by decide),Wi hp.r (by decide)⟩,h0⟩ w
 obtain⟨hs,hpos⟩:=Zob hp.o h0
 have h3:M x.P<=LQ:=Wi hp.p (by decide)
 have h4:M x.R<=LQ:=Wi hp.r (by decide)
 have h5:M x.R<=1048576:=hp.r
 have hsg:x.R.num.sign=1:=by
  rcases nsg x.R with h|h|h
  ·exact h.2
  ·exact absurd h.1 h0
  ·exact absurd hpos (by grind)
 refine Zb Tryz.func150 rfl Tryz.ntmps150 rfl ?_
 repeat(first|(refine wkB ?_;intros)|(refine wnM ?_ ?_;(focus(first|exact h3|exact h4|exact h5));intros))
 simp only[hsg]
 repeat(first|(refine wkB ?_;intros)|(refine wnM ?_ ?_;(focus(first|exact h3|exact h4|exact h5));intros))
 rw[hs]
 repeat(refine wkB ?_;intros)
 exact rtT rfl rfl⟩
instance (priority :=high) ZuC (i:Za):SpecC prog 107 [vIv i] (.int .i64 0) (IvOk 1048576 i/\okI i):=⟨fun hp w=>by
 obtain⟨h0,h2⟩:=hp
 have h1:IvOk KR i:=h0.mono (by decide)
 have hlt:=Zbj.1 h2
 have hn:¬0<=cmpB (bdF i) (bdL i):=fun h=>(ZmH.1 hlt) (ZgG (by omega))
 refine Zb Tryz.func107 rfl Tryz.ntmps107 rfl ?_
 repeat(first|(refine wkB ?_;intros)|(refine wnM ?_ ?_;(focus(first|exact h0.a|exact h0.b));intros))
 (refine jD 6 6 (h:=?_);(repeat(first|refine wkH ?_|(refine tC rfl rfl ?_ ?_;focus(first|exact trivial|exact⟨⟨h1.a⟩,⟨h1.b⟩⟩))));refine Zp ?_;(repeat(refine Z3 ?_;intro _));refine Zq ?_)
 simp only[We hn]
 repeat(refine wkB ?_;intros)
 exact rtT rfl rfl⟩
theorem ZiS (v:Value)(us:List UL)(w:World)(hv:ArgS w v rU us)(hnil:us=[]->v= .slice none 0 0)(h:NF (us.map absU))(hk:∀u∈us,UIn u)(hk2:∀u∈us,IvOk 1048576 u.In)(hn:NrP us)(hl:us.length<=256):
  Calls prog 62 [vLabels,v].toArray w (Ret (.int .i64 0) w):=by
 obtain⟨n1,n2,n3⟩:=ZpQ h hk
 have:=ArgC.mk hv
 obtain⟨p,cp,rfl⟩:=hv.form
 have:∀L,LstN w L (.slice p us.length cp) UL rU us:=fun L=>⟨fun w' hw'=>hv.to hw'.ext,hnil⟩
 refine Zb Tryz.func62 rfl Tryz.ntmps62 rfl ?_
 repeat(refine wkB ?_;intros)
 simp only[We (show¬(256:Int)<us.length by omega)]
 repeat(refine wkB ?_;intros)
 refine Zo (S:=Nat) (fun m=>m<=us.length) (fun m=>[(0,vLabels),(1, .slice p us.length cp),(14, .slice p us.length cp),(15, .int .i64 us.length),(16, .int .i64 (m:Nat))]) (fun _=>[]) (fun m=>us.length-m) 0 (Wm _) sbB slB (fun m hm=>?_)
 repeat(refine wkB ?_;intros)
 refine Zk rfl (fun hc=>?_) (fun hc=>?_)
 ·have hlt:m<us.length:=by have:=Wa hc;omega
  have hne:us≠[]:=fun h0=>by rw[h0] at hlt;simp at hlt
  obtain⟨b1,o1,c1',hv1,hc1,hr1⟩:=hv.blk (k:=20) hne []
  injection hv1 with e1 e2 e3
  subst e1
  subst e3
  have hr1':∀L,RowC w L b1 o1 UL rU us:=fun L=>⟨fun w' hw'=>hr1.out w' (hw'.sub (Wk _))⟩
  have hu:=hk _ (Zu (i:=(m:Int)) (xs:=us) (by omega))
  have ho:=h.ok _ (List.mem_map.2 ⟨_,Zu (i:=(m:Int)) (xs:=us) (by omega),rfl⟩)
  have p1:IvOk 1048576 (gi us (m:Int)).In/\okI (gi us (m:Int)).In:=⟨hk2 _ (Zu (i:=(m:Int)) (xs:=us) (by omega)),ho⟩
  repeat(first|(refine wkB ?_;intros)|(refine wnM ?_ ?_;(focus(first|exact p1|exact trivial));intros))
  rename_i b6
  rcases Nat.eq_zero_or_pos m with h0|h0
  ·subst h0
   refine jD 14 14 (h:=?_)
   (repeat(refine wkH ?_))
   simp only[We (show¬(0:Int)<((0:Nat):Int) by decide)]
   (repeat(refine wkH ?_))
   refine Zp ?_
   refine Zq ?_
   repeat(refine wkB ?_;intros)
   exact Zc 1 hlt sbB slB (by omega)
  ·have hu0:=hk _ (Zu (i:=(m:Int)-1) (xs:=us) (by omega))
   have ha:aprt (gi us ((m:Int)-1)).In (gi us (m:Int)).In=true:=by
    have:=n3 (m-1) (by omega)
    rw[show((m-1:Nat):Int)=(m:Int)-1 by omega,show((m-1+1:Nat):Int)=(m:Int) by omega] at this
    exact this
   refine jD 14 14 (h:=?_)
   (repeat(refine wkH ?_))
   simp only[Wc (show(0:Int)<(m:Int) by omega)]
   (repeat(first|refine wkH ?_|(refine tC rfl rfl ?_ ?_;focus(exact⟨hu0.i.b,hu.i.a⟩))))
   simp only[ha,Bool.not_true]
   (repeat(refine wkH ?_))
   refine Zp ?_
   refine Zq ?_
   repeat(refine wkB ?_;intros)
   exact Zc (m+1) hlt sbB slB (by omega)
 ·repeat(first|(refine wkB ?_;intros)|(refine wnM ?_ ?_;(focus(exact⟨hn,hk⟩));intros))
  rename_i s
  obtain⟨s',e1,e2⟩:=SlS.turn 145 n1 s
  simp only[<-e1,<-e2,n2,Wc (rfl:(0:Int)=0),Bool.not_true]
  repeat(first|(refine wkB ?_;intros)|(refine wnM ?_ ?_;(focus(exact(show us.length<=1048576 by omega)));intros))
  exact rtT rfl rfl
instance (priority :=high) Zu6 (w0:World)(L:List Blk)(v:Value)(us:List UL)[h:LstN w0 L v UL rU us]:SpecM prog w0 L 62 [vLabels,v] (.int .i64 0) (NF (us.map absU)/\(∀u∈us,UIn u)/\(∀u∈us,IvOk 1048576 u.In)/\NrP us/\us.length<=256):=⟨fun hp w hw=>ZiS v us w (h.out w hw) h.nil hp.1 hp.2.1 hp.2.2.1 hp.2.2.2.1 hp.2.2.2.2⟩
structure PFineI (us:List PU):Prop where
 nf:NF (us.map absQ)
 k:∀u∈us,IvOk 1048576 u.In
 l:us.length<=256
theorem Zio (v:Value)(us:List PU)(w:World)(hv:ArgS w v rP us)(h:PFineI us):Calls prog 15 [v].toArray w (Ret (.int .i64 0) w):=by
 have hl:=h.l
 have hml:=Z5 toU us
 obtain⟨s1,s2,s3,s4⟩:=Zo5 h.nf (fun u hu=>(h.k u hu).mono (by decide)) (by omega)
 have p1:NF ((mpN toU us us.length).map absU)/\(∀u∈mpN toU us us.length,UIn u)/\(∀u∈mpN toU us us.length,IvOk 1048576 u.In)/\NrP (mpN toU us us.length)/\(mpN toU us us.length).length<=256:=by
  refine⟨?_,s2,fun u hu=>by rw[hml] at hu;obtain⟨w,hw,rfl⟩:=List.mem_map.1 hu;exact h.k w hw,s1,by rw[ZJ];exact hl⟩
  rw[hml,List.map_map]
  exact h.nf
 have:=ArgC.mk hv
 refine Zb Tryz.func15 rfl Tryz.ntmps15 rfl ?_
 have hl1:us.length<=1048576:=by omega
 repeat(refine wkB ?_;intros)
 (refine ZE (.v [0,1,2] (.e1 3 (.e1 4 (.e1 5 (.fin))))) (([]:List Blk)) (h:=?_);refine wkX ?_)
 (repeat(refine wkH ?_))
 repeat(first|(refine wkT ?_;intros)|(refine tC rfl rfl ?_ ?_;focus(first|exact hl1|exact p1))|(refine uC rfl rfl ?_ ?_;focus(first|exact hl1|exact p1))|(refine eN rfl rfl ?_ ?_;(focus(first|exact hl1|exact p1));intro _;(try simp only[Wf,Wg,Wh])))
 repeat(refine wkB ?_;intros)
 exact rtT rfl rfl
instance (priority :=high) Zv0 (w0:World)(L:List Blk)(v:Value)(us:List PU)[h:LstC w0 L v PU rP us]:SpecM prog w0 L 15 [v] (.int .i64 0) (PFineI us):=⟨fun hp w hw=>Zio v us w (h.out w hw) hp⟩
end
section
def endI (l:List Za):List Rl:=l.map (·.From)++l.map (·.To)
theorem Zh1 {l:List Za}:∀i∈l,i.From∈endI l/\i.To∈endI l:=fun i hi=>⟨List.mem_append_left _ (List.mem_map_of_mem hi),List.mem_append_right _ (List.mem_map_of_mem hi)⟩
theorem ZiU (l:List Za):(endI l).length=2*l.length:=by
 unfold endI
 rw[Wp,Ws,Ws]
 omega
theorem Znr (l:List St):∀u∈movV l,u.In.From∈endI (insV l)/\u.In.To∈endI (insV l):=fun u hu=>by
 have h1:=Zh1 (l:=insV l)
 have h2:∀i∈celV l,i.From∈endI (insV l)/\i.To∈endI (insV l):=ZfX (Pr:=(· ∈endI (insV l))) (Zb0 h1) (ZeU h1)
 exact Zhl (Pr:=(· ∈endI (insV l))) (fun u hu=>h2 _ (ZeJ u hu)) _ (Wl _) u hu
theorem ZmC (l:List WS):∀i∈perL l,i.From∈endI (iv6 l)/\i.To∈endI (iv6 l):=Zb0 (Pr:=(· ∈endI (iv6 l))) Zh1
structure PtA (E:List Rl)(a:List PU):Prop where
 m:MvP a
 e:∀u∈a,u.In.From∈E/\u.In.To∈E
theorem PtA.lb {E:List Rl}{a:List PU}(h:PtA E a)(F:List Rl):LbE (E++F) a:=⟨h.m.nf.nf,h.m.nf.k,fun u hu=>⟨List.mem_append_left _ (h.e u hu).1,List.mem_append_left _ (h.e u hu).2⟩⟩
theorem PtA.rb {E:List Rl}{a:List PU}(h:PtA E a)(F:List Rl):LbE (F++E) a:=⟨h.m.nf.nf,h.m.nf.k,fun u hu=>⟨List.mem_append_right _ (h.e u hu).1,List.mem_append_right _ (h.e u hu).2⟩⟩
theorem ZkR {l:List St}(hk:∀x∈l,StOk x):PtA (endI (insV l)) (movV l)/\(endI (insV l)).length<=16:=⟨⟨Zsv hk,Znr l⟩,by
 have:=(Zd3 l).1
 rw[ZiU]
 omega⟩
structure PtD (E:List Rl)(d:List Za):Prop where
 s:Sep d
 k:∀i∈d,IvOk 3 i
 e:∀i∈d,i.From∈E/\i.To∈E
 n:E.length<=16
theorem PtD.len {E:List Rl}{d:List Za}(h:PtD E d):d.length<=32:=by
 have:=ZdS h.s.bf (fun i hi=>Zbj.2 (h.s.v i hi)) (fun i hi=>ZfC (h.k i hi)) (fun i hi=>(h.e i hi).1)
 have:=h.n
 omega
theorem ZrP {l:List WS}(hk:∀x∈l,WSOk x):PtD (endI (iv6 l)) (perL l):=⟨(ZpL hk).1,Zsg hk,ZmC l,by
 have:=Zf7 l
 rw[ZiU]
 omega⟩
theorem Zpt {l:List PU}{z:Ri}:(∃x,Has (l.map absQ) z x)↔HoldP (inL l) z:=by
 rw[Zo7]
 constructor
 ·rintro⟨x,y,hy,h1,_⟩
  obtain⟨u,hu,rfl⟩:=List.mem_map.1 hy
  exact⟨u,hu,h1⟩
 ·rintro⟨u,hu,h1⟩
  exact⟨u.Label,absQ u,List.mem_map_of_mem hu,h1,rfl⟩
theorem Zig {l:List PU}{z:Ri}{x:Int}:Has (l.map absQ) z x↔HoldP (whL l x l.length) z:=by
 unfold HoldP
 constructor
 ·rintro⟨y,hy,h1,h2⟩
  obtain⟨u,hu,rfl⟩:=List.mem_map.1 hy
  exact⟨u.In,ZgA.2 ⟨u,hu,h2,rfl⟩,h1⟩
 ·rintro⟨i,hi,h1⟩
  obtain⟨u,hu,h2,rfl⟩:=ZgA.1 hi
  exact⟨absQ u,List.mem_map_of_mem hu,h1,h2⟩
structure RsL (a r:List PU)(d:List Za):Prop where
 q:MrQ a d
 e:r=mrR a d
 c:PFineI r
 n:r.length<=64
 k:∀u∈r,IvOk 3 u.In
 dom:pDom r=cmbR 2 (nrmS (inL a)) d
 whn:∀x,nrmS (whL r x r.length)=cmbR 2 (nrmS (whL a x a.length)) d
 sw:SwOk (pIv r) []
 pat:MpL a r
 same:mpR a r=a
theorem ZeK {l:List PU}(hk:∀u∈l,IvOk 3 u.In)(x:Int):∀i∈whL l x l.length,IvOk 3 i:=fun i hi=>by
 obtain⟨u,hu,_,rfl⟩:=ZgA.1 hi
 exact hk u hu
theorem Zlc {l:List PU}(hk:∀u∈l,IvOk 3 u.In):∀i∈inL l,IvOk 3 i:=fun i hi=>by
 unfold inL at hi
 rw[Z5] at hi
 obtain⟨u,hu,rfl⟩:=List.mem_map.1 hi
 exact hk u hu
theorem cm2 {p q:List Za}(hp:p.length<=1024/\∀i∈p,IvOk 3 i)(hq:q.length<=1024/\∀i∈q,IvOk 3 i):Sep (cmbR 2 p q)/\(∀z,HoldP (cmbR 2 p q) z↔HoldP p z/\HoldP q z)/\∀i∈cmbR 2 p q,IvOk 3 i:=by
 obtain⟨h1,h2⟩:=ZiD 2 (a:=p) (b:=q) ⟨hp.1,hq.1,fun i hi=>(hp.2 i hi).mono (by decide),fun i hi=>(hq.2 i hi).mono (by decide)⟩
 refine⟨h1,fun z=>?_,ZrU hp.2 hq.2⟩
 rw[h2]
 unfold dcdP
 rw[if_neg (by decide),if_pos rfl]
theorem ZtV {E F:List Rl}{a:List PU}{d:List Za}(hE:E.length<=16)(ha:PtA E a)(hd:PtD F d):RsL a (mrR a d) d:=by
 have hF:=hd.n
 have hdl:=hd.len
 have hla:=(ha.lb F).len
 rw[Wp] at hla
 have hm:=Zmr (K:=3) (a:=a) (d:=d) ⟨by decide,ha.m.nf.nf,ha.m.nf.k,by omega,hd.s,hd.k,by omega⟩
 have hrE:LbE (E++F) (mrR a d):=⟨hm.nf,hm.k,hm.p (· ∈E++F) (fun u hu=>⟨List.mem_append_left _ (ha.e u hu).1,List.mem_append_left _ (ha.e u hu).2⟩) (fun i hi=>⟨List.mem_append_right _ (hd.e i hi).1,List.mem_append_right _ (hd.e i hi).2⟩)⟩
 have hrl:=hrE.len
 rw[Wp] at hrl
 have hpat:=ZkT (E:=E++F) (by rw[Wp];omega) (ha.lb F) hrE
 obtain⟨r1,r2,r3,r4,r5⟩:=Zfg hrE
 have hA:=Z5 toU a
 have hkA:∀u∈mpN toU a a.length,IvOk BQ u.In:=fun u hu=>by
  rw[hA] at hu
  obtain⟨w,hw,rfl⟩:=List.mem_map.1 hu
  exact(ha.m.nf.k w hw).mono (by decide)
 have hq:MrQ a d:=⟨by omega,⟨by rw[ZJ];omega,by omega,hm.nr,hkA,fun i hi=>(hd.k i hi).mono (by decide),hm.u⟩,by
  have h1:=ZdT (rsO (mpN toU a a.length) d (mpN toU a a.length).length)
  have h2:=Zdv (mpN toU a a.length) d (mpN toU a a.length).length
  have h3:a.length*d.length<=64*32:=Nat.mul_le_mul (by omega) hdl
  rw[ZJ] at h1 h2⊢
  omega⟩
 have hr3:∀u∈mrR a d,IvOk 3 u.In:=hm.k
 have hin:(inL a).length<=64:=by unfold inL;rw[ZJ];omega
 have hnr:(nrmS (inL a)).length<=256:=by have:=Zbw (inL a);omega
 have hd3:d.length<=1024/\∀i∈d,IvOk 3 i:=⟨by omega,hd.k⟩
 have hia:=Zlc ha.m.nf.k
 have hNa:=Zcf (a:=inL a) (by omega) (fun i hi=>(hia i hi).mono (by decide))
 obtain⟨c1,c2,c3⟩:=cm2 (p:=nrmS (inL a)) ⟨by omega,ZbT hia⟩ hd3
 refine⟨hq,rfl,⟨hm.nf,fun u hu=>(hr3 u hu).mono (by decide),by omega⟩,by omega,hr3, ?_,fun x=>?_,hpat.s2,hpat, ?_⟩
 ·refine Znn (K:=3) r1 c1 r3 c3 fun z=>?_
  rw[r2,c2,hNa.2,<-Zpt]
  constructor
  ·rintro⟨x,hx⟩
   obtain⟨h1,h2⟩:=(hm.has z x).1 hx
   exact⟨⟨x,h1⟩,h2⟩
  ·rintro⟨⟨x,h1⟩,h2⟩
   exact⟨x,(hm.has z x).2 ⟨h1,h2⟩⟩
 ·have hw1:=ZeK hr3 x
  have hw2:=ZeK ha.m.nf.k x
  have l1:=ZbR (mrR a d) x (mrR a d).length
  have l2:=ZbR a x a.length
  have l3:=Zbw (whL a x a.length)
  obtain⟨n1,n2⟩:=Zcf (a:=whL (mrR a d) x (mrR a d).length) (by omega) (fun i hi=>(hw1 i hi).mono (by decide))
  obtain⟨m1,m2⟩:=Zcf (a:=whL a x a.length) (by omega) (fun i hi=>(hw2 i hi).mono (by decide))
  obtain⟨k1,k2,k3⟩:=cm2 (p:=nrmS (whL a x a.length)) ⟨by omega,ZbT hw2⟩ hd3
  refine Znn (K:=3) n1 k1 (ZbT hw1) k3 fun z=>?_
  rw[n2,k2,m2,<-Zig,<-Zig]
  exact hm.has z x
 ·refine Ze2 hpat.k ha.m.nf.k (hpat.nf.uniq ha.m.nf.nf fun z x=>?_)
  rw[hpat.has]
  constructor
  ·rintro(h|h)
   ·exact((hm.has z x).1 h).1
   ·exact h.1
  ·intro h
   rcases Classical.em (∃y,Has ((mrR a d).map absQ) z y) with⟨y,hy⟩|hn
   ·have h1:=(ZeR ha.m.pw).2 h
    have h2:=(ZeR ha.m.pw).2 ((hm.has z y).1 hy).1
    rw[h1] at h2
    injection h2 with h2
    subst h2
    exact .inl hy
   ·exact .inr ⟨h,hn⟩
theorem ZoB {E F:List Rl}{a b:List PU}(hE:E.length<=16)(hF:F.length<=16)(ha:PtA E a)(hb:PtA F b):MpL a b/\mpR a b=lfR 2 a b:=by
 have hp:=ZkT (E:=E++F) (by rw[Wp];omega) (ha.lb F) (hb.rb E)
 refine⟨hp, ?_⟩
 obtain⟨k1,k2,k3⟩:=ZsC (op:=2) (ha.m.lf hb.m)
 refine Ze2 hp.k k3 (hp.nf.uniq k1 fun z x=>?_)
 rw[hp.has,k2]
 have e1:∀y,Has (a.map absQ) z y↔vlA a z=some y:=fun y=>(ZeR ha.m.pw).symm
 have e2:∀y,Has (b.map absQ) z y↔vlA b z=some y:=fun y=>(ZeR hb.m.pw).symm
 rw[e1,e2]
 simp only[e2]
 unfold lfO
 rw[if_neg (by decide),if_pos rfl]
 cases vlA b z with
 |none=>simp
 |some y=>simp
theorem MpL.q {a b:List PU}(h:MpL a b)(ha:∀u∈a,IvOk 3 u.In):MpQ a b:=by
 have la:=h.la
 have lb:=h.lb
 have lm:=h.lm
 have hl:=h.len
 unfold mpR at hl
 rw[ZJ] at hl
 have hA:=Z5 toU a
 have ly:=h.ly
 refine⟨by omega,by omega,⟨h.s1,h.s2,h.s3,⟨by rw[ZJ];omega,by show(mpM a b).length<=1024;omega,h.r.nr,fun u hu=>?_,fun i hi=>(h.km i hi).mono (by decide),h.r.u⟩, ?_,h.n,h.u⟩,by omega⟩
 ·rw[hA] at hu
  obtain⟨w,hw,rfl⟩:=List.mem_map.1 hu
  exact(ha w hw).mono (by decide)
 ·show(mpY a b).length+(mpN toU b b.length).length<=65536
  rw[ZJ]
  omega
end
section
structure LifP (op:Int)(a b:List PU):Prop where
 o:op=1\/op=2\/op=3\/op=4\/op=5
 a:MvP a
 b:MvP b
instance ZxE (w0:World)(L:List Blk)(op:Int)(v1 v2:Value)(a b:List PU)[h1:LstC w0 L v1 PU rP a][h2:LstC w0 L v2 PU rP b]:SpecR prog w0 L 46 [.int .i64 op,v1,v2] (SlS rP 21 (lfR op a b)) (fun q=>vSl q) (fun q=>mS 46 q) (LifP op a b):=⟨fun hp w hw=>Zju op v1 v2 a b w hp.o (h1.out w hw) (h2.out w hw) hp.a.sh hp.b.sh (Zfr hp.a.sh hp.b.sh) hp.a.f hp.b.f⟩
theorem Zvn {op:Int}{a b:List PU}(ha:MvP a)(hb:MvP b):(lfR op a b).length<=1048576:=by
 have h1:=Zhx ha.sh hb.sh (Zfr ha.sh hb.sh)
 have h2:=Zev op a b (celL a b) (celL a b).length
 have h3:=ZeL (lfU op a b) (lfU op a b).length
 have h4:(lfU op a b).length=(lfS op a b (celL a b) (celL a b).length).length:=rfl
 unfold lfR
 omega
end
end Go.Vt
