/- For any up to 12 units whose ends have up to 20 bytes, and for any decoded moving label (up to 8 stretches), Check returns OK or the first error. Conditions: none. (part 23 of 28.) Conditions: those that each statement names. -/
import Derived.Test.YtcgkgdgpdpihmaaGreatDoorProg
import Derived.Test.YtcgkgdgpdpihmaaGreatDoorKC9
import Derived.Test.YtcgkgdgpdpihmaaGreatDoorKC11
import Derived.Test.YtcgkgdgpdpihmaaGreatDoorKC15
import Derived.Test.YtcgkgdgpdpihmaaGreatDoorKC20
import Derived.Test.YtcgkgdgpdpihmaaGreatDoorKC21
import Derived.Test.YtcgkgdgpdpihmaaGreatDoorKC22
set_option linter.unusedSimpArgs false
set_option linter.unusedVariables false
set_option maxHeartbeats 2000000
set_option maxRecDepth 100000
set_option linter.unusedSectionVars false
namespace Go.Vt
open Go.RowKit Go.Proofs
open Go.Proofs.Tryz (prog)
section
instance ZyZ :CallC prog 252:=⟨by kernel_rfl⟩
instance Zwc :CallC prog 251:=⟨by kernel_rfl⟩
theorem ZoK (c:Nat):Lib.repeatL [0] c=List.replicate c 0:=by
 have:=Lib.repeatL_replicate 0 1 c
 rw[Nat.mul_one] at this
 exact this
instance ZBN (c:Nat):SpecC prog 252 [.string ⟨#[0]⟩, .int .i64 (c:Nat)] (.string ⟨(List.replicate c 0).toArray⟩) (c<=1048576):=⟨fun hp w=>(Zle (ZiJ ⟨#[0]⟩ c w (by omega) (by show 1*c<=_;omega))).mono fun e w' ⟨⟨h1,h2⟩,h3⟩=>by
 subst h1
 refine⟨?_,h2,h3 (by intro h;cases h)⟩
 rw[<-ZoK]⟩
instance ZAF (n:Nat):SpecC prog 251 [.int .u8 (n:Nat)] (.int .i64 (Lib.bitLen n)) (n<=255):=⟨fun hp w=>(Tryz.bits_Len8 (n:Nat) w (by omega) (by omega)).mono fun e w' ⟨h1,h2⟩=>by subst h2;exact⟨h1,Ext.refl _⟩⟩
theorem sh8f :∀r:Fin 8,IntKind.u8.wrap (1*2 ^ r.val)=(((UInt8.ofNat (2 ^ r.val)).toNat:Nat):Int):=by decide+kernel
theorem sh8 (k:Nat):IntKind.u8.wrap (1*2 ^ ((k:Int) % 8).toNat)=(((UInt8.ofNat (2 ^ (k % 8))).toNat:Nat):Int):=by
 rw[show((k:Int) % 8).toNat=k % 8 by omega]
 exact sh8f ⟨k % 8,Nat.mod_lt _ (by decide)⟩
theorem Zl4 {P:Program}{w0:World}{n:Nat}{L:List Blk}{E:Env}{T T' ty:TypeId}{x y:Operand}{d:Option Tmp}{pos:String}{aft:Array Edge}{gd:Option (Nat×Bool)}{a b:List UInt8}(hx:Env.ev E x=some (.string ⟨a.toArray⟩))(hy:Env.ev E y=some (.string ⟨b.toArray⟩))(ha:(a.length:Int)<=8388608)(hb:(b.length:Int)<=8388608):Yl P w0 n L E ⟨d, .binOp .add T x y T',ty,pos,aft,gd⟩ (.string ⟨(a++b).toArray⟩):=
 Zdt hx hy (fun w=>by rw[eqGuard_at_string];rfl) (fun w=>by rw[binOp_string_add];exact run_string_add_lists w a b ha hb)
theorem Zdi {a b N:Nat}(h:a<=b)(hb:(mag b).size<=N):(mag a).size<=N:=Z2.2 (Nat.lt_of_le_of_lt h (Z2.1 hb))
theorem Zqf {a x N:Nat}(ha:(mag a).size<=N)(hx:(mag x).size<=N):(mag (x+a / x)).size<=N+1:=by
 refine Z2.2 ?_
 have h1:=Z2.1 hx
 have h2:=Nat.lt_of_le_of_lt (Nat.div_le_self a x) (Z2.1 ha)
 rw[Nat.pow_succ]
 omega
theorem Zjy :mag 2=⟨#[2]⟩:=by decide+kernel
instance ZAq (a:Nat):SpecC prog 223 [.string (mag a), .string ⟨#[2]⟩] (.tuple #[.string (mag (a / 2)), .string (mag (a % 2))]) ((mag a).size<=LIM):=⟨fun h w=>by
 rw[<-Zjy]
 exact(ZrH a 2).out ⟨by decide,h,by rw[Zjy];decide⟩ w⟩
set_option maxHeartbeats 4000000 in
theorem Zls (a:Nat)(ha:(mag a).size<=1048576)(w:World):Calls prog 239 [.string (mag a)].toArray w (Ret (.string (mag (rtN a))) w):=by
 refine Zb Tryz.func239 rfl Tryz.ntmps239 rfl ?_
 repeat(refine wkB ?_;intros)
 by_cases h0:a=0
 ·subst h0
  simp only[Wc (show mag 0=⟨#[]⟩ from rfl)]
  repeat(refine wkB ?_;intros)
  exact rtT rfl rfl
 have hne:mag a≠⟨#[]⟩:=fun e=>h0 (Z7.1 (show mag a=ByteArray.empty from e))
 simp only[We hne]
 have hsz:0<(mag a).size:=Nat.pos_of_ne_zero fun h=>hne (by
  generalize mag a=m at*
  obtain⟨⟨l⟩⟩:=m
  cases l with
  |nil=>rfl
  |cons x l=>simp[ByteArray.size] at h)
 obtain⟨t,ht⟩:∃t,(mag a)[(0:Int).toNat]? =some t:=⟨(mag a)[0],by simp[hsz]⟩
 obtain⟨hb1,hb8,hbt⟩:=ZkR ht
 have htl:=UInt8.toNat_lt t
 repeat(refine wkB ?_;intros)
 refine Go.Vt.jq (ZaX rfl rfl (by decide) ht) rfl rfl ?_
 repeat(first|(refine wkB ?_;intros)|(refine wnM ?_ ?_;(focus(exact(show t.toNat<=255 by omega)));intros))
 generalize hK:(8*((((mag a).size:Nat):Int)-1)+((Lib.bitLen t.toNat:Nat):Int)+1) / 2=K
 obtain⟨k,rfl⟩:∃k:Nat,K=(k:Nat):=Int.eq_ofNat_of_zero_le (by omega)
 have hk1:isq a<2 ^ k:=ZsM hbt (by omega)
 have hk2:k<=4194312:=by omega
 clear hK hbt
 refine ZY (S:=Unit) (fun _=>True) (fun _=>[(0, .string (mag a)),(4, .string (mag (2 ^ k)))]) (fun _=>[]) ?_ (fun _ _=>?_)
 ·(refine ZH (.v [0,1,2,5,6,7] (.e1 3 (.e1 4 (.v [8] (.e1 9 (.fin)))))) (([]:List Blk)) (h:=?_);refine wkX ?_)
  (repeat(refine wkH ?_))
  refine Go.Vt.hq (Zco rfl rfl ⟨by omega,by simp only[IntKind.bits];omega⟩) rfl rfl ?_
  rw[sh8 k]
  (repeat(refine wkH ?_))
  rw[show(k:Int) / 8=((k / 8:Nat):Int) by omega]
  (repeat(first|refine wkH ?_|(refine tC rfl rfl ?_ ?_;focus(exact(show k / 8<=1048576 by omega)))))
  repeat(refine wkT ?_;intros)
  refine eV (Zbn (bs:=[UInt8.ofNat (2 ^ (k % 8))]) rfl rfl (fun i u hi=>?_)) rfl rfl ?_ ?_
  ·rcases i with _|i
   ·injection hi with hi
    subst hi
    rfl
   ·cases hi
  ·exact Wk _
  repeat(refine wkT ?_;intros)
  refine Go.Vt.hq (Zl4 (a:=[UInt8.ofNat (2 ^ (k % 8))]) (b:=List.replicate (k / 8) 0) rfl rfl (by simp) (by rw[List.length_replicate];omega)) rfl rfl ?_
  repeat(refine wkT ?_;intros)
  have hmp:=Zjj k
  exact Zj () trivial (by rw[hmp];exact sbB) suB
 have hpos:0<isq a:=by
  rcases Nat.eq_zero_or_pos (isq a) with h|h
  ·have:=(ZbW a).2
   rw[h] at this
   omega
  ·exact h
 have hpk:(mag (2 ^ k)).size<=1048576:=by
  rw[Zjj]
  simp only[ByteArray.size,List.size_toArray,Wu,List.length_replicate]
  omega
 have hsz2:∀x,x<=2 ^ k->(mag x).size<=1048576:=fun x hx=>Zdi hx hpk
 repeat(refine wkB ?_;intros)
 refine Zq (S:=Nat) (fun x=>isq a<=x/\x<=2 ^ k) (fun x=>[(0, .string (mag a)),(4, .string (mag x))]) (fun _=>[]) (fun x=>x) (2 ^ k) ⟨by omega,Wl _⟩ sbB suB (fun x hx=>?_)
 try dsimp only at hx⊢
 have hx0:x≠0:=by omega
 have hsx:=hsz2 x hx.2
 have hp1:x≠0/\(mag a).size<=LIM/\(mag x).size<=LIM:=⟨hx0,Wi ha (by decide),Wi hsx (by decide)⟩
 have hq:(mag (a / x)).size<=LIM:=Wi (Zdi (Nat.div_le_self a x) ha) (by decide)
 have hp2:(mag x).size<=LIM/\(mag (a / x)).size<=LIM:=⟨hp1.2.2,hq⟩
 have hp3:(mag (x+a / x)).size<=LIM:=Wi (Zqf ha hsx) (by decide)
 repeat(first|(refine wkB ?_;intros)|(refine wnM ?_ ?_;(focus(first|exact hp1|exact hp2|exact hp3));intros))
 refine Zk rfl (fun h=>?_) (fun h=>?_)
 ·have hle:x<=nwS a x:=by
   have:=Zeu.1 (Wa h)
   unfold nwS
   omega
  have hxe:=Zrb (ZbW a).1 (ZbW a).2 hx.1 (by omega) hle
  rw[hxe,Zsu]
  repeat(refine wkB ?_;intros)
  exact rtT rfl rfl
 ·have hlt:(x+a / x) / 2<x:=by
   rcases Nat.lt_or_ge ((x+a / x) / 2) x with h1|h1
   ·exact h1
   ·exact absurd (Zeu.2 (by omega)) (Wb h)
  have hlo:isq a<=(x+a / x) / 2:=Zsk (by omega) (ZbW a).1
  repeat(refine wkB ?_;intros)
  exact Zg ((x+a / x) / 2) ⟨hlo,Wi (Nat.le_of_lt hlt) hx.2⟩ sbB suB hlt
instance ZAz (a:Nat):SpecC prog 239 [.string (mag a)] (.string (mag (rtN a))) ((mag a).size<=1048576):=⟨fun hp w=>Zls a hp w⟩
def isqI (a:Int):Bool:=decide (0<=a/\rtN a.natAbs*rtN a.natAbs=a.natAbs)
def isqV (a:Int):Int:=if isqI a then(rtN a.natAbs:Nat) else 0
theorem Zrx (a:Int)(w:World)(ha:mg a<=1048576):Calls prog 219 [vI a].toArray w (Ret (.tuple #[vI (isqV a), .bool (isqI a)]) w):=by
 have p1:(mag a.natAbs).size<=1048576:=ha
 have p2:(mag (rtN a.natAbs)).size<=LIM/\(mag (rtN a.natAbs)).size<=LIM:=⟨Wi (Zdi (Zck _) ha) (by decide),Wi (Zdi (Zck _) ha) (by decide)⟩
 refine Zb Tryz.func219 rfl Tryz.ntmps219 rfl ?_
 repeat(refine wkB ?_;intros)
 refine Zk rfl (fun h=>?_) (fun h=>?_)
 ·have hn:¬0<=a:=by have:=Wa h;omega
  have e1:isqI a=false:=We fun k=>hn k.1
  have e2:isqV a=0:=by unfold isqV;rw[e1];rfl
  rw[e1,e2]
  repeat(refine wkB ?_;intros)
  exact ZF rfl (Z6 rfl) (Zy rfl) (fun w hw=>ZP hw)
 ·have hn:0<=a:=by have:=Wb h;omega
  repeat(first|(refine wkB ?_;intros)|(refine wnM ?_ ?_;(focus(exact p1));intros))
  (refine jD 6 6 (h:=?_);(repeat(first|refine wkH ?_|(refine tC rfl rfl ?_ ?_;focus(exact p2))));refine Zo ?_;(repeat(refine Z0 ?_;intro _));refine Zs ?_)
  repeat(refine wkB ?_;intros)
  refine Zk rfl (fun h2=>?_) (fun h2=>?_)
  ·have e1:isqI a=false:=by
    refine We fun k=>?_
    rw[k.2] at h2
    simp at h2
   have e2:isqV a=0:=by unfold isqV;rw[e1];rfl
   rw[e1,e2]
   repeat(refine wkB ?_;intros)
   exact ZF rfl (Z6 rfl) (Zy rfl) (fun w hw=>ZP hw)
  ·have hs:rtN a.natAbs*rtN a.natAbs=a.natAbs:=by
    have h3:mag (rtN a.natAbs*rtN a.natAbs)=mag a.natAbs:=by simpa using h2
    exact Zdn.1 h3
   have e1:isqI a=true:=Wc ⟨hn,hs⟩
   have e2:isqV a=sg false (rtN a.natAbs):=by unfold isqV;rw[e1];rfl
   rw[e1,e2]
   repeat(refine wkB ?_;intros)
   exact ZF rfl (Z6 rfl) (Zy rfl) (fun w hw=>ZP hw)
instance Zz5 (a:Int):SpecC prog 219 [vI a] (.tuple #[vI (isqV a), .bool (isqI a)]) (mg a<=1048576):=⟨fun hp w=>Zrx a w hp⟩
theorem ZqE (q:Rat):rtQ q=if isqI q.num&&isqI (q.den:Int) then some (Rat.divInt (isqV q.num) (isqV (q.den:Int))) else none:=by
 have hd:(0:Int)<=(q.den:Int):=by omega
 unfold rtQ isqV isqI
 rw[Int.natAbs_natCast]
 by_cases h1:0<=q.num/\rtN q.num.natAbs*rtN q.num.natAbs=q.num.natAbs
 ·by_cases h2:rtN q.den*rtN q.den=q.den
  ·rw[if_pos ⟨h1.1,h1.2,h2⟩,Wc h1,Wc ⟨hd,h2⟩]
   rfl
  ·rw[if_neg (fun h=>h2 h.2.2),Wc h1,We (fun h=>h2 h.2)]
   rfl
 ·rw[if_neg (fun h=>h1 ⟨h.1,h.2.1⟩),We h1]
  rfl
theorem Zid (q:Rat)(w:World)(hq:M q<=1048576):Calls prog 197 [vQ q].toArray w (Ret (.tuple #[vQ ((rtQ q).getD 0), .bool (rtQ q).isSome]) w):=by
 have p1:mg q.num<=1048576:=Wi (ZaG q) hq
 have p2:mg (q.den:Int)<=1048576:=Wi (ZaK q) hq
 have hr:=ZqE q
 refine Zb Tryz.func197 rfl Tryz.ntmps197 rfl ?_
 repeat(first|(refine wkB ?_;intros)|(refine wnM ?_ ?_;(focus(first|exact p1|exact p2));intros))
 by_cases h:(isqI q.num&&isqI (q.den:Int))=true
 ·rw[if_pos h] at hr
  obtain⟨h1,h2⟩:=Bool.and_eq_true_iff.1 h
  have e1:isqV q.num=(rtN q.num.natAbs:Nat):=by unfold isqV;rw[h1];rfl
  have e2:isqV (q.den:Int)=(rtN q.den:Nat):=by unfold isqV;rw[h2];rfl
  have p3:isqV (q.den:Int)≠0/\mg (isqV q.num)<=LIM/\mg (isqV (q.den:Int))<=LIM:=by
   rw[e1,e2]
   refine⟨?_, ?_, ?_⟩
   ·have h4:=(Wa h2).2
    rw[Int.natAbs_natCast] at h4
    have:=q.den_pos
    intro h5
    have h6:rtN q.den=0:=by omega
    rw[h6] at h4
    omega
   ·exact Wi (Zdi (a:=(((rtN q.num.natAbs:Nat):Int)).natAbs) (by rw[Int.natAbs_natCast];exact Zck _) p1) (by decide)
   ·exact Wi (Zdi (a:=(((rtN q.den:Nat):Int)).natAbs) (b:=((q.den:Int)).natAbs) (by rw[Int.natAbs_natCast,Int.natAbs_natCast];exact Zck _) p2) (by decide)
  simp only[h1,h2,Bool.not_true]
  rw[hr]
  repeat(first|(refine wkB ?_;intros)|(refine wnM ?_ ?_;(focus(exact p3));intros))
  exact ZF rfl (Z6 rfl) (Zy rfl) (fun w hw=>ZP hw)
 ·rw[if_neg h] at hr
  rw[hr]
  cases h1:isqI q.num
  ·simp only[Bool.not_false]
   repeat(refine wkB ?_;intros)
   exact ZF rfl (Z6 rfl) (Zy rfl) (fun w hw=>ZP hw)
  ·have h2:isqI (q.den:Int)=false:=by
    rw[h1,Bool.true_and] at h
    exact Bool.eq_false_iff.2 h
   simp only[h2,Bool.not_true,Bool.not_false]
   repeat(refine wkB ?_;intros)
   exact ZF rfl (Z6 rfl) (Zy rfl) (fun w hw=>ZP hw)
instance Zul (q:Rat):SpecC prog 197 [vQ q] (.tuple #[vQ ((rtQ q).getD 0), .bool (rtQ q).isSome]) (M q<=1048576):=⟨fun hp w=>Zid q w hp⟩
end
section
instance (priority :=high) ZAV {P:Program}{w0:World}{n:Nat}{L:List Blk}{E:Env}{T T0:TypeId}{x:Operand}{b:Nat}{i:Int}{a1 a2:Sl}[IsC (evl E x) (.pointer (some ⟨b,0+i.toNat*1,none⟩))][h:AtC w0 L b (row eSlc [a1,a2] []) T0][hv:LdC P T (eSlc (gi [a1,a2] i)) 0 (.slice (gi [a1,a2] i).a (gi [a1,a2] i).len (gi [a1,a2] i).cap)]:YsC P w0 n L E (.load T x) (.slice (gi [a1,a2] i).a (gi [a1,a2] i).len (gi [a1,a2] i).cap) (0<=i/\i<2):=⟨fun hi=>Zkf.out (by show i.toNat<2;omega)⟩
theorem ZpV (x y:Ev):∀w:World,(Instr.buildSlice 213 2 [(0,vEv x),(1,vEv y)].toArray).run prog w= .ok (.slice (some ⟨w.heap.size,0,none⟩) 2 2) (w.alloc (.cells (row eEv [x,y] []) 216)):=fun w=>by kernel_rfl
instance ZA4 (x y:Ev):BsC prog 213 2 [(0,vEv x),(1,vEv y)] (row eEv [x,y] []) 216:=⟨ZpV x y⟩
instance (priority :=high) ZB7 {P:Program}{w0:World}{n:Nat}{L:List Blk}{E:Env}{T T0:TypeId}{x:Operand}{b:Nat}{i a1 a2:Int}[IsC (evl E x) (.pointer (some ⟨b,0+i.toNat*1,none⟩))][h:AtC w0 L b (row (eI .i64) [a1,a2] []) T0][hv:LdC P T (eI .i64 (gi [a1,a2] i)) 0 (.int .i64 (gi [a1,a2] i))]:YsC P w0 n L E (.load T x) (.int .i64 (gi [a1,a2] i)) (0<=i/\i<2):=⟨fun hi=>Zkf.out (by show i.toNat<2;omega)⟩
instance Zzx (x:Ev):LdC prog 3 (eEv x) (10+Int.toNat 0*1) (.int .i64 x.n0):=⟨ZD⟩
instance ZzI (x:Ev):LdC prog 3 (eEv x) (10+Int.toNat 1*1) (.int .i64 x.n1):=⟨ZD⟩
set_option maxHeartbeats 4000000 in
theorem ZkU (kf:FuncId)(kp:Bool->Bool->Bool)[CallC prog kf](hkp:∀a b,SpecC prog kf [.bool a, .bool b] (.bool (kp a b)) True)(v1 v2:Value)(is js:List Za)(w:World)(hv1:ArgS w v1 rI is)(hv2:ArgS w v2 rI js)(hl:2*is.length+2*js.length<=65536)(hk0:kp false false=false)(ho1:∀i∈is,BdOk (bdF i)/\BdOk (bdL i))(ho2:∀i∈js,BdOk (bdF i)/\BdOk (bdL i)):
  Calls prog 138 [v1,v2,vFn kf].toArray w (RetM (SlS rI 20 (swpR kp is js)) (fun s=>vSl s) (fun s=>mS 37 s) w):=by
 refine Zb Tryz.func138 rfl Tryz.ntmps138 rfl ?_
 obtain⟨p1,c1,rfl⟩:=hv1.form
 obtain⟨p2,c2,rfl⟩:=hv2.form
 repeat(refine wkB ?_;intros)
 rename_i b23
 refine Zq (S:=(ys:List Ev)×Nat×SlS eEv 12 ys) (fun s=>s.1=evK is js s.2.1/\s.2.1<=2) (fun s=>[(2,vFn kf),(7,vSl s.2.2),(23, .slice (some ⟨b23,0,none⟩) 2 2),(24, .int .i64 2),(25, .int .i64 (s.2.1:Nat))])
  (fun s=>mS 216 s.2.2++[⟨b23,row eSlc [⟨p1,is.length,c1⟩,⟨p2,js.length,c2⟩] [],47⟩]) (fun s=>2-s.2.1) ⟨[],0,SlS.no⟩ ⟨rfl,Wm _⟩ sbB slB (fun s hs=>?_)
 obtain⟨ys,k,s⟩:=s
 obtain⟨hys,hk⟩:=hs
 simp only at hys hk s⊢
 have hz:prog.info? 0=prog.info? 0:=rfl
 repeat(refine wkB ?_;intros)
 rcases(by omega:k=0\/k=1\/k=2) with h0|h0|h0
 ·subst h0
  simp only[Wc (show((0:Nat):Int)<2 by omega)]
  repeat(refine wkB ?_;intros)
  simp only[show gi [(⟨p1,is.length,c1⟩:Sl),⟨p2,js.length,c2⟩] ((0:Nat):Int)=⟨p1,is.length,c1⟩ from rfl]
  repeat(refine wkB ?_;intros)
  refine Zq (S:=(zs:List Ev)×Nat×SlS eEv 12 zs) (fun r=>r.1=evA is r.2.1/\r.2.1<=is.length) (fun r=>[(2,vFn kf),(7,vSl r.2.2),(8, .int .i64 0),(23, .slice (some ⟨b23,0,none⟩) 2 2),(24, .int .i64 2),(25, .int .i64 0),(30, .slice p1 is.length c1),(31, .int .i64 is.length),(32, .int .i64 (r.2.1:Nat))])
   (fun r=>mS 216 r.2.2++[⟨b23,row eSlc [⟨p1,is.length,c1⟩,⟨p2,js.length,c2⟩] [],47⟩]) (fun r=>is.length-r.2.1) ⟨ys,0,s⟩ ⟨hys,Wm _⟩ sbB slB (fun r hr=>?_)
  obtain⟨zs,m,r⟩:=r
  obtain⟨hzs,hm⟩:=hr
  simp only at hzs hm r⊢
  repeat(refine wkB ?_;intros)
  refine Zk rfl (fun h=>?_) (fun h=>?_)
  ·have hlt:m<is.length:=by have:=Wa h;omega
   have hne:is≠[]:=fun h0=>by rw[h0] at hlt;simp at hlt
   obtain⟨bw,ow,cw,hvw,hcw,hrow⟩:=hv1.blk (k:=19) hne []
   injection hvw with e1 e2 e3
   subst e1
   subst e3
   have hrow':∀L,RowC w L bw ow Za rI is:=fun L=>⟨fun w' hw'=>hrow.out w' (hw'.sub (Wk _))⟩
   have hel:=ZeD is m
   repeat(refine wkB ?_;intros)
   rename_i b11
   obtain⟨iv,hiv⟩:∃iv,iv=gi is (m:Int):=⟨_,rfl⟩
   simp only[<-hiv]
   (refine Zb4 [0,1,2,3,4,5] [6,7] [8,9] ([⟨b11,Zh (Zf iv),37⟩]) (h:=?_);refine wkI ?_)
   (repeat(refine wkH ?_))
   repeat(refine wkT ?_;intros)
   repeat(refine wkB ?_;intros)
   refine sU rfl rfl ?_ ?_ ?_ ?_
   ·rfl
   ·rfl
   ·exact⟨by decide,by rw[hzs];omega,by rw[hzs];omega⟩
   intro r'
   repeat(first|(refine wkB ?_;intros)|(refine wnM ?_ ?_;(focus(exact⟨by omega,by omega⟩));intros))
   exact Zg ⟨_,m+1,r'⟩ ⟨by show zs++_=evA is m++_;rw[hzs,hiv],hlt⟩ sbB suB (by show is.length-(m+1)<is.length-m;omega)
  ·have hge:m=is.length:=by have:=Wb h;omega
   subst hge
   repeat(refine wkB ?_;intros)
   exact Zg ⟨zs,1,r⟩ ⟨hzs,Nat.le_of_ble_eq_true rfl⟩ sbB suB (by show 2-1<2-0;decide)
 ·subst h0
  simp only[Wc (show((1:Nat):Int)<2 by omega)]
  repeat(refine wkB ?_;intros)
  simp only[show gi [(⟨p1,is.length,c1⟩:Sl),⟨p2,js.length,c2⟩] ((1:Nat):Int)=⟨p2,js.length,c2⟩ from rfl]
  repeat(refine wkB ?_;intros)
  refine Zq (S:=(zs:List Ev)×Nat×SlS eEv 12 zs) (fun r=>r.1=evA is is.length++evB js r.2.1/\r.2.1<=js.length) (fun r=>[(2,vFn kf),(7,vSl r.2.2),(8, .int .i64 1),(23, .slice (some ⟨b23,0,none⟩) 2 2),(24, .int .i64 2),(25, .int .i64 1),(30, .slice p2 js.length c2),(31, .int .i64 js.length),(32, .int .i64 (r.2.1:Nat))])
   (fun r=>mS 216 r.2.2++[⟨b23,row eSlc [⟨p1,is.length,c1⟩,⟨p2,js.length,c2⟩] [],47⟩]) (fun r=>js.length-r.2.1) ⟨ys,0,s⟩ ⟨by rw[evB,Wh];exact hys,Wm _⟩ sbB slB (fun r hr=>?_)
  obtain⟨zs,m,r⟩:=r
  obtain⟨hzs,hm⟩:=hr
  simp only at hzs hm r⊢
  repeat(refine wkB ?_;intros)
  refine Zk rfl (fun h=>?_) (fun h=>?_)
  ·have hlt:m<js.length:=by have:=Wa h;omega
   have hne:js≠[]:=fun h0=>by rw[h0] at hlt;simp at hlt
   obtain⟨bw,ow,cw,hvw,hcw,hrow⟩:=hv2.blk (k:=19) hne []
   injection hvw with e1 e2 e3
   subst e1
   subst e3
   have hrow':∀L,RowC w L bw ow Za rI js:=fun L=>⟨fun w' hw'=>hrow.out w' (hw'.sub (Wk _))⟩
   have hel:=Zf6 js m
   have hel2:=ZeD is is.length
   repeat(refine wkB ?_;intros)
   rename_i b11
   obtain⟨iv,hiv⟩:∃iv,iv=gi js (m:Int):=⟨_,rfl⟩
   simp only[<-hiv]
   (refine Zb4 [0,1,2,3,4,5] [6,7] [8,9] ([⟨b11,Zh (Zf iv),37⟩]) (h:=?_);refine wkI ?_)
   (repeat(refine wkH ?_))
   repeat(refine wkT ?_;intros)
   repeat(refine wkB ?_;intros)
   refine sU rfl rfl ?_ ?_ ?_ ?_
   ·rfl
   ·rfl
   ·exact⟨by decide,by rw[hzs,Wp];omega,by rw[hzs,Wp];omega⟩
   intro r'
   repeat(first|(refine wkB ?_;intros)|(refine wnM ?_ ?_;(focus(exact⟨by omega,by omega⟩));intros))
   exact Zg ⟨_,m+1,r'⟩ ⟨by show zs++_=evA is is.length++(evB js m++_);rw[hzs,hiv,List.append_assoc],hlt⟩ sbB suB (by show js.length-(m+1)<js.length-m;omega)
  ·have hge:m=js.length:=by have:=Wb h;omega
   subst hge
   repeat(refine wkB ?_;intros)
   exact Zg ⟨zs,2,r⟩ ⟨hzs,Nat.le_of_ble_eq_true rfl⟩ sbB suB (by show 2-2<2-1;decide)
 ·subst h0
  simp only[We (show¬((2:Nat):Int)<2 by omega)]
  have hlen2:ys.length<=65536:=by
   rw[hys]
   show(evA is is.length++evB js js.length).length<=65536
   rw[Wp,ZeD,Zf6]
   exact hl
  have hbd:∀u∈ys,BdOk u.b:=by
   rw[hys]
   intro u hu
   rcases List.mem_append.1 (show u∈evA is is.length++evB js js.length from hu) with h1|h1
   ·exact Zm8 ho1 _ (Wl _) u h1
   ·exact Znj ho2 _ (Wl _) u h1
  repeat(refine wkB ?_;intros)
  refine sZ rfl rfl ?_ ?_
  ·exact⟨by omega,hbd⟩
  intro s'
  obtain⟨⟨es,hso⟩,s3,hv3⟩:=s'
  dsimp only
  dsimp only at s3 hv3
  repeat(refine wkB ?_;intros)
  rename_i b15 b16
  have hzl:ys.length=es.length:=hso.p.length_eq.symm
  have hzb:∀u∈es,BdOk u.b:=fun u hu=>hbd u (hso.p.mem_iff.1 hu)
  have hz1:∀u∈es,Ev1 u:=fun u hu=>by
   have h2:=hso.p.mem_iff.1 hu
   rw[hys] at h2
   rcases List.mem_append.1 (show u∈evA is is.length++evB js js.length from h2) with h3|h3
   ·exact ZpK _ _ u h3
   ·exact ZpI _ _ u h3
  simp only[<-hv3,hzl]
  refine Zq (S:=(q:SwS)×Nat×SlS rI 20 q.out) (fun r=>r.1=sws kp es r.2.1/\r.2.1<=es.length) (fun r=>[(2,vFn kf),(7,vSl s3),(14,vSl r.2.2),(15, .pointer (some ⟨b15,0,none⟩)),(16, .pointer (some ⟨b16,0,none⟩)),(17, .bool r.1.on),(57,vSl s3),(58, .int .i64 es.length),(59, .int .i64 (r.2.1:Nat))])
   (fun r=>mS 37 r.2.2++(⟨b16,ZQ (ZS r.1.fr),193⟩::⟨b15,row (eI .i64) [r.1.n0,r.1.n1] [],78⟩::mS 216 s3)) (fun r=>es.length-r.2.1) ⟨sws kp es 0,0,SlS.no⟩ ⟨rfl,Wm _⟩ sbB suB (fun r hr=>?_)
  obtain⟨q,m,r⟩:=r
  obtain⟨hq,hm⟩:=hr
  simp only at hq hm r⊢
  repeat(refine wkB ?_;intros)
  refine Zk rfl (fun h=>?_) (fun h=>?_)
  ·have hlt:m<es.length:=by have:=Wa h;omega
   rcases s3.cases 216 with⟨h0, -, -⟩|⟨bE,cE,spE,hc1,hvE,hmE,hneE⟩
   ·rw[h0] at hlt;simp at hlt
   ·simp only[hvE,hmE]
    obtain⟨w1,w2⟩:=Zj1 (kp:=kp) hz1 m (by omega)
    rw[<-hq] at w1 w2
    obtain⟨w3,w4⟩:=hz1 _ (ZA (i:=(m:Int)) (xs:=es) (by omega))
    repeat(refine wkB ?_;intros)
    rename_i b19
    have q0:gi [q.n0,q.n1] 0=q.n0:=rfl
    have q1:gi [q.n0,q.n1] 1=q.n1:=rfl
    refine ZY (S:=Unit) (fun _=>True) (fun _=>[(2,vFn kf),(7, .slice (some ⟨bE,0,none⟩) es.length cE),(14,vSl r),(15, .pointer (some ⟨b15,0,none⟩)),(16, .pointer (some ⟨b16,0,none⟩)),(17, .bool q.on),(18, .int .i64 (m:Nat)),(19, .pointer (some ⟨b19,0,none⟩)),(57, .slice (some ⟨bE,0,none⟩) es.length cE),(58, .int .i64 es.length),(59, .int .i64 (m:Nat))])
     (fun _=>⟨b19,eEv (gi es (m:Int)),216⟩::(mS 37 r++[⟨b16,ZQ (ZS q.fr),193⟩,⟨b15,row (eI .i64) [q.n0+(gi es (m:Int)).n0,q.n1+(gi es (m:Int)).n1] [],78⟩,⟨bE,row eEv es spE,216⟩])) ?_ (fun _ _=>?_)
    ·(refine ZH (.v [0,2,3,4,6,8,9,10] (.e2 1 (.v [5] (.e1 7 (.v [11,12] (.e1 13 (.v [14] (.e1 15 (.fin))))))) 7 (.v [11] (.e1 1 (.v [5,12] (.e1 13 (.v [14] (.e1 15 (.fin))))))))) ([⟨b19,eEv (gi es (m:Int)),216⟩]) (h:=?_);refine wkX ?_)
     repeat' (first|(with_reducible refine And.intro ?_ ?_)|(with_reducible exact True.intro)|(refine wkT ?_;intros)|fail)
     all_goals simp only[q0,q1]
     all_goals refine eR rfl ?_ ?_
     all_goals first|exact Nat.le_of_ble_eq_true rfl|skip
     repeat' (first|(with_reducible refine And.intro ?_ ?_)|(with_reducible exact True.intro)|(refine wkT ?_;intros)|fail)
     all_goals refine eR rfl ?_ ?_
     all_goals first|exact Nat.le_of_ble_eq_true rfl|skip
     repeat' (first|(with_reducible refine And.intro ?_ ?_)|(with_reducible exact True.intro)|(refine wkT ?_;intros)|fail)
     all_goals exact Zj () trivial sbB suB
    repeat(refine wkB ?_;intros)
    obtain⟨x,hx⟩:∃x,x=gi es (m:Int):=⟨_,rfl⟩
    obtain⟨nx,hnx⟩:∃nx,nx=gi es ((m+1:Nat):Int):=⟨_,rfl⟩
    obtain⟨N0,hN0⟩:∃N0,N0=q.n0+(gi es (m:Int)).n0:=⟨_,rfl⟩
    obtain⟨N1,hN1⟩:∃N1,N1=q.n1+(gi es (m:Int)).n1:=⟨_,rfl⟩
    simp only[<-hN0,<-hN1]
    have hxo:=hzb _ (ZA (i:=(m:Int)) (xs:=es) (by omega))
    have e1:(m:Int)+1=((m+1:Nat):Int):=by omega
    refine ZY (S:=Bool) (fun v=>v=decide (m+1<es.length/\cmpB x.b nx.b=0)) (fun v=>[(2,vFn kf),(7, .slice (some ⟨bE,0,none⟩) es.length cE),(14,vSl r),(15, .pointer (some ⟨b15,0,none⟩)),(16, .pointer (some ⟨b16,0,none⟩)),(17, .bool q.on),(18, .int .i64 (m:Nat)),(19, .pointer (some ⟨b19,0,none⟩)),(57, .slice (some ⟨bE,0,none⟩) es.length cE),(58, .int .i64 es.length),(59, .int .i64 (m:Nat)),(94, .bool v)])
     (fun _=>⟨b19,eEv (gi es (m:Int)),216⟩::(mS 37 r++[⟨b16,ZQ (ZS q.fr),193⟩,⟨b15,row (eI .i64) [N0,N1] [],78⟩,⟨bE,row eEv es spE,216⟩])) ?_ (fun v hv=>?_)
    ·by_cases hml:m+1<es.length
     ·have hno:=hzb _ (ZA (i:=((m+1:Nat):Int)) (xs:=es) (by omega))
      refine jD 17 17 (h:=?_)
      (repeat(refine wkH ?_))
      simp only[Wc (show(m:Int)+1<(es.length:Int) by omega)]
      (repeat(refine wkH ?_))
      simp only[e1]
      (repeat(first|refine wkH ?_|(refine tC rfl rfl ?_ ?_;focus(exact⟨hxo,hno⟩))))
      refine Zo ?_
      refine Zs ?_
      repeat(refine wkB ?_;intros)
      exact Zj (decide (cmpB (gi es (m:Int)).b (gi es ((m+1:Nat):Int)).b=0)) (by rw[hx,hnx];simp[hml]) sbB suB
     ·refine jD 17 17 (h:=?_)
      (repeat(refine wkH ?_))
      simp only[We (show¬(m:Int)+1<(es.length:Int) by omega)]
      (repeat(refine wkH ?_))
      refine Zo ?_
      refine Zs ?_
      repeat(refine wkB ?_;intros)
      exact Zj false (by simp[hml]) sbB suB
    ·have hsw:sws kp es (m+1)=if m+1<es.length/\cmpB x.b nx.b=0 then⟨N0,N1,q.fr,q.on,q.out⟩ else
       ⟨N0,N1,if kp (decide (0<N0)) (decide (0<N1))&& !q.on then x.b else q.fr,kp (decide (0<N0)) (decide (0<N1)),if kp (decide (0<N0)) (decide (0<N1))&& !q.on then q.out else if !kp (decide (0<N0)) (decide (0<N1))&&q.on then q.out++[bdB q.fr x.b] else q.out⟩:=by
      rw[sws,<-hq,<-hx,<-hnx,hN0,hN1,hx]
     by_cases hc:m+1<es.length/\cmpB x.b nx.b=0
     ·rw[if_pos hc] at hsw
      rw[Wc hc] at hv
      subst hv
      repeat(first|(refine wkB ?_;intros)|(refine wnM ?_ ?_;(focus(exact⟨by omega,by omega⟩));intros))
      exact Zg ⟨⟨N0,N1,q.fr,q.on,q.out⟩,m+1,r⟩ ⟨hsw.symm,hlt⟩ sbB suB (by show es.length-(m+1)<es.length-m;omega)
     ·rw[if_neg hc] at hsw
      rw[We hc] at hv
      subst hv
      repeat(first|(refine wkB ?_;intros)|(refine wnM ?_ ?_;(focus(first|exact trivial|exact⟨by omega,by omega⟩));intros))
      obtain⟨nw,hnw⟩:∃nw,nw=kp (decide (0<N0)) (decide (0<N1)):=⟨_,rfl⟩
      simp only[show gi [N0,N1] 0=N0 from rfl,show gi [N0,N1] 1=N1 from rfl,<-hnw]
      rw[<-hnw] at hsw
      have hol:=Zjb kp es m
      rw[<-hq] at hol
      obtain⟨n0',n1',fr,on,out⟩:=q
      simp only at hol
      simp only at hsw r⊢
      rcases nw with _|_ <;> rcases on with _|_
      ·repeat(first|(refine wkB ?_;intros)|(refine wnM ?_ ?_;(focus(exact⟨by omega,by omega⟩));intros))
       exact Zg ⟨⟨N0,N1,fr,false,out⟩,m+1,r⟩ ⟨hsw.symm,hlt⟩ sbB suB (by show es.length-(m+1)<es.length-m;omega)
      ·repeat(first|(refine wkB ?_;intros)|(refine wnM ?_ ?_;(focus(first|exact trivial|exact⟨by omega,by omega⟩));intros))
       rw[<-hx]
       refine sU rfl rfl ?_ ?_ ?_ ?_
       ·rfl
       ·rfl
       ·exact⟨by decide,by omega,by omega⟩
       intro r'
       repeat(first|(refine wkB ?_;intros)|(refine wnM ?_ ?_;(focus(exact⟨by omega,by omega⟩));intros))
       exact Zg ⟨⟨N0,N1,fr,false,out++[bdB fr x.b]⟩,m+1,r'⟩ ⟨hsw.symm,hlt⟩ sbB suB (by show es.length-(m+1)<es.length-m;omega)
      ·repeat(first|(refine wkB ?_;intros)|(refine wnM ?_ ?_;(focus(exact⟨by omega,by omega⟩));intros))
       rw[<-hx]
       exact Zg ⟨⟨N0,N1,x.b,true,out⟩,m+1,r⟩ ⟨hsw.symm,hlt⟩ sbB suB (by show es.length-(m+1)<es.length-m;omega)
      ·repeat(first|(refine wkB ?_;intros)|(refine wnM ?_ ?_;(focus(exact⟨by omega,by omega⟩));intros))
       exact Zg ⟨⟨N0,N1,fr,true,out⟩,m+1,r⟩ ⟨hsw.symm,hlt⟩ sbB suB (by show es.length-(m+1)<es.length-m;omega)
  ·have hge:m=es.length:=by have:=Wb h;omega
   subst hge
   subst hq
   repeat(refine wkB ?_;intros)
   have hfin:swpR kp is js=(sws kp es es.length).out:=by
    have h1:=Zd9 is is.length
    have h2:=Zd9 js js.length
    have h3:evK is js 2=evA is is.length++evB js js.length:=rfl
    unfold swpR
    rw[<-hys]
    refine(ZqQ hk0 hso hbd ?_ ?_).symm
    ·rw[hys,h3,ZaP,h1.1.1,h2.2.1];rfl
    ·rw[hys,h3,ZaP,h1.1.2,h2.2.2];rfl
   obtain⟨r2,hr1,hr2⟩:=r.like hfin
   refine ZB (v:=vSl r2) rfl (by rw[hr1];rfl) (fun w hw=>⟨r2,rfl, ?_⟩)
   dsimp only
   rw[hr2]
   exact hw.sub suB
instance Zza (w0:World)(L:List Blk)(kf:FuncId)(kp:Bool->Bool->Bool)[CallC prog kf][hkp:∀a b,SpecC prog kf [.bool a, .bool b] (.bool (kp a b)) True](v1 v2:Value)(is js:List Za)[h1:LstC w0 L v1 Za rI is][h2:LstC w0 L v2 Za rI js]:SpecR prog w0 L 138 [v1,v2,vFn kf] (SlS rI 20 (swpR kp is js)) (fun s=>vSl s) (fun s=>mS 37 s) (2*is.length+2*js.length<=65536/\kp false false=false/\(∀i∈is,BdOk (bdF i)/\BdOk (bdL i))/\∀i∈js,BdOk (bdF i)/\BdOk (bdL i)):=⟨fun hp w hw=>ZkU kf kp hkp v1 v2 is js w (h1.out w hw) (h2.out w hw) hp.1 hp.2.1 hp.2.2.1 hp.2.2.2⟩
end
section
instance ZvZ (a b:Bool):SpecC prog 195 [.bool a, .bool b] (.bool (kpU a b)) True:=⟨fun _ w=>by
 refine Zb Tryz.func195 rfl Tryz.ntmps195 rfl ?_
 rcases a with _|_
 ·repeat(refine wkB ?_;intros)
  exact rtT rfl rfl
 ·repeat(refine wkB ?_;intros)
  exact rtT rfl rfl⟩
structure SwOk (is js:List Za):Prop where
 l:2*is.length+2*js.length<=65536
 a:∀i∈is,BdOk (bdF i)/\BdOk (bdL i)
 b:∀i∈js,BdOk (bdF i)/\BdOk (bdL i)
theorem Zlh (v1 v2:Value)(is js:List Za)(w:World)(hv1:ArgS w v1 rI is)(hv2:ArgS w v2 rI js)(h:SwOk is js):
  Calls prog 149 [v1,v2].toArray w (RetM (SlS rI 20 (swpR kpU is js)) (fun s=>vSl s) (fun s=>mS 37 s) w):=by
 have:=ArgC.mk hv1
 have:=ArgC.mk hv2
 refine Zb Tryz.func149 rfl Tryz.ntmps149 rfl ?_
 repeat(first|(refine wkB ?_;intros)|(refine wnM ?_ ?_;(focus(exact⟨h.l,rfl,h.a,h.b⟩));intros))
 rename_i s
 exact ZB rfl rfl (fun w hw=>⟨s,rfl,hw.sub suB⟩)
instance Zzc (w0:World)(L:List Blk)(v1 v2:Value)(is js:List Za)[h1:LstC w0 L v1 Za rI is][h2:LstC w0 L v2 Za rI js]:SpecR prog w0 L 149 [v1,v2] (SlS rI 20 (swpR kpU is js)) (fun s=>vSl s) (fun s=>mS 37 s) (SwOk is js):=⟨fun hp w hw=>Zlh v1 v2 is js w (h1.out w hw) (h2.out w hw) hp⟩
theorem ZlH (v1:Value)(is:List Za)(w:World)(hv1:ArgS w v1 rI is)(h:SwOk is []):
  Calls prog 106 [v1].toArray w (RetM (SlS rI 20 (swpR kpU is [])) (fun s=>vSl s) (fun s=>mS 37 s) w):=by
 have:=ArgC.mk hv1
 have hn:∀L,LstC w L (.slice none 0 0) Za rI []:=fun L=>⟨fun _ _=>⟨.inl ⟨rfl,rfl⟩⟩⟩
 refine Zb Tryz.func106 rfl Tryz.ntmps106 rfl ?_
 repeat(first|(refine wkB ?_;intros)|(refine wnM ?_ ?_;(focus(exact h));intros))
 rename_i s
 exact ZB rfl rfl (fun w hw=>⟨s,rfl,hw.sub suB⟩)
instance ZAi (w0:World)(L:List Blk)(v1:Value)(is:List Za)[h1:LstC w0 L v1 Za rI is]:SpecR prog w0 L 106 [v1] (SlS rI 20 (swpR kpU is [])) (fun s=>vSl s) (fun s=>mS 37 s) (SwOk is []):=⟨fun hp w hw=>ZlH v1 is w (h1.out w hw) hp⟩
end
section
def icb (x:ZN):Bool:=if x.Mag=ByteArray.empty then !x.Neg else !decide (x.Mag[0]? =some 0)
theorem ZnL {l:List UInt8}(h:l[0]? ≠some 0):Top l.reverse:=by
 intro b hb
 rw[List.getLast?_reverse] at hb
 intro h0
 subst h0
 refine h ?_
 cases l with
 |nil=>cases hb
 |cons x r=>simpa using hb
theorem bget (s:ByteArray)(i:Nat):s[i]? =s.data.toList[i]? :=by
 by_cases h:i<s.size
 ·have h':i<s.data.toList.length:=h
  rw[getElem?_pos s i h,getElem?_pos s.data.toList i h']
  rfl
 ·have h':¬i<s.data.toList.length:=h
  rw[getElem?_neg s i h,getElem?_neg s.data.toList i h']
theorem ZbV {x:ZN}:icb x=true↔∃a:Int,x=I a:=by
 obtain⟨n,s⟩:=x
 unfold icb
 simp only
 constructor
 ·intro h
  have hc:Can s:=by
   split at h
   ·rename_i h0
    subst h0
    exact Zkc 0
   ·rename_i h0
    simp only[Bool.not_eq_true',decide_eq_false_iff_not] at h
    exact ZnL (by rw[<-bget];exact h)
  have hm:=ZoW hc
  refine⟨if n=true then-(vmag s:Int) else(vmag s:Int), ?_⟩
  unfold I
  cases n
  ·simp only[Bool.false_eq_true,if_false,Int.natAbs_natCast,hm]
   rw[We (by omega)]
  ·simp only[if_true,Int.natAbs_neg,Int.natAbs_natCast,hm]
   congr 1
   have hne:vmag s≠0:=fun h0=>by
    rw[h0] at hm
    split at h
    ·cases h
    ·rename_i h1
     exact h1 (hm.symm.trans ZdF)
   simp
   omega
 ·rintro⟨a,h⟩
  unfold I at h
  injection h with h1 h2
  subst h1
  subst h2
  split
  ·rename_i h0
   have:=Z7.1 h0
   simp
   omega
  ·rename_i h0
   simp only[Bool.not_eq_true',decide_eq_false_iff_not]
   intro h1
   have hc:=Zkc a.natAbs
   rw[bget] at h1
   cases hl:(mag a.natAbs).data.toList with
   |nil=>rw[hl] at h1;cases h1
   |cons y r=>
    rw[hl] at h1
    simp only[List.getElem?_cons_zero,Option.some.injEq] at h1
    unfold Can Top at hc
    rw[hl] at hc
    exact hc y (by simp) h1
theorem ZgT (a:Int):icb (I a)=true:=ZbV.2 ⟨a,rfl⟩
instance Zvd (x:ZN):SpecC prog 218 [.agg (Zt x)] (.int .i64 (if icb x=true then 0 else 5)) True:=⟨fun _ w=>by
 refine Zb Tryz.func218 rfl Tryz.ntmps218 rfl ?_
 repeat(refine wkB ?_;intros)
 by_cases h:x.Mag=ByteArray.empty
 ·have e:icb x= !x.Neg:=by unfold icb;rw[if_pos h]
  have hd:=Wc (show x.Mag=⟨#[]⟩ from h)
  rw[e]
  simp only[hd]
  repeat(refine wkB ?_;intros)
  rcases hN:x.Neg with _|_
  ·repeat(refine wkB ?_;intros)
   simp only[hd,Bool.not_true]
   repeat(refine wkB ?_;intros)
   exact rtT rfl rfl
  ·repeat(refine wkB ?_;intros)
   exact rtT rfl rfl
 ·have e:icb x= !decide (x.Mag[0]? =some 0):=by unfold icb;rw[if_neg h]
  have hd:=We (show¬x.Mag=⟨#[]⟩ from h)
  rw[e]
  simp only[hd]
  repeat(refine wkB ?_;intros)
  simp only[hd,Bool.not_false]
  repeat(refine wkB ?_;intros)
  obtain⟨u,hu⟩:∃u,x.Mag[0]? =some u:=by
   rw[bget]
   cases hl:x.Mag.data.toList with
   |nil=>
    refine absurd ?_ h
    have h2:x.Mag.data=#[]:=by rw[<-Array.toArray_toList (xs:=x.Mag.data),hl]
    cases hx:x.Mag with
    |mk d=>
     rw[hx] at h2
     simp only at h2
     subst h2
     rfl
   |cons y r=>exact⟨y,rfl⟩
  refine jq (ZaX rfl rfl (by omega) (show x.Mag[(0:Int).toNat]? =some u from hu)) rfl rfl ?_
  repeat(refine wkB ?_;intros)
  have hd:decide (((u.toNat:Nat):Int)=0)=decide (x.Mag[0]? =some 0):=by
   rw[hu,decide_eq_decide]
   simp only[Option.some.injEq]
   constructor
   ·intro h0
    exact UInt8.toNat_inj.1 (by simpa using h0)
   ·intro h0
    subst h0
    rfl
  rw[hd]
  rcases hq:decide (x.Mag[0]? =some 0) with _|_
  ·repeat(refine wkB ?_;intros)
   exact rtT rfl rfl
  ·repeat(refine wkB ?_;intros)
   exact rtT rfl rfl⟩
def rcb (x:ZK):Bool:=icb x.Num&&(icb x.Den&&(decide (x.Den=I 0)||(!decide (Lib.compareInt (ival x.Den) 1<=0)&&decide ((Int.gcd (ival x.Num) (ival x.Den):Int)=1))))
where ival (x:ZN):Int:=if x.Neg=true then-(vmag x.Mag:Int) else vmag x.Mag
theorem Zci (a:Int):rcb.ival (I a)=a:=by
 unfold rcb.ival I
 simp only[Zb9,decide_eq_true_eq]
 split <;> omega
theorem Zdc {x:ZK}:rcb x=true↔∃q:Rat,x=Q q:=by
 obtain⟨n,d⟩:=x
 unfold rcb
 simp only[Wq,Bool.or_eq_true,Bool.not_eq_true',decide_eq_true_eq,decide_eq_false_iff_not]
 constructor
 ·rintro⟨h1,h2,h3⟩
  obtain⟨a,rfl⟩:=ZbV.1 h1
  obtain⟨b,rfl⟩:=ZbV.1 h2
  rw[Zci,Zci,ZbS] at h3
  rcases h3 with rfl|⟨h3,h4⟩
  ·exact⟨(a:Rat),(ZpF a)⟩
  ·have hb:1<b:=by
    unfold Lib.compareInt at h3
    split at h3
    ·omega
    ·split at h3 <;> omega
   have hc:Nat.Coprime a.natAbs b.natAbs:=by
    have:Int.gcd a b=1:=by omega
    exact this
   refine⟨⟨a,b.natAbs,by omega,hc⟩, ?_⟩
   unfold Q dn
   simp only
   rw[if_neg (by omega)]
   congr 2
   omega
 ·rintro⟨q,h⟩
  unfold Q at h
  injection h with h1 h2
  subst h1
  subst h2
  refine⟨ZgT _,ZgT _, ?_⟩
  rw[Zci,Zci,ZbS]
  have hp:=q.den_pos
  by_cases hd:q.den=1
  ·exact .inl (Zf1.2 hd)
  ·have e:dn q=q.den:=by unfold dn;rw[if_neg hd]
   refine .inr ⟨?_, ?_⟩
   ·rw[e]
    unfold Lib.compareInt
    rw[if_neg (by omega),if_pos (by omega)]
    omega
   ·rw[e]
    have hc:=q.reduced
    have h0:Int.gcd q.num (q.den:Int)=1:=hc
    omega
theorem Zfd (q:Rat):rcb (Q q)=true:=Zdc.2 ⟨q,rfl⟩
theorem Zlt {n d:ZN}:rcb ⟨n,d⟩=(icb n&&(icb d&&(decide (d=I 0)||(!decide (Lib.compareInt (rcb.ival d) 1<=0)&&decide ((Int.gcd (rcb.ival n) (rcb.ival d):Int)=1))))):=rfl
instance ZkF (x:ZK):SpecC prog 196 [.agg (Zn x)] (.int .i64 (if rcb x=true then 0 else 5)) (x.Num.Mag.size<=LIM/\x.Den.Mag.size<=LIM):=⟨fun hp w=>by
 obtain⟨p1,p2⟩:=hp
 refine Zb Tryz.func196 rfl Tryz.ntmps196 rfl ?_
 repeat(refine wkB ?_;intros)
 rcases hn:icb x.Num with _|_
 ·rw[show rcb x=false by unfold rcb;rw[hn];rfl]
  repeat(refine wkB ?_;intros)
  exact rtT rfl rfl
 repeat(refine wkB ?_;intros)
 rcases hd:icb x.Den with _|_
 ·rw[show rcb x=false by unfold rcb;rw[hn,hd];rfl]
  repeat(refine wkB ?_;intros)
  exact rtT rfl rfl
 obtain⟨a,ha⟩:=ZbV.1 hn
 obtain⟨b,hb⟩:=ZbV.1 hd
 obtain⟨n,d⟩:=x
 simp only at ha hb p1 p2 hn hd⊢
 subst ha
 subst hb
 rw[Zlt,hn,hd,Zci,Zci,Bool.true_and,Bool.true_and]
 have hz:decide (I b=I 0)=decide (b=0):=by rw[decide_eq_decide];exact ZbS
 rw[hz]
 repeat(refine wkB ?_;intros)
 by_cases hb:b=0
 ·simp only[Wc hb]
  repeat(refine wkB ?_;intros)
  exact rtT rfl rfl
 ·simp only[We hb]
  repeat(refine wkB ?_;intros)
  refine jD 14 14 (h:=?_)
  (repeat(refine wkH ?_))
  rcases hc:decide (Lib.compareInt b 1<=0) with _|_
  ·(repeat(first|refine wkH ?_|(refine tC rfl rfl ?_ ?_;focus(first|exact trivial|exact⟨p1,p2⟩))))
   refine Zo ?_
   refine Zs ?_
   repeat(refine wkB ?_;intros)
   rcases hg:decide (((Int.gcd a b:Nat):Int)=1) with _|_
   ·repeat(refine wkB ?_;intros)
    exact rtT rfl rfl
   ·repeat(refine wkB ?_;intros)
    exact rtT rfl rfl
  ·(repeat(refine wkH ?_))
   refine Zo ?_
   refine Zs ?_
   repeat(refine wkB ?_;intros)
   exact rtT rfl rfl⟩
instance (priority :=high) Zv6 (q:Rat):SpecC prog 196 [vQ q] (.int .i64 0) (M q<=LQ):=⟨fun hp w=>by
 have h:=(ZkF (Q q)).out ⟨?_, ?_⟩ w
 ·rw[Zfd] at h
  exact h
 ·have:=Wi (ZaG q) hp
  exact Wi this (by decide)
 ·show(mag (dn q).natAbs).size<=LIM
  have h1:=Wi (ZaK q) hp
  unfold dn
  split
  ·decide
  ·exact Wi h1 (by decide)⟩
end
section
theorem Zne :(0:Rat).num.sign=0:=by decide
instance ZgL (x:Zi):SpecC prog 150 [vR x] (.int .i64 0) (RlB KR x/\x.R=0):=⟨fun hp w=>by
 obtain⟨p,r,n⟩:=x
 obtain⟨h1,h2⟩:=hp
 simp only at h2
 subst h2
 obtain rfl:n=false:=h1.o.z rfl
 have h3:M p<=LQ:=Wi h1.p (by decide)
 have h0:M 0<=LQ:=by decide
 refine Zb Tryz.func150 rfl Tryz.ntmps150 rfl ?_
 repeat(refine wkB ?_;intros)
 simp only[Zne]
 repeat(refine wkB ?_;intros)
 exact rtT rfl rfl⟩
instance Zv3 (f:Int)(z:Array Value):SpecC prog 298 [.agg z, .int .i64 f] (.int .i64 0) True:=⟨fun _ w=>by
 refine Zb Tryz.func298 rfl Tryz.ntmps298 rfl ?_
 repeat(refine wkB ?_;intros)
 exact rtT rfl rfl⟩
instance Zu9 :MethC prog 109 (.agg #[]) "Check" 298 (.agg #[]):=⟨fun w=>by kernel_rfl⟩
instance Zw4 :LdC prog 107 #[vLabels] 0 vLabels:=⟨ZD (by kernel_rfl) rfl⟩
instance Zz6 {E:Env}{T:TypeId}{x:Operand}{d:TypeId}{v:Value}[h:IsC (evl E x) (.iface d v)]:AlC prog E (.box T x) #[.iface d v] T:=⟨fun hg hd h=>ZlI isE hg hd h⟩
theorem Zo5 (x y:UL)(b:Nat)(w:World)(hb:∃T fz,w.heap[b]? =some (.cells #[vLabels] T fz)):Calls prog 155 [vUL x,vUL y, .pointer (some ⟨b,0,none⟩)].toArray w (Ret (.bool (decide (x=y))) w):=by
 obtain⟨T,hb⟩:=hb
 have:=FoC.mk hb
 refine Zb Tryz.func155 rfl Tryz.ntmps155 rfl ?_
 repeat(refine wkB ?_;intros)
 by_cases h:x.In=y.In
 ·simp only[Wc h]
  repeat(refine wkB ?_;intros)
  have e:decide (x.F=y.F)=decide (x=y):=by
   rw[decide_eq_decide]
   obtain⟨I,F⟩:=x
   obtain⟨I',F'⟩:=y
   simp only at h
   subst h
   simp
  rw[e]
  exact rtT rfl rfl
 ·simp only[We h]
  repeat(refine wkB ?_;intros)
  rw[We (show¬x=y from fun e=>h (by rw[e]))]
  exact rtT rfl rfl
instance ZBv (w0:World)(L:List Blk)(x y:UL)(b:Nat)(T:TypeId)[h:AtC w0 L b #[vLabels] T]:SpecM prog w0 L 155 [vUL x,vUL y, .pointer (some ⟨b,0,none⟩)] (.bool (decide (x=y))) True:=⟨fun _ w hw=>Zo5 x y b w ⟨T,h.out w hw⟩⟩
theorem Zor (v1 v2:Value)(us:List UL)(b:Nat)(w:World)(h1:ArgS w v1 rU us)(h2:ArgS w v2 rU us)(hb:∃T fz,w.heap[b]? =some (.cells #[vLabels] T fz))(hl:us.length<=1048576):
  Calls prog 154 [v1,v2, .func (.func 155) #[] [.pointer (some ⟨b,0,none⟩)].toArray].toArray w (Ret (.bool true) w):=by
 obtain⟨T,hb⟩:=hb
 have:=FoC.mk hb
 refine Zb Tryz.func154 rfl Tryz.ntmps154 rfl ?_
 obtain⟨p1,c1,rfl⟩:=h1.form
 obtain⟨p2,c2,rfl⟩:=h2.form
 repeat(refine wkB ?_;intros)
 simp only[Wc (rfl:(us.length:Int)=(us.length:Int)),Bool.not_true]
 repeat(refine wkB ?_;intros)
 refine Zq (S:=Nat) (fun m=>m<=us.length) (fun m=>[(1, .slice p2 us.length c2),(2, .func (.func 155) #[] [.pointer (some ⟨b,0,none⟩)].toArray),(15, .slice p1 us.length c1),(16, .int .i64 us.length),(17, .int .i64 (m:Nat))]) (fun _=>[]) (fun m=>us.length-m) 0 (Wm _) sbB slB (fun m hm=>?_)
 repeat(refine wkB ?_;intros)
 refine Zk rfl (fun h=>?_) (fun h=>?_)
 ·have hlt:m<us.length:=by have:=Wa h;omega
  have hne:us≠[]:=fun h0=>by rw[h0] at hlt;simp at hlt
  obtain⟨b1,o1,c1',hv1,hc1,hr1⟩:=h1.blk (k:=20) hne []
  injection hv1 with e1 e2 e3
  subst e1
  subst e3
  obtain⟨b2,o2,c2',hv2,hc2,hr2⟩:=h2.blk (k:=20) hne []
  injection hv2 with e1 e2 e3
  subst e1
  subst e3
  have hr1':∀L,RowC w L b1 o1 UL rU us:=fun L=>⟨fun w' hw'=>hr1.out w' (hw'.sub (Wk _))⟩
  have hr2':∀L,RowC w L b2 o2 UL rU us:=fun L=>⟨fun w' hw'=>hr2.out w' (hw'.sub (Wk _))⟩
  repeat(refine wkB ?_;intros)
  simp only[Wc (rfl:gi us (m:Int)=gi us (m:Int)),Bool.not_true]
  repeat(refine wkB ?_;intros)
  exact Zg (m+1) hlt sbB slB (by omega)
 ·repeat(refine wkB ?_;intros)
  exact rtT rfl rfl
instance ZBF (w0:World)(L:List Blk)(v1 v2:Value)(us:List UL)(b:Nat)(T:TypeId)[h1:LstC w0 L v1 UL rU us][h2:LstC w0 L v2 UL rU us][h:AtC w0 L b #[vLabels] T]:SpecM prog w0 L 154 [v1,v2, .func (.func 155) #[] [.pointer (some ⟨b,0,none⟩)].toArray] (.bool true) (us.length<=1048576):=⟨fun hp w hw=>Zor v1 v2 us b w (h1.out w hw) (h2.out w hw) ⟨T,h.out w hw⟩ hp⟩
theorem Zom (v1 v2:Value)(us:List UL)(w:World)(h1:ArgS w v1 rU us)(h2:ArgS w v2 rU us)(hl:us.length<=1048576):
  Calls prog 109 [vLabels,v1,v2].toArray w (Ret (.bool true) w):=by
 have:=ArgC.mk h1
 have:=ArgC.mk h2
 refine Zb Tryz.func109 rfl Tryz.ntmps109 rfl ?_
 repeat(first|(refine wkB ?_;intros)|(refine wnM ?_ ?_;(focus(exact hl));intros))
 exact rtT rfl rfl
instance ZBu (w0:World)(L:List Blk)(v1 v2:Value)(us:List UL)[h1:LstC w0 L v1 UL rU us][h2:LstC w0 L v2 UL rU us]:SpecM prog w0 L 109 [vLabels,v1,v2] (.bool true) (us.length<=1048576):=⟨fun hp w hw=>Zom v1 v2 us w (h1.out w hw) (h2.out w hw) hp⟩
theorem ZuY {R:List UL}(h:NF (R.map absU)){i j:Nat}(hij:i<j)(hj:j<R.length):(absU (gi R (i:Int))).bfr (absU (gi R (j:Int))):=by
 have h1:=List.pairwise_iff_getElem.1 h.pw i j (by rw[Ws];omega) (by rw[Ws];omega) hij
 rw[List.getElem_map,List.getElem_map,<-Zw (by omega),<-Zw hj] at h1
 exact h1.bf
theorem Zia {us:List UL}(h:NF (us.map absU))(hk:∀u∈us,UIn u):nrmR us=us/\nrmE us=0/\∀i,i+1<us.length->aprt (gi us (i:Int)).In (gi us ((i+1:Nat):Int)).In=true:=by
 have hd:(us.map absU).Pairwise Dis:=h.pw.imp fun h=>h.bf.Dis
 have hv:UVal us:=⟨hk,fun u hu=>h.ok _ (List.mem_map.2 ⟨u,hu,rfl⟩)⟩
 obtain⟨h1,h2⟩:=ZfG hv hd
 refine⟨ZeU (fun u hu=>(Zke hk u hu).i) (fun u hu=>(hk u hu).i) (NF.uniq h1 h h2),(Zfg hv).2 hd,fun i hi=>?_⟩
 exact ZdE.2 (ZuY h (i:=i) (j:=i+1) (by omega) hi)
theorem Zjn {α β:Type}[Inhabited α](f:α->β)(xs:List α):mpN f xs xs.length=xs.map f:=by
 apply List.ext_getElem
 ·rw[ZaV,Ws]
 ·intro i h1 h2
  rw[List.getElem_map]
  have key:∀m,m<=xs.length->mpN f xs m=(xs.take m).map f:=fun m=>by
   induction m with
   |zero=>intro _;rfl
   |succ m ih=>intro hm;rw[mpN,ih (by omega),Wn (by omega),List.map_append,Zw (by omega)];rfl
  have:=key xs.length (Wl _)
  rw[List.take_length] at this
  simp[this]
noncomputable def absP (u:PU):GU Ri Int:=⟨ri u.In.From,ri u.In.To,u.In.OpenFrom,u.In.OpenTo,u.Label⟩
structure PFine (us:List PU):Prop where
 nf:NF (us.map absP)
 k:∀u∈us,UIn (toU u)
 r:∀u∈us,u.In.From.R=0/\u.In.To.R=0
 l:us.length<=19
end
section
def LeU (u:PU):Prop:=ri u.In.From<=ri u.In.To
theorem Zd4 {l:List St}{ins cs:List Za}:∀i,i<=cs.length->∀u∈mvS l ins cs i,u.In∈cs
 |0,_,u,hu=>by cases hu
 |i+1,hi,u,hu=>by
  rw[mvS] at hu
  unfold mv1 at hu
  split at hu
  ·rw[Wv,Wo] at hu
   rcases hu with hu|rfl
   ·exact Zd4 i (by omega) u hu
   ·exact ZA (by omega)
  ·exact Zd4 i (by omega) u hu
theorem Zrn {l:List PU}(h:∀u∈l,LeU u):∀i,i<=l.length->∀u∈jnL l i,LeU u
 |0,_,u,hu=>by cases hu
 |i+1,hi,u,hu=>by
  have ih:=Zrn h i (by omega)
  have h1:=h (gi l (i:Int)) (ZA (by omega))
  rw[jnL] at hu
  unfold jn1 at hu
  split at hu
  ·rename_i hc
   rcases List.mem_or_eq_of_mem_set hu with hu|rfl
   ·exact ih u hu
   ·have h2:=ih (lstP (jnL l i)) (ZA (by omega))
    have h3:=hc.2
    unfold jnB at h3
    rw[Wq,Wq] at h3
    have h4:(lstP (jnL l i)).In.To=(gi l (i:Int)).In.From:=Wa h3.2.1
    unfold LeU at h1 h2⊢
    rw[h4] at h2
    show ri (lstP (jnL l i)).In.From<=ri (gi l (i:Int)).In.To
    grind
  ·rw[Wv,Wo] at hu
   rcases hu with hu|rfl
   ·exact ih u hu
   ·exact h1
theorem ZkE {Pr:Rl->Prop}{l:List PU}(h:∀u∈l,Pr u.In.From/\Pr u.In.To):∀i,i<=l.length->∀u∈jnL l i,Pr u.In.From/\Pr u.In.To
 |0,_,u,hu=>by cases hu
 |i+1,hi,u,hu=>by
  have ih:=ZkE h i (by omega)
  have h1:=h (gi l (i:Int)) (ZA (by omega))
  rw[jnL] at hu
  unfold jn1 at hu
  split at hu
  ·rename_i hc
   rcases List.mem_or_eq_of_mem_set hu with hu|rfl
   ·exact ih u hu
   ·exact⟨(ih (lstP (jnL l i)) (ZA (by omega))).1,h1.2⟩
  ·rw[Wv,Wo] at hu
   rcases hu with hu|rfl
   ·exact ih u hu
   ·exact h1
theorem Zq0 {l:List St}(hk:∀x∈l,StOk x):∀u∈movV l,IvOk 3 u.In:=fun u hu=>by
 have:=ZkE (Pr:=RlB 3) (fun u hu=>⟨(Zem hk _ (Zd4 _ (Wl _) u hu)).a,(Zem hk _ (Zd4 _ (Wl _) u hu)).b⟩) _ (Wl _) u hu
 exact⟨this.1,this.2⟩
end
end Go.Vt
namespace Go.Vt
abbrev rl (q:Rat):Rl:=⟨q,0,false⟩
theorem Zk7 (q:Rat):(rvR (rl q)).ok:=RV.ok_rat q
theorem ps0 {u v:Rat}:ps 0 u v↔0<u:=by
 unfold ps
 constructor
 ·rintro(⟨h, -⟩|⟨-,h⟩)
  ·exact h
  ·have:=ZaD u;grind
 ·intro h
  exact .inl ⟨h,by have:=Rat.mul_pos h h;grind⟩
theorem Zua {p q:Rat}:ri (rl p)<ri (rl q)↔p<q:=by
 rw[Ri.lt_def,Zcc (Zk7 p),Zcc (Zk7 q)]
 constructor
 ·rintro⟨c,h1,h2⟩
  have h1:=ps0.1 h1
  have h2:=ps0.1 h2
  have e1:(rvR (rl p)).p=p:=rfl
  have e2:(rvR (rl q)).p=q:=rfl
  rw[e1] at h1
  rw[e2] at h2
  grind
 ·intro h
  refine⟨(p+q) / 2,ps0.2 ?_,ps0.2 ?_⟩
  ·show 0<(p+q) / 2-p;grind
  ·show 0<q-(p+q) / 2;grind
theorem ZlF {k:Nat}{q:Rat}(h:M q<=k)(hk:1<=k):RlB k (rl q):=⟨Zk7 q,h,Wi (show M 0<=1 by decide) hk⟩
end Go.Vt
namespace Go.Vt
open Go.RowKit Go.Proofs
open Go.Proofs.Tryz (prog)
def Dsc (x:Rl):Prop:=∃w:WI,x=insT w
end Go.Vt
