/- A part of the proof of OpBack: the law returns true for every input, and its arguments read as before. No condition. -/
import Derived.Test.YtigkkdoljkhcfaaGreatProg
import Derived.Laws.BitsAllLaws
import Derived.Test.YtigkkdoljkhcfaaGreatComE
set_option linter.unusedSimpArgs false
set_option linter.unusedVariables false
set_option linter.unusedSectionVars false
noncomputable section
namespace Go.Rx
theorem Ji {α R:Type} (n:α→Option R):∀ t:Tree α,t.run n=(t.run some).bind n
 | .ret a=>rfl
 | .no=>rfl
 | .cond b s t=>by
  simp only [Tree.run]
  cases b
  ·exact Ji n t
  ·exact Ji n s
 | @Tree.chk _ p d t=>by
  simp only [Tree.run,chk]
  split
  ·exact Ji n t
  ·rfl
 | .bind o k=>by
  simp only [Tree.run]
  cases o with
  | none=>rfl
  | some x=>exact Ji n (k x)
 | .opt o s k=>by
  simp only [Tree.run]
  cases o with
  | none=>exact Ji n s
  | some x=>exact Ji n (k x)
 | .sum x f g=>by
  cases x with
  | inl a=>exact Ji n (f a)
  | inr b=>exact Ji n (g b)
section r
variable {α R:Type} {n:α→Option R}
theorem qeY {a:α}:(Tree.ret a).run n=n a:=rfl
theorem qci {b:Bool} {s t:Tree α}:(Tree.cond b s t).run n=bif b then s.run n else t.run n:=rfl
theorem Jk {p:Prop} [Decidable p] {t:Tree α}:(Tree.chk p t).run n=chk p (t.run n):=rfl
theorem run_bind {β:Type} {o:Option β} {k:β→Tree α}:(Tree.bind o k).run n=o.bind fun x=>(k x).run n:=rfl
end r
theorem K3 {V W Y:Type} {B:V→Tree (V⊕W)} {g:W→Option Y} {v v':V} (h:(B v).run some=some (.inl v')) (N:Nat):zG B g (N + 1) v=zG B g N v':=by
 simp only [zG]
 rw [Ji,h]; rfl
theorem Xj {V W Y:Type} {B:V→Tree (V⊕W)} {g:W→Option Y} {v:V} {x:W} (h:(B v).run some=some (.inr x)) (N:Nat):zG B g (N + 1) v=g x:=by
 simp only [zG]
 rw [Ji,h]; rfl
theorem qb9 {V W Y : Type} {B : V → Tree (V ⊕ W)} {g : W → Option Y} {I : V → Prop} {Q : Y → Prop} (m : V → Nat)
    (h:∀ v,I v→(∃ v',(B v).run some=some (.inl v')∧I v'∧m v' < m v)∨∃ x y,(B v).run some=some (.inr x)∧g x=some y∧Q y) :
    ∀ (N:Nat) (v:V),I v→m v < N→∃ y,zG B g N v=some y∧Q y
 | 0,v,_,hm=>by omega
 | N + 1,v,hi,hm=>by
  rcases h v hi with ⟨v',h1,h2,h3⟩ | ⟨x,y,h1,h2,h3⟩
  ·rw [K3 h1]
   exact qb9 m h N v' h2 (by omega)
  ·rw [Xj h1]
   exact ⟨y,h2,h3⟩
theorem qjZ {W Y : Type} {B : Int → Tree (Int ⊕ W)} {g : W → Option Y} {p : Nat → Bool} {n : Nat} {hit : Nat → W} {fin : W}
    (h1:∀ k,k < n→(B (k:Int)).run some=some (if p k then .inr (hit k) else .inl ((k + 1:Nat):Int))) (h2:(B (n:Int)).run some=some (.inr fin)) :
    ∀ (N k:Nat),k≤n→n < N + k→zG B g N (k:Int)=g (match J0 p (n - k) k with | some j=>hit j | none=>fin)
 | 0,k,hk,hN=>by omega
 | N + 1,k,hk,hN=>by
  by_cases e:k=n
  ·subst e
   rw [Xj h2,Nat.sub_self]; rfl
  ·obtain ⟨m,hm⟩:∃ m,n - k=m + 1:=⟨n - k - 1,by omega⟩
   have h3:=h1 k (by omega)
   rw [hm]
   unfold J0
   cases hp:p k with
   | true=>
    rw [hp,if_pos rfl] at h3
    rw [Xj h3,if_pos rfl]
   | false=>
    rw [hp,if_neg (by simp)] at h3
    rw [K3 h3,qjZ h1 h2 N (k + 1) (by omega) (by omega),if_neg (by simp),show n - (k + 1)=m by omega]
def qva {σ:Type} (f:Nat→σ→σ):Nat→Nat→σ→σ
 | 0,_,s=>s
 | m + 1,k,s=>qva f m (k + 1) (f k s)
theorem WO {σ W Y : Type} {V : Type} {B : V → Tree (V ⊕ W)} {g : W → Option Y} {at_ : Nat → σ → V} {I : Nat → σ → Prop} {f : Nat → σ → σ} {n : Nat} {fin : σ → W}
    (h1:∀ k s,k < n→I k s→(B (at_ k s)).run some=some (.inl (at_ (k + 1) (f k s)))∧I (k + 1) (f k s)) (h2:∀ s,I n s→(B (at_ n s)).run some=some (.inr (fin s))) :
    ∀ (N k:Nat) (s:σ),I k s→k≤n→n < N + k→zG B g N (at_ k s)=g (fin (qva f (n - k) k s))
 | 0,k,s,_,hk,hN=>by omega
 | N + 1,k,s,hi,hk,hN=>by
  by_cases e:k=n
  ·subst e
   rw [Xj (h2 s hi),Nat.sub_self]; rfl
  ·obtain ⟨m,hm⟩:∃ m,n - k=m + 1:=⟨n - k - 1,by omega⟩
   obtain ⟨h3,h4⟩:=h1 k s (by omega) hi
   rw [K3 h3,WO h1 h2 N (k + 1) _ h4 (by omega) (by omega),hm,show n - (k + 1)=m by omega]
   rfl
theorem qsj {α:Type} {l:List α} {k n:Nat} {d:α} (hn:l.length=n) (h:k < l.length):Kr l n k=some (l.getD k d):=by
 unfold Kr; rw [if_pos hn,List.getElem?_eq_getElem h]; simp [List.getD,List.getElem?_eq_getElem h]
theorem ja {α:Type} {p:Prop} [Decidable p] {x:Option α} (h:p):chk p x=x:=if_pos h
theorem qjP {Z:Type} {a b:Nat} {ps:List (Nat×Nat)} {o:Option Z} (h:a=b):QW ((a,b)::ps) o=QW ps o:=if_pos h
end Go.Rx
end
noncomputable section
namespace Go.Rx
section
variable {α R:Type} {n:α→Option R} {y:Option R}
theorem qw {a:α} (h:n a=y):(Tree.ret a).run n=y:=h
theorem qF {p:Prop} [Decidable p] {t:Tree α} (h:p) (ht:t.run n=y):(Tree.chk p t).run n=y:=(ja h).trans ht
theorem qn {β:Type} {o:Option β} {k:β→Tree α} {x:β} (h:o=some x) (ht:(k x).run n=y):(Tree.bind o k).run n=y:=by subst h; exact ht
theorem w_t {b:Bool} {s t:Tree α} (h:b=true) (hs:s.run n=y):(Tree.cond b s t).run n=y:=by subst h; exact hs
theorem w_f {b:Bool} {s t:Tree α} (h:b=false) (ht:t.run n=y):(Tree.cond b s t).run n=y:=by subst h; exact ht
theorem w_l {β γ:Type} {z:β⊕γ} {f:β→Tree α} {g:γ→Tree α} {x:β} (h:z=.inl x) (hk:(f x).run n=y):(Tree.sum z f g).run n=y:=by subst h; exact hk
theorem w_r {β γ:Type} {z:β⊕γ} {f:β→Tree α} {g:γ→Tree α} {x:γ} (h:z=.inr x) (hk:(g x).run n=y):(Tree.sum z f g).run n=y:=by subst h; exact hk
theorem zT {b:Bool} {s t:Tree α} {c:Bool} (h:b=c) (hs:c=true→s.run n=y) (ht:c=false→t.run n=y):(Tree.cond b s t).run n=y:=by
 subst h; cases b
 ·exact ht rfl
 ·exact hs rfl
end
theorem Vc {k:Nat} (h:k≤4611686018427387904):qx ((k:Int) + 1):=by unfold qx; omega
end Go.Rx
end
noncomputable section
namespace Go.Rx
def zF:Ty:=.ag [.i .i64,.i .i64]
abbrev qi:=Int×Int
def qi.N (x:qi):Int:=x.1
def qi.Rep (x:qi):Int:=x.2
def qi.mk (x0:Int) (x1:Int):qi:=(x0,x1)
instance qi.dec:DecidableEq qi:=X2 zF
def qu:Ty:=.ag [.b,.i .i64,.i .i64,.s]
abbrev qb:=Bool×Int×Int×List UInt8
def qb.JV (x:qb):Bool:=x.1
def qb.jK (x:qb):Int:=x.2.1
def qb.Len (x:qb):Int:=x.2.2.1
def qb.Lit (x:qb):List UInt8:=x.2.2.2
def qb.mk (x0:Bool) (x1:Int) (x2:Int) (x3:List UInt8):qb:=(x0,x1,x2,x3)
instance qb.dec:DecidableEq qb:=X2 qu
def q6:Ty:=.ag [.i .i64,.ba 16,zF,.i .i64,.s,.sl 4 qu,.ba 16,.i .i64,.ba 32]
abbrev qa:=Int×Vector UInt8 16×qi×Int×List UInt8×List qb×Vector UInt8 16×Int×Vector UInt8 32
def qa.Kind (x:qa):Int:=x.1
def qa.ID (x:qa):Vector UInt8 16:=x.2.1
def qa.S (x:qa):qi:=x.2.2.1
def qa.No (x:qa):Int:=x.2.2.2.1
def qa.V (x:qa):List UInt8:=x.2.2.2.2.1
def qa.P (x:qa):List qb:=x.2.2.2.2.2.1
def qa.jK (x:qa):Vector UInt8 16:=x.2.2.2.2.2.2.1
def qa.je (x:qa):Int:=x.2.2.2.2.2.2.2.1
def qa.D (x:qa):Vector UInt8 32:=x.2.2.2.2.2.2.2.2
def qa.mk (x0:Int) (x1:Vector UInt8 16) (x2:qi) (x3:Int) (x4:List UInt8) (x5:List qb) (x6:Vector UInt8 16) (x7:Int) (x8:Vector UInt8 32):qa:=(x0,x1,x2,x3,x4,x5,x6,x7,x8)
instance qa.dec:DecidableEq qa:=X2 q6
def zm:Ty:=.ag [.bl,.b]
abbrev qe:=List UInt8×Bool
def qe.b (x:qe):List UInt8:=x.1
def qe.bad (x:qe):Bool:=x.2
def qe.mk (x0:List UInt8) (x1:Bool):qe:=(x0,x1)
instance qe.dec:DecidableEq qe:=X2 zm
end Go.Rx
end
set_option maxRecDepth 100000
noncomputable section
namespace Go.Rx
open Go.Proofs
theorem qz:Tryz.prog.follows .mixedOrders=true:=by kernel_rfl
noncomputable instance qw9:CT:=⟨ctF Tryz.prog⟩
def qnq:Ent:=qwe 128
theorem qvN:zl Tryz.prog qnq:=qvR (fn:=Tryz.f128) (by kernel_rfl) (by kernel_rfl) (by kernel_rfl) (by kernel_rfl) (by kernel_rfl)
noncomputable def qr8:Code:=Tryz.f104.body.getD .skip
theorem qec:FnF Tryz.prog 104 Tryz.f104 qr8:=⟨qz,by kernel_rfl,by kernel_rfl,by kernel_rfl⟩
def qku:TH:={ live:=[(0,[0]),(1,[0,4]),(2,[2]),(3,[2])],vecs:=[5],esc:=true }
def qkv (N:Nat):List Ent:=[]
theorem qif (N:Nat):q8 Tryz.prog (qkv N):=trivial
def qcw (a0:List UInt8) (z:Unit):TV×THp:=(.v 100050 (((([]:List UInt8))++a0).length),[(100050,.vec false 1 .bl ((([]:List UInt8))++a0:List UInt8))])
def qcC (a0:List UInt8):Tree (Unit):=
 .chk (List.isEmpty a0=false) <|
 .chk (W4 ((([]:List UInt8)).length) 0 (((([]:List UInt8))++a0).length) 1) <|
 .ret ()
def qos (a0:List UInt8):Option (Unit):=(qcC a0).run some
def qk5:List (Nat×qO):=[]
theorem qg1:qeI Tryz.prog ⟨104,[],[.x .bl],[],[]⟩ [.bl] (fun x=>qcC x.1) (fun x=>qcw x.1):=
 qa2 (H:=qku) (L:=q0 (qk5)) 0 qec (qif 0) (qH (by kernel_rfl) trivial) (rg0 (by kernel_rfl)) fun x=>by kernel_rfl
def qhP:TH:={ live:=[(0,[0]),(1,[0,4]),(2,[2]),(3,[2])],vecs:=[5],esc:=true }
def qir (N:Nat):List Ent:=[]
theorem qe1 (N:Nat):q8 Tryz.prog (qir N):=trivial
def qg0 (z:Unit):TV×THp:=(.v 100050 0,[(100050,.vec false 1 .bl ([]:List UInt8))])
def KS:Tree (Unit):=
 .chk (0=0) <|
 .ret ()
def qlc:Option (Unit):=(KS).run some
def qhI:List (Nat×qO):=[]
theorem qe6:qeI Tryz.prog ⟨104,[],[.k (.es 0)],[],[]⟩ [] (fun x=>KS) (fun _=>qg0):=
 qa2 (H:=qhP) (L:=q0 (qhI)) 0 qec (qe1 0) (qH (by kernel_rfl) trivial) (rg0 (by kernel_rfl)) fun x=>by kernel_rfl
def qhY:TH:={ live:=[(0,[0]),(1,[0,4]),(2,[2]),(3,[2])],vecs:=[5],esc:=true }
def qhr (N:Nat):List Ent:=[]
theorem qe8 (N:Nat):q8 Tryz.prog (qhr N):=trivial
def qhT (z:Unit):TV×THp:=(.nils,[])
def K4:Tree (Unit):=
 .ret ()
def qky:Option (Unit):=(K4).run some
def qg_:List (Nat×qO):=[]
theorem qe4:qeI Tryz.prog ⟨104,[],[.k (.es 1)],[],[]⟩ [] (fun x=>K4) (fun _=>qhT):=
 qa2 (H:=qhY) (L:=q0 (qg_)) 0 qec (qe8 0) (qH (by kernel_rfl) trivial) (rg0 (by kernel_rfl)) fun x=>by kernel_rfl
def KP (z:Unit):Unit:=()
def qip (z:Unit):Unit:=()
def Xy (a0:List UInt8):Option (Unit):=
 bif a0.isEmpty then
  (qlc).bind fun z0=>(qky).bind fun z1=>chk (KP z0=qip z1) (some (KP z0))
 else qos a0
def qa1:Ent:=smF ⟨104,[],[.x .bl],[],[]⟩ [.bl] (Unit) (fun x=>Xy x.1) cs1 fun x=>qcw x.1
theorem qhu:zl Tryz.prog (qa1):=qdN fun x z h l=>by
 obtain ⟨a0,_⟩:=x
 replace h:Xy a0=some z:=h
 unfold Xy at h
 rcases qkj h with ⟨e,h2⟩ | ⟨_,h2⟩<;>clear h
 ·have e:=List.isEmpty_iff.1 e
  subst e
  obtain ⟨z0,c0,h2⟩:=bind_some h2
  obtain ⟨z1,c1,h2⟩:=bind_some h2
  obtain ⟨hE,h2⟩:=qgf h2
  obtain rfl:=Option.some.inj h2
  refine qj2 (t:=.bl) (x:=[]) rfl (TV.ers []) (TV.ers []) (by exact qe6 (()) _ c0 l) ?_
  rw [hE]
  exact (qvo (n:=100050) (sz:=1) (x:=qm .bl ([]:List UInt8)) rfl (by kernel_rfl) (by kernel_rfl) (qe4 (()) _ c1 l))
 ·exact qg1 (a0,()) z h2 l
noncomputable def qsu:Code:=Tryz.f105.body.getD .skip
theorem qrx:FnF Tryz.prog 105 Tryz.f105 qsu:=⟨qz,by kernel_rfl,by kernel_rfl,by kernel_rfl⟩
def qoN:TH:={ live:=[(0,[0]),(1,[0])] }
def qn1 (N:Nat):List Ent:=[]
theorem qkH (N:Nat):q8 Tryz.prog (qn1 N):=trivial
def qn8 (z:Unit):TV×THp:=(.tv (.wa 8) ((((((((((Vector.replicate 8 0)).setIfInBounds 0 ((UInt32.ofNat 1779033703))).setIfInBounds 1 ((UInt32.ofNat 3144134277))).setIfInBounds 2 ((UInt32.ofNat 1013904242))).setIfInBounds 3 ((UInt32.ofNat 2773480762))).setIfInBounds 4 ((UInt32.ofNat 1359893119))).setIfInBounds 5 ((UInt32.ofNat 2600822924))).setIfInBounds 6 ((UInt32.ofNat 528734635))).setIfInBounds 7 ((UInt32.ofNat 1541459225)):Vector UInt32 8),[])
def qfc:Tree (Unit):=
 .chk (0 < 8) <|
 .chk (1 < 8) <|
 .chk (2 < 8) <|
 .chk (3 < 8) <|
 .chk (4 < 8) <|
 .chk (5 < 8) <|
 .chk (6 < 8) <|
 .chk (7 < 8) <|
 .ret ()
def qkr:Option (Unit):=(qfc).run some
def qnF:List (Nat×qO):=[]
def qfi:Ent:=smF ⟨105,[],[],[],[]⟩ [] (Unit) (fun x=>qkr) cs1 fun _=>qn8
theorem qlK:zl Tryz.prog (qfi):=
 zq (H:=qoN) (L:=q0 (qnF)) (ts:=[]) (T:=fun x=>qfc) 0 qrx (qkH 0) (qH (by kernel_rfl) trivial) (rg0 (by kernel_rfl)) fun x=>by kernel_rfl
noncomputable def qro:Code:=Tryz.f106.body.getD .skip
theorem qsU:FnF Tryz.prog 106 Tryz.f106 qro:=⟨qz,by kernel_rfl,by kernel_rfl,by kernel_rfl⟩
def qoy:TH:={ live:=[(0,[0]),(1,[0])] }
def qn5 (N:Nat):List Ent:=[]
theorem qli (N:Nat):q8 Tryz.prog (qn5 N):=trivial
def qn7 (z:Unit):TV×THp:=(.tv (.wa 64) ((((((((((((((((((((((((((((((((((((((((((((((((((((((((((((((((((Vector.replicate 64 0)).setIfInBounds 0 ((UInt32.ofNat 1116352408))).setIfInBounds 1 ((UInt32.ofNat 1899447441))).setIfInBounds 2 ((UInt32.ofNat 3049323471))).setIfInBounds 3 ((UInt32.ofNat 3921009573))).setIfInBounds 4 ((UInt32.ofNat 961987163))).setIfInBounds 5 ((UInt32.ofNat 1508970993))).setIfInBounds 6 ((UInt32.ofNat 2453635748))).setIfInBounds 7 ((UInt32.ofNat 2870763221))).setIfInBounds 8 ((UInt32.ofNat 3624381080))).setIfInBounds 9 ((UInt32.ofNat 310598401))).setIfInBounds 10 ((UInt32.ofNat 607225278))).setIfInBounds 11 ((UInt32.ofNat 1426881987))).setIfInBounds 12 ((UInt32.ofNat 1925078388))).setIfInBounds 13 ((UInt32.ofNat 2162078206))).setIfInBounds 14 ((UInt32.ofNat 2614888103))).setIfInBounds 15 ((UInt32.ofNat 3248222580))).setIfInBounds 16 ((UInt32.ofNat 3835390401))).setIfInBounds 17 ((UInt32.ofNat 4022224774))).setIfInBounds 18 ((UInt32.ofNat 264347078))).setIfInBounds 19 ((UInt32.ofNat 604807628))).setIfInBounds 20 ((UInt32.ofNat 770255983))).setIfInBounds 21 ((UInt32.ofNat 1249150122))).setIfInBounds 22 ((UInt32.ofNat 1555081692))).setIfInBounds 23 ((UInt32.ofNat 1996064986))).setIfInBounds 24 ((UInt32.ofNat 2554220882))).setIfInBounds 25 ((UInt32.ofNat 2821834349))).setIfInBounds 26 ((UInt32.ofNat 2952996808))).setIfInBounds 27 ((UInt32.ofNat 3210313671))).setIfInBounds 28 ((UInt32.ofNat 3336571891))).setIfInBounds 29 ((UInt32.ofNat 3584528711))).setIfInBounds 30 ((UInt32.ofNat 113926993))).setIfInBounds 31 ((UInt32.ofNat 338241895))).setIfInBounds 32 ((UInt32.ofNat 666307205))).setIfInBounds 33 ((UInt32.ofNat 773529912))).setIfInBounds 34 ((UInt32.ofNat 1294757372))).setIfInBounds 35 ((UInt32.ofNat 1396182291))).setIfInBounds 36 ((UInt32.ofNat 1695183700))).setIfInBounds 37 ((UInt32.ofNat 1986661051))).setIfInBounds 38 ((UInt32.ofNat 2177026350))).setIfInBounds 39 ((UInt32.ofNat 2456956037))).setIfInBounds 40 ((UInt32.ofNat 2730485921))).setIfInBounds 41 ((UInt32.ofNat 2820302411))).setIfInBounds 42 ((UInt32.ofNat 3259730800))).setIfInBounds 43 ((UInt32.ofNat 3345764771))).setIfInBounds 44 ((UInt32.ofNat 3516065817))).setIfInBounds 45 ((UInt32.ofNat 3600352804))).setIfInBounds 46 ((UInt32.ofNat 4094571909))).setIfInBounds 47 ((UInt32.ofNat 275423344))).setIfInBounds 48 ((UInt32.ofNat 430227734))).setIfInBounds 49 ((UInt32.ofNat 506948616))).setIfInBounds 50 ((UInt32.ofNat 659060556))).setIfInBounds 51 ((UInt32.ofNat 883997877))).setIfInBounds 52 ((UInt32.ofNat 958139571))).setIfInBounds 53 ((UInt32.ofNat 1322822218))).setIfInBounds 54 ((UInt32.ofNat 1537002063))).setIfInBounds 55 ((UInt32.ofNat 1747873779))).setIfInBounds 56 ((UInt32.ofNat 1955562222))).setIfInBounds 57 ((UInt32.ofNat 2024104815))).setIfInBounds 58 ((UInt32.ofNat 2227730452))).setIfInBounds 59 ((UInt32.ofNat 2361852424))).setIfInBounds 60 ((UInt32.ofNat 2428436474))).setIfInBounds 61 ((UInt32.ofNat 2756734187))).setIfInBounds 62 ((UInt32.ofNat 3204031479))).setIfInBounds 63 ((UInt32.ofNat 3329325298)):Vector UInt32 64),[])
def qfv:Tree (Unit):=
 .chk (0 < 64) <|
 .chk (1 < 64) <|
 .chk (2 < 64) <|
 .chk (3 < 64) <|
 .chk (4 < 64) <|
 .chk (5 < 64) <|
 .chk (6 < 64) <|
 .chk (7 < 64) <|
 .chk (8 < 64) <|
 .chk (9 < 64) <|
 .chk (10 < 64) <|
 .chk (11 < 64) <|
 .chk (12 < 64) <|
 .chk (13 < 64) <|
 .chk (14 < 64) <|
 .chk (15 < 64) <|
 .chk (16 < 64) <|
 .chk (17 < 64) <|
 .chk (18 < 64) <|
 .chk (19 < 64) <|
 .chk (20 < 64) <|
 .chk (21 < 64) <|
 .chk (22 < 64) <|
 .chk (23 < 64) <|
 .chk (24 < 64) <|
 .chk (25 < 64) <|
 .chk (26 < 64) <|
 .chk (27 < 64) <|
 .chk (28 < 64) <|
 .chk (29 < 64) <|
 .chk (30 < 64) <|
 .chk (31 < 64) <|
 .chk (32 < 64) <|
 .chk (33 < 64) <|
 .chk (34 < 64) <|
 .chk (35 < 64) <|
 .chk (36 < 64) <|
 .chk (37 < 64) <|
 .chk (38 < 64) <|
 .chk (39 < 64) <|
 .chk (40 < 64) <|
 .chk (41 < 64) <|
 .chk (42 < 64) <|
 .chk (43 < 64) <|
 .chk (44 < 64) <|
 .chk (45 < 64) <|
 .chk (46 < 64) <|
 .chk (47 < 64) <|
 .chk (48 < 64) <|
 .chk (49 < 64) <|
 .chk (50 < 64) <|
 .chk (51 < 64) <|
 .chk (52 < 64) <|
 .chk (53 < 64) <|
 .chk (54 < 64) <|
 .chk (55 < 64) <|
 .chk (56 < 64) <|
 .chk (57 < 64) <|
 .chk (58 < 64) <|
 .chk (59 < 64) <|
 .chk (60 < 64) <|
 .chk (61 < 64) <|
 .chk (62 < 64) <|
 .chk (63 < 64) <|
 .ret ()
def qkm:Option (Unit):=(qfv).run some
def qoB:List (Nat×qO):=[]
def qfn:Ent:=smF ⟨106,[],[],[],[]⟩ [] (Unit) (fun x=>qkm) cs1 fun _=>qn7
theorem qm_:zl Tryz.prog (qfn):=
 zq (H:=qoy) (L:=q0 (qoB)) (ts:=[]) (T:=fun x=>qfv) 0 qsU (qli 0) (qH (by kernel_rfl) trivial) (rg0 (by kernel_rfl)) fun x=>by kernel_rfl
noncomputable def qsw:Code:=Tryz.f142.body.getD .skip
theorem qsv:FnF Tryz.prog 142 Tryz.f142 qsw:=⟨qz,by kernel_rfl,by kernel_rfl,by kernel_rfl⟩
def YW:TH:={ live:=[(0,[0,1]),(1,[0,5]),(2,[4])] }
def Y5 (N:Nat):List Ent:=[]
theorem W9 (N:Nat):q8 Tryz.prog (Y5 N):=trivial
def Kg (z:Int):TV×THp:=(.tv (.i .u32) z,[])
def JD (a0:Int) (a1:Int):Tree (Int):=
 .chk (0≤(V2 .u64 (IntKind.u64.wrap a1) 31)) <|
 let w1:Int:=Jq .u32 a0 (min (V2 .u64 (IntKind.u64.wrap a1) 31).toNat 32)
 let w2:Int:=qwY .u64 ((32:Int)) (V2 .u64 (IntKind.u64.wrap a1) 31)
 .chk (0≤w2) <|
 .ret (uOr .u32 w1 (Qd a0 (min w2.toNat 32)))
def VD (a0:Int) (a1:Int):Option (Int):=(JD a0 a1).run some
def YY:List (Nat×qO):=[]
def JJ:Ent:=smF ⟨142,[],[.x (.i .u32),.x (.i .i64)],[],[]⟩ [(.i .u32),(.i .i64)] (Int) (fun x=>VD x.1 x.2.1) cs1 fun _=>Kg
theorem Yt:zl Tryz.prog (JJ):=
 zq (H:=YW) (L:=q0 (YY)) (ts:=[(.i .u32),(.i .i64)]) (T:=fun x=>JD x.1 x.2.1) 0 qsv (W9 0) (qH (by kernel_rfl) trivial) (rg0 (by kernel_rfl)) fun x=>by kernel_rfl
noncomputable def qry:Code:=Tryz.f125.body.getD .skip
theorem qrN:FnF Tryz.prog 125 Tryz.f125 qry:=⟨qz,by kernel_rfl,by kernel_rfl,by kernel_rfl⟩
def qof:TH:={ live:=[(0,[0,1]),(1,[4])] }
def qn4 (N:Nat):List Ent:=[JJ]
theorem qlb (N:Nat):q8 Tryz.prog (qn4 N):=⟨Yt,trivial⟩
def qnU (z:Int):TV×THp:=(.tv (.i .u32) z,[])
def qfJ (a0:Int) (a1:Int):Tree (Int):=
 .chk (qx (0 - a1)) <|
 .bind (VD a0 (0 - a1)) fun r1=>
 .ret r1
def vZ (a0:Int) (a1:Int):Option (Int):=(qfJ a0 a1).run some
def qok:List (Nat×qO):=[]
def qar:Ent:=smF ⟨125,[],[.x (.i .u32),.x (.i .i64)],[],[]⟩ [(.i .u32),(.i .i64)] (Int) (fun x=>vZ x.1 x.2.1) cs1 fun _=>qnU
theorem qdc:zl Tryz.prog (qar):=
 zq (H:=qof) (L:=q0 (qok)) (ts:=[(.i .u32),(.i .i64)]) (T:=fun x=>qfJ x.1 x.2.1) 0 qrN (qlb 0) (qH (by kernel_rfl) trivial) (rg0 (by kernel_rfl)) fun x=>by kernel_rfl
noncomputable def qc8:Code:=Tryz.f124.body.getD .skip
theorem qsp:FnF Tryz.prog 124 Tryz.f124 qc8:=⟨qz,by kernel_rfl,by kernel_rfl,by kernel_rfl⟩
def X7:TH:={ live:=[(0,[0,2]),(1,[0,2,3]),(2,[0,2,3,7]),(3,[0,2,3,7,8]),(4,[0,2,3,4,7]),(5,[0,2,3,4,7,11]),(6,[0,2,3,7]),(7,[0,2,3,4,5,6,7]),(8,[0,2,3,7]),(9,[0,2,3,7]),(10,[2])] }
def qa9 (N:Nat):List Ent:=[qar]
theorem Ks (N:Nat):q8 Tryz.prog (qa9 N):=⟨qdc,trivial⟩
abbrev Zh:=Vector UInt32 64×List UInt8
abbrev vi:=Vector UInt32 64×Int×Bool
def Qj (f:Zh) (y:vi):Ex×TSt:=(.exit 0,⟨0,86,[],[(0,.tv .bl f.2),(2,.p 20 [] 0),(3,.p 30 [] 0),(7,xi y.2.1),(8,xb y.2.2)],[(20,.cell false (.tv (.wa 64) f.1)),(30,.cell false (.tv (.wa 64) (y.1:Vector UInt32 64)))],false,[]⟩)
def qe0 (N:Nat):List (Nat×qO):=[]
abbrev Qi:=Vector UInt32 64×Int
def Yj:SP:=⟨0,86,[],[(0,.x .bl),(2,.k (.p 20 [] 0)),(3,.k (.p 30 [] 0)),(7,.x (.i .i64))],[(20,.cell false (.x (.wa 64))),(30,.cell false (.x (.wa 64)))],false,[]⟩
def qe_ (f:Zh) (v:Qi):TSt:=vp Yj [dv (.wa 64) f.1,dv (.wa 64) v.1,dv .bl f.2,dv (.i .i64) v.2]
def qe3 (N:Nat) (o_3:Vector UInt32 64) (s0_3:List UInt8) (v:Qi):Tree (Qi⊕vi):=
 .cond (decide (v.2 < ((64:Int)))) (
 .cond (decide (v.2 < ((16:Int)))) (
 .chk (qx (((4:Int)) * v.2)) <|
 .bind (zu s0_3 (((4:Int)) * v.2)) fun e1=>
 let w2:Int:=IntKind.u32.wrap ((e1.toNat:Nat):Int)
 .chk (0≤(24:Int)) <|
 .chk (qx (((4:Int)) * v.2)) <|
 .chk (qx ((((4:Int)) * v.2) + 1)) <|
 .bind (zu s0_3 ((((4:Int)) * v.2) + 1)) fun e3=>
 let w4:Int:=IntKind.u32.wrap ((e3.toNat:Nat):Int)
 .chk (0≤(16:Int)) <|
 let w5:Int:=uOr .u32 (Jq .u32 w2 24) (Jq .u32 w4 16)
 .chk (qx (((4:Int)) * v.2)) <|
 .chk (qx ((((4:Int)) * v.2) + 2)) <|
 .bind (zu s0_3 ((((4:Int)) * v.2) + 2)) fun e6=>
 let w7:Int:=IntKind.u32.wrap ((e6.toNat:Nat):Int)
 .chk (0≤(8:Int)) <|
 .chk (qx (((4:Int)) * v.2)) <|
 .chk (qx ((((4:Int)) * v.2) + 3)) <|
 .bind (zu s0_3 ((((4:Int)) * v.2) + 3)) fun e8=>
 let w9:Int:=IntKind.u32.wrap ((e8.toNat:Nat):Int)
 let w10:Int:=uOr .u32 (uOr .u32 w5 (Jq .u32 w7 8)) w9
 .chk (0≤v.2∧v.2 < ((64:Nat):Int)) <|
 .chk (inW w10) <|
 .chk (v.2.toNat < 64) <|
 .chk (qx (v.2 + 1)) <|
 .ret (.inl (v.1.setIfInBounds v.2.toNat (UInt32.ofNat w10.toNat),v.2 + 1))) <|
 .chk (qx (v.2 - 15)) <|
 .chk (0≤(v.2 - 15)∧(v.2 - 15) < ((64:Nat):Int)) <|
 .chk ((v.2 - 15).toNat < 64) <|
 .chk (qx (v.2 - 2)) <|
 .chk (0≤(v.2 - 2)∧(v.2 - 2) < ((64:Nat):Int)) <|
 .chk ((v.2 - 2).toNat < 64) <|
 .chk (qx (v.2 - 16)) <|
 .chk (0≤(v.2 - 16)∧(v.2 - 16) < ((64:Nat):Int)) <|
 .chk ((v.2 - 16).toNat < 64) <|
 .chk (qx (v.2 - 7)) <|
 .chk (0≤(v.2 - 7)∧(v.2 - 7) < ((64:Nat):Int)) <|
 .chk ((v.2 - 7).toNat < 64) <|
 let w1:Int:=Vw .u32 (((v.1.toList.getD ((v.2 - 16).toNat) 0).toNat:Nat):Int) (((v.1.toList.getD ((v.2 - 7).toNat) 0).toNat:Nat):Int)
 .bind (vZ (((v.1.toList.getD ((v.2 - 15).toNat) 0).toNat:Nat):Int) 7) fun r2=>
 .bind (vZ (((v.1.toList.getD ((v.2 - 15).toNat) 0).toNat:Nat):Int) 18) fun r3=>
 .chk (0≤(3:Int)) <|
 let w4:Int:=Qd (((v.1.toList.getD ((v.2 - 15).toNat) 0).toNat:Nat):Int) 3
 let w5:Int:=Vw .u32 w1 (Yb .u32 (Yb .u32 r2 r3) w4)
 .bind (vZ (((v.1.toList.getD ((v.2 - 2).toNat) 0).toNat:Nat):Int) 17) fun r6=>
 .bind (vZ (((v.1.toList.getD ((v.2 - 2).toNat) 0).toNat:Nat):Int) 19) fun r7=>
 .chk (0≤(10:Int)) <|
 let w8:Int:=Qd (((v.1.toList.getD ((v.2 - 2).toNat) 0).toNat:Nat):Int) 10
 let w9:Int:=Vw .u32 w5 (Yb .u32 (Yb .u32 r6 r7) w8)
 .chk (0≤v.2∧v.2 < ((64:Nat):Int)) <|
 .chk (inW w9) <|
 .chk (v.2.toNat < 64) <|
 .chk (qx (v.2 + 1)) <|
 .ret (.inl (v.1.setIfInBounds v.2.toNat (UInt32.ofNat w9.toNat),v.2 + 1))) <|
 .ret (.inr (v.1,v.2,decide (v.2 < ((64:Int)))))
def Yh (N n:Nat) (f:Zh) (v:Qi):Option vi:=zG (qe3 N f.1 f.2) some n v
theorem qe7 (N:Nat) (f:Zh) (n:Nat) (v:Qi) (y:vi) (h:Yh N n f v=some y):LG Tryz.prog X7 124 (zi qc8 3) (qe_ f v) (Qj f y):=
 jQ qz (E:=qa9 N) (L:=q0 (qe0 N)) (st:=Qj f) (g:=some) (R:=Qj f) (Ks N) (qH (by kernel_rfl) trivial) (rg0 (by kernel_rfl)) (fun v=>by kernel_rfl) (zC (st:=Qj f) fun y=>by rfl) n v y h
def KV (N:Nat) (o_3:Vector UInt32 64) (s0_3:List UInt8) (o_3_2:Vector UInt32 64) (s7_3:Int):Option vi:=Yh N N (o_3,s0_3) (o_3_2,s7_3)
def Yk (N:Nat):qO:=smL Yj [(.wa 64),(.wa 64),.bl,(.i .i64)] vi (fun x=>KV N x.1 x.2.2.1 x.2.1 x.2.2.2.1) cs1 fun x=>Qj (x.1,x.2.2.1)
theorem qdC (N:Nat):Zb Tryz.prog X7 124 (zi qc8 3) (Yk N):=vB fun x z h=>qe7 N (x.1,x.2.2.1) N (x.2.1,x.2.2.2.1) z h
def qiH (z:Vector UInt32 64):TV×THp:=(.tv (.wa 64) z,[])
def qbp (N:Nat) (a0:List UInt8):Tree (Vector UInt32 64):=
 .bind (KV N ((Vector.replicate 64 0)) a0 ((Vector.replicate 64 0)) 0) fun z1=>
 .ret z1.1
def qdP (N:Nat) (a0:List UInt8):Option (Vector UInt32 64):=(qbp N a0).run some
def qiT (N:Nat):List (Nat×qO):=[(3,Yk N)]
def qaO (N:Nat):Ent:=smF ⟨124,[],[.x .bl],[],[]⟩ [.bl] (Vector UInt32 64) (fun x=>qdP N x.1) cs1 fun _=>qiH
theorem qim (N:Nat):zl Tryz.prog (qaO N):=
 zq (H:=X7) (L:=q0 (qiT N)) (ts:=[.bl]) (T:=fun x=>qbp N x.1) 0 qsp (Ks N) (qH (by kernel_rfl) ⟨qdC N,trivial⟩) (rg0 (by kernel_rfl)) fun x=>by kernel_rfl
noncomputable def WG:Code:=Tryz.f107.body.getD .skip
theorem qrg:FnF Tryz.prog 107 Tryz.f107 WG:=⟨qz,by kernel_rfl,by kernel_rfl,by kernel_rfl⟩
def QC:TH:={ live:=[(0,[0,2,6]),(1,[0,2,6,7]),(2,[0,2,6,7,19]),(3,[0,2,6,7,19,20]),(4,[0,2,6,7,8,19]),(5,[0,2,6,7,8,9,10,19]),(6,[0,2,6,7,9,11,19]),(7,[0,2,6,7,11,12,19]),(8,[0,2,6,7,11,12,19]),(9,[0,2,6,7,11,19]),(10,[0,2,6,7,19]),(11,[0,2,6,7,19]),(12,[0,7,95]),(13,[0,7,95,96]),(14,[0,7,13,95]),(15,[0,7,95]),(16,[0,7,95])] }
def V0 (N:Nat):List Ent:=[qaO N,qar]
theorem J3 (N:Nat):q8 Tryz.prog (V0 N):=⟨qim N,qdc,trivial⟩
abbrev QI:=Vector UInt32 8×Vector UInt32 64×Vector UInt32 64
abbrev jz:=Vector UInt32 8×Int×Bool
def vE (f:QI) (y:jz):Ex×TSt:=(.exit 0,⟨1,110,[50,60],[(0,.p 50 [] 0),(2,.p 60 [] 0),(6,.p 100060 [] 0),(7,.p 100070 [] 0),(19,xi y.2.1),(20,xb y.2.2)],[(50,.cell false (.tv (.wa 8) f.1)),(60,.cell false (.tv (.wa 64) f.2.1)),(100060,.cell false (.tv (.wa 64) f.2.2)),(100070,.cell false (.tv (.wa 8) (y.1:Vector UInt32 8)))],false,[]⟩)
def qcY (N:Nat):List (Nat×qO):=[]
abbrev vD:=Vector UInt32 8×Int
def X5:SP:=⟨1,110,[50,60],[(0,.k (.p 50 [] 0)),(2,.k (.p 60 [] 0)),(6,.k (.p 100060 [] 0)),(7,.k (.p 100070 [] 0)),(19,.x (.i .i64))],[(50,.cell false (.x (.wa 8))),(60,.cell false (.x (.wa 64))),(100060,.cell false (.x (.wa 64))),(100070,.cell false (.x (.wa 8)))],false,[]⟩
def qcT (f:QI) (v:vD):TSt:=vp X5 [dv (.wa 8) f.1,dv (.wa 64) f.2.1,dv (.wa 64) f.2.2,dv (.wa 8) v.1,dv (.i .i64) v.2]
def qcV (N:Nat) (o_3:Vector UInt32 8) (o_3_2:Vector UInt32 64) (o_3_3:Vector UInt32 64) (v:vD):Tree (vD⊕jz):=
 .cond (decide (v.2 < ((64:Int)))) (
 .chk (0≤(0:Int)∧(0:Int) < ((8:Nat):Int)) <|
 .chk (0 < 8) <|
 .chk (0≤(4:Int)∧(4:Int) < ((8:Nat):Int)) <|
 .chk (4 < 8) <|
 .chk (0≤(7:Int)∧(7:Int) < ((8:Nat):Int)) <|
 .chk (7 < 8) <|
 .bind (vZ (((v.1.toList.getD 4 0).toNat:Nat):Int) 6) fun r1=>
 .bind (vZ (((v.1.toList.getD 4 0).toNat:Nat):Int) 11) fun r2=>
 .bind (vZ (((v.1.toList.getD 4 0).toNat:Nat):Int) 25) fun r3=>
 let w4:Int:=Vw .u32 (((v.1.toList.getD 7 0).toNat:Nat):Int) (Yb .u32 (Yb .u32 r1 r2) r3)
 .chk (0≤(5:Int)∧(5:Int) < ((8:Nat):Int)) <|
 .chk (5 < 8) <|
 let w5:Int:=V2 .u32 (((v.1.toList.getD 4 0).toNat:Nat):Int) (((v.1.toList.getD 5 0).toNat:Nat):Int)
 let w6:Int:=Yb .u32 (4294967295) (((v.1.toList.getD 4 0).toNat:Nat):Int)
 .chk (0≤(6:Int)∧(6:Int) < ((8:Nat):Int)) <|
 .chk (6 < 8) <|
 let w7:Int:=V2 .u32 w6 (((v.1.toList.getD 6 0).toNat:Nat):Int)
 .chk (0≤v.2∧v.2 < ((64:Nat):Int)) <|
 .chk (v.2.toNat < 64) <|
 let w8:Int:=Vw .u32 (Vw .u32 w4 (Yb .u32 w5 w7)) (((o_3_2.toList.getD v.2.toNat 0).toNat:Nat):Int)
 .chk (0≤v.2∧v.2 < ((64:Nat):Int)) <|
 .chk (v.2.toNat < 64) <|
 let w9:Int:=Vw .u32 w8 (((o_3_3.toList.getD v.2.toNat 0).toNat:Nat):Int)
 .bind (vZ (((v.1.toList.getD 0 0).toNat:Nat):Int) 2) fun r10=>
 .bind (vZ (((v.1.toList.getD 0 0).toNat:Nat):Int) 13) fun r11=>
 .bind (vZ (((v.1.toList.getD 0 0).toNat:Nat):Int) 22) fun r12=>
 .chk (0≤(1:Int)∧(1:Int) < ((8:Nat):Int)) <|
 .chk (1 < 8) <|
 let w13:Int:=V2 .u32 (((v.1.toList.getD 0 0).toNat:Nat):Int) (((v.1.toList.getD 1 0).toNat:Nat):Int)
 .chk (0≤(2:Int)∧(2:Int) < ((8:Nat):Int)) <|
 .chk (2 < 8) <|
 let w14:Int:=V2 .u32 (((v.1.toList.getD 0 0).toNat:Nat):Int) (((v.1.toList.getD 2 0).toNat:Nat):Int)
 .chk (0≤(1:Int)∧(1:Int) < ((8:Nat):Int)) <|
 .chk (1 < 8) <|
 .chk (0≤(2:Int)∧(2:Int) < ((8:Nat):Int)) <|
 .chk (2 < 8) <|
 let w15:Int:=V2 .u32 (((v.1.toList.getD 1 0).toNat:Nat):Int) (((v.1.toList.getD 2 0).toNat:Nat):Int)
 let w16:Int:=Vw .u32 (Yb .u32 (Yb .u32 r10 r11) r12) (Yb .u32 (Yb .u32 w13 w14) w15)
 .chk (0≤(0:Int)∧(0:Int) < ((8:Nat):Int)) <|
 .chk (inW (Vw .u32 w9 w16)) <|
 .chk (0 < 8) <|
 .chk (0≤(4:Int)∧(4:Int) < ((8:Nat):Int)) <|
 .chk (4 < 8) <|
 let w17:Int:=Vw .u32 (((((VH v.1 1 7).setIfInBounds 0 (UInt32.ofNat (Vw .u32 w9 w16).toNat)).toList.getD 4 0).toNat:Nat):Int) w9
 .chk (0≤(4:Int)∧(4:Int) < ((8:Nat):Int)) <|
 .chk (inW w17) <|
 .chk (4 < 8) <|
 .chk (qx (v.2 + 1)) <|
 .ret (.inl (((VH v.1 1 7).setIfInBounds 0 (UInt32.ofNat (Vw .u32 w9 w16).toNat)).setIfInBounds 4 (UInt32.ofNat w17.toNat),v.2 + 1))) <|
 .ret (.inr (v.1,v.2,decide (v.2 < ((64:Int)))))
def X4 (N n:Nat) (f:QI) (v:vD):Option jz:=zG (qcV N f.1 f.2.1 f.2.2) some n v
theorem qcW (N:Nat) (f:QI) (n:Nat) (v:vD) (y:jz) (h:X4 N n f v=some y):LG Tryz.prog QC 107 (zi WG 3) (qcT f v) (vE f y):=
 jQ qz (E:=V0 N) (L:=q0 (qcY N)) (st:=vE f) (g:=some) (R:=vE f) (J3 N) (qH (by kernel_rfl) trivial) (rg0 (by kernel_rfl)) (fun v=>by kernel_rfl) (zC (st:=vE f) fun y=>by rfl) n v y h
def Yi (N:Nat) (o_3:Vector UInt32 8) (o_3_2:Vector UInt32 64) (o_3_3:Vector UInt32 64) (o_3_4:Vector UInt32 8) (s19_3:Int):Option jz:=X4 N N (o_3,o_3_2,o_3_3) (o_3_4,s19_3)
def X6 (N:Nat):qO:=smL X5 [(.wa 8),(.wa 64),(.wa 64),(.wa 8),(.i .i64)] jz (fun x=>Yi N x.1 x.2.1 x.2.2.1 x.2.2.2.1 x.2.2.2.2.1) cs1 fun x=>vE (x.1,x.2.1,x.2.2.1)
theorem qb_ (N:Nat):Zb Tryz.prog QC 107 (zi WG 3) (X6 N):=vB fun x z h=>qcW N (x.1,x.2.1,x.2.2.1) N (x.2.2.2.1,x.2.2.2.2.1) z h
abbrev Qm:=Vector UInt32 64×Vector UInt32 8
abbrev jo:=Vector UInt32 8×Int×Bool
def vg (f:Qm) (y:jo):Ex×TSt:=(.exit 2,⟨1,110,[50,60],[(0,.p 50 [] 0),(7,.p 100070 [] 0),(95,xi y.2.1),(96,xb y.2.2)],[(50,.cell false (.tv (.wa 8) (y.1:Vector UInt32 8))),(60,.cell false (.tv (.wa 64) f.1)),(100070,.cell false (.tv (.wa 8) f.2))],false,[]⟩)
def qbC (N:Nat):List (Nat×qO):=[]
abbrev j5:=Vector UInt32 8×Int
def XO:SP:=⟨1,110,[50,60],[(0,.k (.p 50 [] 0)),(7,.k (.p 100070 [] 0)),(95,.x (.i .i64))],[(50,.cell false (.x (.wa 8))),(60,.cell false (.x (.wa 64))),(100070,.cell false (.x (.wa 8)))],false,[]⟩
def qbU (f:Qm) (v:j5):TSt:=vp XO [dv (.wa 8) v.1,dv (.wa 64) f.1,dv (.wa 8) f.2,dv (.i .i64) v.2]
def qbP (N:Nat) (o_13_2:Vector UInt32 64) (o_13_3:Vector UInt32 8) (v:j5):Tree (j5⊕jo):=
 .cond (decide (v.2 < ((8:Int)))) (
 .chk (0≤v.2∧v.2 < ((8:Nat):Int)) <|
 .chk (v.2.toNat < 8) <|
 .chk (0≤v.2∧v.2 < ((8:Nat):Int)) <|
 .chk (v.2.toNat < 8) <|
 let w1:Int:=Vw .u32 (((v.1.toList.getD v.2.toNat 0).toNat:Nat):Int) (((o_13_3.toList.getD v.2.toNat 0).toNat:Nat):Int)
 .chk (0≤v.2∧v.2 < ((8:Nat):Int)) <|
 .chk (inW w1) <|
 .chk (v.2.toNat < 8) <|
 .chk (qx (v.2 + 1)) <|
 .ret (.inl (v.1.setIfInBounds v.2.toNat (UInt32.ofNat w1.toNat),v.2 + 1))) <|
 .ret (.inr (v.1,v.2,decide (v.2 < ((8:Int)))))
def XX (N n:Nat) (f:Qm) (v:j5):Option jo:=zG (qbP N f.1 f.2) some n v
theorem qce (N:Nat) (f:Qm) (n:Nat) (v:j5) (y:jo) (h:XX N n f v=some y):LG Tryz.prog QC 107 (zi WG 13) (qbU f v) (vg f y):=
 jQ qz (E:=V0 N) (L:=q0 (qbC N)) (st:=vg f) (g:=some) (R:=vg f) (J3 N) (qH (by kernel_rfl) trivial) (rg0 (by kernel_rfl)) (fun v=>by kernel_rfl) (zC (st:=vg f) fun y=>by rfl) n v y h
def WW (N:Nat) (o_13_2:Vector UInt32 64) (o_13_3:Vector UInt32 8) (o_13:Vector UInt32 8) (s95_13:Int):Option jo:=XX N N (o_13_2,o_13_3) (o_13,s95_13)
def XF (N:Nat):qO:=smL XO [(.wa 8),(.wa 64),(.wa 8),(.i .i64)] jo (fun x=>WW N x.2.1 x.2.2.1 x.1 x.2.2.2.1) cs1 fun x=>vg (x.2.1,x.2.2.1)
theorem qbh (N:Nat):Zb Tryz.prog QC 107 (zi WG 13) (XF N):=vB fun x z h=>qce N (x.2.1,x.2.2.1) N (x.1,x.2.2.2.1) z h
def qf1 (a1:Vector UInt32 64) (z:Vector UInt32 8):TV×THp:=(.tup [],[(50,.cell false (.tv (.wa 8) z)),(60,.cell false (.tv (.wa 64) a1))])
def Y3 (N:Nat) (a0:Vector UInt32 8) (a1:Vector UInt32 64) (a2:List UInt8):Tree (Vector UInt32 8):=
 .bind (qdP N a2) fun r1=>
 .bind (Yi N a0 a1 r1 a0 0) fun z2=>
 .bind (WW N a1 z2.1 a0 0) fun z3=>
 .ret z3.1
def Wc (N:Nat) (a0:Vector UInt32 8) (a1:Vector UInt32 64) (a2:List UInt8):Option (Vector UInt32 8):=(Y3 N a0 a1 a2).run some
def qgJ (N:Nat):List (Nat×qO):=[(3,X6 N),(13,XF N)]
def Y_ (N:Nat):Ent:=smF ⟨107,[],[.k (.p 50 [] 0),.x .bl,.k (.p 60 [] 0)],[],[(50,.cell false (.x (.wa 8))),(60,.cell false (.x (.wa 64)))]⟩ [(.wa 8),(.wa 64),.bl] (Vector UInt32 8) (fun x=>Wc N x.1 x.2.1 x.2.2.1) cs1 fun x=>qf1 x.2.1
theorem qe5 (N:Nat):zl Tryz.prog (Y_ N):=
 zq (H:=QC) (L:=q0 (qgJ N)) (ts:=[(.wa 8),(.wa 64),.bl]) (T:=fun x=>Y3 N x.1 x.2.1 x.2.2.1) 0 qrg (J3 N) (qH (by kernel_rfl) ⟨qb_ N,qbh N,trivial⟩) (rg0 (by kernel_rfl)) fun x=>by kernel_rfl
noncomputable def Q9:Code:=Tryz.f78.body.getD .skip
theorem quv:FnF Tryz.prog 78 Tryz.f78 Q9:=⟨qz,by kernel_rfl,by kernel_rfl,by kernel_rfl⟩
def Qq:TH:={ live:=[(0,[0,2]),(1,[0,2,3]),(2,[0,2,3,16]),(3,[0,2,3]),(4,[0,2,3,20]),(5,[0,2,3,20,21]),(6,[0,2,3,4,20]),(7,[0,2,3,20]),(8,[0,2,3,20]),(9,[2,3,5,6]),(10,[2,3,5,6,40]),(11,[2,3,5,6]),(12,[2,3,5,6]),(13,[2,5,7]),(14,[2,5,7,46]),(15,[2,5,7,46,47]),(16,[2,5,7,8,46]),(17,[2,5,7,46]),(18,[2,5,7,46]),(19,[2])],fresh:=[10] }
def Xf (N:Nat):List Ent:=[qa1,qfi,qfn,Y_ N]
theorem Jm (N:Nat):q8 Tryz.prog (Xf N):=⟨qhu,qlK,qm_,qe5 N,trivial⟩
abbrev XB:=Vector UInt8 32×List UInt8
abbrev Zl:=List UInt8×Bool
def Jy (f:XB) (y:Zl):Ex×TSt:=(.exit 0,⟨0,63,[],[(0,.tv .bl f.2),(2,.p 20 [] 0),(3,.v 100050 y.1.length),(16,xb y.2)],[(20,.cell false (.tv (.ba 32) f.1)),(100050,.vec false 1 .bl (y.1:List UInt8))],false,[]⟩)
def qnB (N:Nat):List (Nat×qO):=[]
abbrev JN:=List UInt8
def qdV:SP:=⟨0,63,[],[(0,.x .bl),(2,.k (.p 20 [] 0)),(3,.vs 100050)],[(20,.cell false (.x (.ba 32))),(100050,.vec false 1)],false,[]⟩
def qmn (f:XB) (v:JN):TSt:=vp qdV [dv .bl v,dv (.ba 32) f.1,dv .bl f.2]
def qm4 (N:Nat) (o_2_2:Vector UInt8 32) (s0_2:List UInt8) (v:JN):Tree (JN⊕Zl):=
 .chk ((64:Int)≠0) <|
 .cond (!decide ((((v.length:Nat):Int).tmod 64)=56)) (
 .chk (W4 v.length v.length ((v++[(UInt8.ofNat 0)]).length) 1) <|
 .ret (.inl (v++[(UInt8.ofNat 0)]))) <|
 .ret (.inr (v,!decide ((((v.length:Nat):Int).tmod 64)=56)))
def qdi (N n:Nat) (f:XB) (v:JN):Option Zl:=zG (qm4 N f.1 f.2) some n v
theorem qm3 (N:Nat) (f:XB) (n:Nat) (v:JN) (y:Zl) (h:qdi N n f v=some y):LG Tryz.prog Qq 78 (zi Q9 2) (qmn f v) (Jy f y):=
 jQ qz (E:=Xf N) (L:=q0 (qnB N)) (st:=Jy f) (g:=some) (R:=Jy f) (Jm N) (qH (by kernel_rfl) trivial) (rg0 (by kernel_rfl)) (fun v=>by kernel_rfl) (zC (st:=Jy f) fun y=>by rfl) n v y h
def qh3 (N:Nat) (o_2_2:Vector UInt8 32) (s0_2:List UInt8) (o_2:List UInt8):Option Zl:=qdi N N (o_2_2,s0_2) o_2
def qdD (N:Nat):qO:=smL qdV [.bl,(.ba 32),.bl] Zl (fun x=>qh3 N x.2.1 x.2.2.1 x.1) cs1 fun x=>Jy (x.2.1,x.2.2.1)
theorem qk0 (N:Nat):Zb Tryz.prog Qq 78 (zi Q9 2) (qdD N):=vB fun x z h=>qm3 N (x.2.1,x.2.2.1) N x.1 z h
abbrev XY:=Vector UInt8 32×List UInt8
abbrev ZA:=List UInt8×Int×Bool
def J2 (f:XY) (y:ZA):Ex×TSt:=(.exit 2,⟨0,63,[],[(0,.tv .bl f.2),(2,.p 20 [] 0),(3,.v 100050 y.1.length),(20,xi y.2.1),(21,xb y.2.2)],[(20,.cell false (.tv (.ba 32) f.1)),(100050,.vec false 1 .bl (y.1:List UInt8))],false,[]⟩)
def ql4 (N:Nat):List (Nat×qO):=[]
abbrev JS:=List UInt8×Int
def qd7:SP:=⟨0,63,[],[(0,.x .bl),(2,.k (.p 20 [] 0)),(3,.vs 100050),(20,.x (.i .i64))],[(20,.cell false (.x (.ba 32))),(100050,.vec false 1)],false,[]⟩
def qmm (f:XY) (v:JS):TSt:=vp qd7 [dv .bl v.1,dv (.ba 32) f.1,dv .bl f.2,dv (.i .i64) v.2]
def qlW (N:Nat) (o_5_2:Vector UInt8 32) (s0_5:List UInt8) (v:JS):Tree (JS⊕ZA):=
 .cond (decide (v.2 < ((8:Int)))) (
 let w1:Int:=IntKind.u64.wrap ((s0_5.length:Nat):Int)
 .chk (qx (((7:Int)) - v.2)) <|
 .chk (qx (((8:Int)) * (((7:Int)) - v.2))) <|
 .chk (0≤(((8:Int)) * (((7:Int)) - v.2))) <|
 let w2:Int:=Qd (qw3 .u64 w1 8) (min (((8:Int)) * (((7:Int)) - v.2)).toNat 64)
 .chk (inB (IntKind.u8.wrap w2)) <|
 .chk (W4 v.1.length v.1.length ((v.1++[UInt8.ofNat (IntKind.u8.wrap w2).toNat]).length) 1) <|
 .chk (qx (v.2 + 1)) <|
 .ret (.inl (v.1++[UInt8.ofNat (IntKind.u8.wrap w2).toNat],v.2 + 1))) <|
 .ret (.inr (v.1,v.2,decide (v.2 < ((8:Int)))))
def qek (N n:Nat) (f:XY) (v:JS):Option ZA:=zG (qlW N f.1 f.2) some n v
theorem qlB (N:Nat) (f:XY) (n:Nat) (v:JS) (y:ZA) (h:qek N n f v=some y):LG Tryz.prog Qq 78 (zi Q9 5) (qmm f v) (J2 f y):=
 jQ qz (E:=Xf N) (L:=q0 (ql4 N)) (st:=J2 f) (g:=some) (R:=J2 f) (Jm N) (qH (by kernel_rfl) trivial) (rg0 (by kernel_rfl)) (fun v=>by kernel_rfl) (zC (st:=J2 f) fun y=>by rfl) n v y h
def qhg (N:Nat) (o_5_2:Vector UInt8 32) (s0_5:List UInt8) (o_5:List UInt8) (s20_5:Int):Option ZA:=qek N N (o_5_2,s0_5) (o_5,s20_5)
def qee (N:Nat):qO:=smL qd7 [.bl,(.ba 32),.bl,(.i .i64)] ZA (fun x=>qhg N x.2.1 x.2.2.1 x.1 x.2.2.2.1) cs1 fun x=>J2 (x.2.1,x.2.2.1)
theorem qkE (N:Nat):Zb Tryz.prog Qq 78 (zi Q9 5) (qee N):=vB fun x z h=>qlB N (x.2.1,x.2.2.1) N (x.1,x.2.2.2.1) z h
abbrev jH:=List UInt8×Vector UInt8 32×Vector UInt32 8×Vector UInt32 64
abbrev jn:=Unit⊕(Vector UInt32 8×List UInt8×Bool)
def jG (f:jH):jn→Ex×TSt
 | .inl y=>(.exit 4,⟨0,63,[],[(2,.p 20 [] 0),(3,.v 100050 f.1.length),(5,.p 50 [] 0),(6,.p 60 [] 0),(40,xb (decide (((0:Int)) < ((f.1.length:Nat):Int))))],[(20,.cell false (.tv (.ba 32) f.2.1)),(50,.cell false (.tv (.wa 8) f.2.2.1)),(60,.cell false (.tv (.wa 64) f.2.2.2)),(100050,.vec false 1 .bl f.1)],false,[]⟩)
 | .inr y=>(.exit 4,⟨0,63,[],[(2,.p 20 [] 0),(3,.tv .bl (y.2.1:List UInt8)),(5,.p 50 [] 0),(6,.p 60 [] 0),(40,xb y.2.2)],[(20,.cell false (.tv (.ba 32) f.2.1)),(50,.cell false (.tv (.wa 8) (y.1:Vector UInt32 8))),(60,.cell false (.tv (.wa 64) f.2.2.2))],false,[]⟩)
def qcN (N:Nat):List (Nat×qO):=[]
abbrev vI:=Vector UInt32 8×List UInt8
def qgG:SP:=⟨0,63,[],[(2,.k (.p 20 [] 0)),(3,.x .bl),(5,.k (.p 50 [] 0)),(6,.k (.p 60 [] 0))],[(20,.cell false (.x (.ba 32))),(50,.cell false (.x (.wa 8))),(60,.cell false (.x (.wa 64)))],false,[]⟩
def YR (f:jH) (v:vI):TSt:=vp qgG [dv (.ba 32) f.2.1,dv (.wa 8) v.1,dv (.wa 64) f.2.2.2,dv .bl v.2]
def qgw (N:Nat) (o_10:List UInt8) (o_10_2:Vector UInt8 32) (o_10_3:Vector UInt32 8) (o_10_4:Vector UInt32 64) (v:vI):Tree (vI⊕jn):=
 .cond (decide (((0:Int)) < ((v.2.length:Nat):Int))) (
 .chk (0≤(0:Int)∧(0:Int)≤(64:Int)∧(64:Int)≤((v.2.length:Nat):Int)) <|
 .bind (Wc N v.1 o_10_4 ((v.2.take 64).drop 0)) fun r1=>
 .chk (0≤(64:Int)∧(64:Int)≤((v.2.length:Nat):Int)) <|
 .ret (.inl (r1,v.2.drop 64))) <|
 .ret (.inr (.inr ((v.1,v.2,decide (((0:Int)) < ((v.2.length:Nat):Int))))))
def Y7 (N n:Nat) (f:jH) (v:vI):Option jn:=zG (qgw N f.1 f.2.1 f.2.2.1 f.2.2.2) some n v
theorem qfS (N:Nat) (f:jH) (n:Nat) (v:vI) (y:jn) (h:Y7 N n f v=some y):LG Tryz.prog Qq 78 (zi Q9 10) (YR f v) (jG f y):=
 jQ qz (E:=Xf N) (L:=q0 (qcN N)) (st:=jG f) (g:=some) (R:=jG f) (Jm N) (qH (by kernel_rfl) trivial) (rg0 (by kernel_rfl)) (fun v=>by kernel_rfl) (zC (st:=jG f) fun y=>by rcases y with _ | _<;>rfl) n v y h
abbrev Z7:=Unit
def qcu:SP:=⟨0,63,[],[(2,.k (.p 20 [] 0)),(3,.vs 100050),(5,.k (.p 50 [] 0)),(6,.k (.p 60 [] 0))],[(20,.cell false (.x (.ba 32))),(50,.cell false (.x (.wa 8))),(60,.cell false (.x (.wa 64))),(100050,.vec false 1)],false,[]⟩
def qkX (f:jH) (v:Z7):TSt:=vp qcu [dv .bl f.1,dv (.ba 32) f.2.1,dv (.wa 8) f.2.2.1,dv (.wa 64) f.2.2.2]
abbrev W7:=vI⊕jn
def qkR (N:Nat) (o_10:List UInt8) (o_10_2:Vector UInt8 32) (o_10_3:Vector UInt32 8) (o_10_4:Vector UInt32 64) (v:Z7):Tree (Z7⊕W7):=
 .cond (decide (((0:Int)) < ((o_10.length:Nat):Int))) (
 .chk (0≤(0:Int)∧(0:Int)≤(64:Int)∧(64:Int)≤((o_10.length:Nat):Int)) <|
 .chk (o_10.length=o_10.length) <|
 .bind (Wc N o_10_3 o_10_4 ((o_10.take 64).drop 0)) fun r1=>
 .chk (0≤(64:Int)∧(64:Int)≤((o_10.length:Nat):Int)) <|
 .chk (o_10.length=o_10.length) <|
 .ret (.inr (.inl (r1,o_10.drop 64)))) <|
 .ret (.inr (.inr ((.inl ()))))
def qcO (N n:Nat) (f:jH):W7→Option jn
 | .inl w=>Y7 N n f w
 | .inr w=>some w
def qkK (f:jH):W7→Ex×TSt
 | .inl w=>(.normal,YR f w)
 | .inr w=>jG f w
def qcS (N n:Nat) (f:jH) (v:Z7):Option jn:=zG (qkR N f.1 f.2.1 f.2.2.1 f.2.2.2) (qcO N n f) n v
theorem qkU (N:Nat) (f:jH) (n:Nat) (v:Z7) (y:jn) (h:qcS N n f v=some y):LG Tryz.prog Qq 78 (zi Q9 10) (qkX f v) (jG f y):=
 jQ qz (E:=Xf N) (L:=q0 (qcN N)) (st:=qkK f) (g:=(qcO N n f)) (R:=jG f) (Jm N) (qH (by kernel_rfl) trivial) (rg0 (by kernel_rfl)) (fun v=>by kernel_rfl) (fun w y h=>by
 rcases w with w | w
 ·exact qfS N f n w y h
 ·exact zC (st:=jG f) (fun y=>by rcases y with _ | _<;>rfl) w y h
) n v y h
def qfA (N:Nat) (o_10:List UInt8) (o_10_2:Vector UInt8 32) (o_10_3:Vector UInt32 8) (o_10_4:Vector UInt32 64):Option jn:=qcS N N (o_10,o_10_2,o_10_3,o_10_4) ()
def qcp (N:Nat):qO:=smL qcu [.bl,(.ba 32),(.wa 8),(.wa 64)] jn (fun x=>qfA N x.1 x.2.1 x.2.2.1 x.2.2.2.1) (csS cs1) fun x=>jG (x.1,x.2.1,x.2.2.1,x.2.2.2.1)
theorem qjc (N:Nat):Zb Tryz.prog Qq 78 (zi Q9 10) (qcp N):=vB fun x z h=>qkU N (x.1,x.2.1,x.2.2.1,x.2.2.2.1) N () z h
abbrev VW:=Vector UInt8 32×Vector UInt32 8
abbrev QL:=Vector UInt8 32×Int×Bool
def Jb (f:VW) (y:QL):Ex×TSt:=(.exit 6,⟨0,63,[],[(2,.p 20 [] 0),(5,.p 50 [] 0),(7,.p 70 [] 0),(46,xi y.2.1),(47,xb y.2.2)],[(20,.cell false (.tv (.ba 32) f.1)),(50,.cell false (.tv (.wa 8) f.2)),(70,.cell false (.tv (.ba 32) (y.1:Vector UInt8 32)))],false,[]⟩)
def qkL (N:Nat):List (Nat×qO):=[]
abbrev Z9:=Vector UInt8 32×Int
def qcB:SP:=⟨0,63,[],[(2,.k (.p 20 [] 0)),(5,.k (.p 50 [] 0)),(7,.k (.p 70 [] 0)),(46,.x (.i .i64))],[(20,.cell false (.x (.ba 32))),(50,.cell false (.x (.wa 8))),(70,.cell false (.x (.ba 32)))],false,[]⟩
def qkI (f:VW) (v:Z9):TSt:=vp qcB [dv (.ba 32) f.1,dv (.wa 8) f.2,dv (.ba 32) v.1,dv (.i .i64) v.2]
def qk1 (N:Nat) (o_15:Vector UInt8 32) (o_15_2:Vector UInt32 8) (v:Z9):Tree (Z9⊕QL):=
 .cond (decide (v.2 < ((32:Int)))) (
 .chk ((4:Int)≠0) <|
 .chk (qx (v.2.tdiv 4)) <|
 .chk (0≤(v.2.tdiv 4)∧(v.2.tdiv 4) < ((8:Nat):Int)) <|
 .chk ((v.2.tdiv 4).toNat < 8) <|
 .chk ((4:Int)≠0) <|
 .chk (qx (((8:Int)) * (v.2.tmod 4))) <|
 .chk (qx (((24:Int)) - (((8:Int)) * (v.2.tmod 4)))) <|
 .chk (0≤(((24:Int)) - (((8:Int)) * (v.2.tmod 4)))) <|
 let w1:Int:=Qd (((o_15_2.toList.getD ((v.2.tdiv 4).toNat) 0).toNat:Nat):Int) (min (((24:Int)) - (((8:Int)) * (v.2.tmod 4))).toNat 32)
 .chk (0≤v.2∧v.2 < ((32:Nat):Int)) <|
 .chk (inB (IntKind.u8.wrap w1)) <|
 .chk (v.2.toNat < 32) <|
 .chk (qx (v.2 + 1)) <|
 .ret (.inl (v.1.setIfInBounds v.2.toNat (UInt8.ofNat (IntKind.u8.wrap w1).toNat),v.2 + 1))) <|
 .ret (.inr (v.1,v.2,decide (v.2 < ((32:Int)))))
def qcR (N n:Nat) (f:VW) (v:Z9):Option QL:=zG (qk1 N f.1 f.2) some n v
theorem qlg (N:Nat) (f:VW) (n:Nat) (v:Z9) (y:QL) (h:qcR N n f v=some y):LG Tryz.prog Qq 78 (zi Q9 15) (qkI f v) (Jb f y):=
 jQ qz (E:=Xf N) (L:=q0 (qkL N)) (st:=Jb f) (g:=some) (R:=Jb f) (Jm N) (qH (by kernel_rfl) trivial) (rg0 (by kernel_rfl)) (fun v=>by kernel_rfl) (zC (st:=Jb f) fun y=>by rfl) n v y h
def qaz (N:Nat) (o_15:Vector UInt8 32) (o_15_2:Vector UInt32 8) (o_15_3:Vector UInt8 32) (s46_15:Int):Option QL:=qcR N N (o_15,o_15_2) (o_15_3,s46_15)
def qcK (N:Nat):qO:=smL qcB [(.ba 32),(.wa 8),(.ba 32),(.i .i64)] QL (fun x=>qaz N x.1 x.2.1 x.2.2.1 x.2.2.2.1) cs1 fun x=>Jb (x.1,x.2.1)
theorem qiU (N:Nat):Zb Tryz.prog Qq 78 (zi Q9 15) (qcK N):=vB fun x z h=>qlg N (x.1,x.2.1) N (x.2.2.1,x.2.2.2.1) z h
def qc_ (z:Vector UInt8 32):TV×THp:=(.tv (.ba 32) z,[])
def qkq (N:Nat) (a0:List UInt8):Tree (Vector UInt8 32):=
 .bind (Xy a0) fun r1=>
 .chk (W4 (((([]:List UInt8))++a0).length) (((([]:List UInt8))++a0).length) ((((([]:List UInt8))++a0)++[(UInt8.ofNat 128)]).length) 1) <|
 .bind (QW [((((([]:List UInt8))++a0)++[(UInt8.ofNat 128)]).length,(((([]:List UInt8))++a0)++[(UInt8.ofNat 128)]).length)] (qh3 N ((Vector.replicate 32 0)) a0 (((([]:List UInt8))++a0)++[(UInt8.ofNat 128)]))) fun z2=>
 .bind (QW [(z2.1.length,z2.1.length)] (qhg N ((Vector.replicate 32 0)) a0 z2.1 0)) fun z3=>
 .bind (qkr) fun r4=>
 .bind (qkm) fun r5=>
 .bind (QW [(z3.1.length,z3.1.length)] (qfA N z3.1 ((Vector.replicate 32 0)) ((((((((((Vector.replicate 8 0)).setIfInBounds 0 ((UInt32.ofNat 1779033703))).setIfInBounds 1 ((UInt32.ofNat 3144134277))).setIfInBounds 2 ((UInt32.ofNat 1013904242))).setIfInBounds 3 ((UInt32.ofNat 2773480762))).setIfInBounds 4 ((UInt32.ofNat 1359893119))).setIfInBounds 5 ((UInt32.ofNat 2600822924))).setIfInBounds 6 ((UInt32.ofNat 528734635))).setIfInBounds 7 ((UInt32.ofNat 1541459225))) ((((((((((((((((((((((((((((((((((((((((((((((((((((((((((((((((((Vector.replicate 64 0)).setIfInBounds 0 ((UInt32.ofNat 1116352408))).setIfInBounds 1 ((UInt32.ofNat 1899447441))).setIfInBounds 2 ((UInt32.ofNat 3049323471))).setIfInBounds 3 ((UInt32.ofNat 3921009573))).setIfInBounds 4 ((UInt32.ofNat 961987163))).setIfInBounds 5 ((UInt32.ofNat 1508970993))).setIfInBounds 6 ((UInt32.ofNat 2453635748))).setIfInBounds 7 ((UInt32.ofNat 2870763221))).setIfInBounds 8 ((UInt32.ofNat 3624381080))).setIfInBounds 9 ((UInt32.ofNat 310598401))).setIfInBounds 10 ((UInt32.ofNat 607225278))).setIfInBounds 11 ((UInt32.ofNat 1426881987))).setIfInBounds 12 ((UInt32.ofNat 1925078388))).setIfInBounds 13 ((UInt32.ofNat 2162078206))).setIfInBounds 14 ((UInt32.ofNat 2614888103))).setIfInBounds 15 ((UInt32.ofNat 3248222580))).setIfInBounds 16 ((UInt32.ofNat 3835390401))).setIfInBounds 17 ((UInt32.ofNat 4022224774))).setIfInBounds 18 ((UInt32.ofNat 264347078))).setIfInBounds 19 ((UInt32.ofNat 604807628))).setIfInBounds 20 ((UInt32.ofNat 770255983))).setIfInBounds 21 ((UInt32.ofNat 1249150122))).setIfInBounds 22 ((UInt32.ofNat 1555081692))).setIfInBounds 23 ((UInt32.ofNat 1996064986))).setIfInBounds 24 ((UInt32.ofNat 2554220882))).setIfInBounds 25 ((UInt32.ofNat 2821834349))).setIfInBounds 26 ((UInt32.ofNat 2952996808))).setIfInBounds 27 ((UInt32.ofNat 3210313671))).setIfInBounds 28 ((UInt32.ofNat 3336571891))).setIfInBounds 29 ((UInt32.ofNat 3584528711))).setIfInBounds 30 ((UInt32.ofNat 113926993))).setIfInBounds 31 ((UInt32.ofNat 338241895))).setIfInBounds 32 ((UInt32.ofNat 666307205))).setIfInBounds 33 ((UInt32.ofNat 773529912))).setIfInBounds 34 ((UInt32.ofNat 1294757372))).setIfInBounds 35 ((UInt32.ofNat 1396182291))).setIfInBounds 36 ((UInt32.ofNat 1695183700))).setIfInBounds 37 ((UInt32.ofNat 1986661051))).setIfInBounds 38 ((UInt32.ofNat 2177026350))).setIfInBounds 39 ((UInt32.ofNat 2456956037))).setIfInBounds 40 ((UInt32.ofNat 2730485921))).setIfInBounds 41 ((UInt32.ofNat 2820302411))).setIfInBounds 42 ((UInt32.ofNat 3259730800))).setIfInBounds 43 ((UInt32.ofNat 3345764771))).setIfInBounds 44 ((UInt32.ofNat 3516065817))).setIfInBounds 45 ((UInt32.ofNat 3600352804))).setIfInBounds 46 ((UInt32.ofNat 4094571909))).setIfInBounds 47 ((UInt32.ofNat 275423344))).setIfInBounds 48 ((UInt32.ofNat 430227734))).setIfInBounds 49 ((UInt32.ofNat 506948616))).setIfInBounds 50 ((UInt32.ofNat 659060556))).setIfInBounds 51 ((UInt32.ofNat 883997877))).setIfInBounds 52 ((UInt32.ofNat 958139571))).setIfInBounds 53 ((UInt32.ofNat 1322822218))).setIfInBounds 54 ((UInt32.ofNat 1537002063))).setIfInBounds 55 ((UInt32.ofNat 1747873779))).setIfInBounds 56 ((UInt32.ofNat 1955562222))).setIfInBounds 57 ((UInt32.ofNat 2024104815))).setIfInBounds 58 ((UInt32.ofNat 2227730452))).setIfInBounds 59 ((UInt32.ofNat 2361852424))).setIfInBounds 60 ((UInt32.ofNat 2428436474))).setIfInBounds 61 ((UInt32.ofNat 2756734187))).setIfInBounds 62 ((UInt32.ofNat 3204031479))).setIfInBounds 63 ((UInt32.ofNat 3329325298))))) fun z6=>
 .sum z6 (fun z7=>
 .bind (qaz N ((Vector.replicate 32 0)) ((((((((((Vector.replicate 8 0)).setIfInBounds 0 ((UInt32.ofNat 1779033703))).setIfInBounds 1 ((UInt32.ofNat 3144134277))).setIfInBounds 2 ((UInt32.ofNat 1013904242))).setIfInBounds 3 ((UInt32.ofNat 2773480762))).setIfInBounds 4 ((UInt32.ofNat 1359893119))).setIfInBounds 5 ((UInt32.ofNat 2600822924))).setIfInBounds 6 ((UInt32.ofNat 528734635))).setIfInBounds 7 ((UInt32.ofNat 1541459225))) ((Vector.replicate 32 0)) 0) fun z8=>
 .ret z8.1) fun z7=>
 .bind (qaz N ((Vector.replicate 32 0)) z7.1 ((Vector.replicate 32 0)) 0) fun z8=>
 .ret z8.1
def qjx (N:Nat) (a0:List UInt8):Option (Vector UInt8 32):=(qkq N a0).run some
def qrY (N:Nat):List (Nat×qO):=[(2,qdD N),(5,qee N),(10,qcp N),(15,qcK N)]
def qr_ (N:Nat):Ent:=smF ⟨78,[],[.x .bl],[],[]⟩ [.bl] (Vector UInt8 32) (fun x=>qjx N x.1) cs1 fun _=>qc_
theorem qnM (N:Nat):qeI Tryz.prog ⟨78,[],[.x .bl],[],[]⟩ [.bl] (fun x=>qkq N x.1) (fun _=>qc_):=
 qa2 (H:=Qq) (L:=q0 (qrY N)) 0 quv (Jm N) (qH (by kernel_rfl) ⟨qk0 N,qkE N,qjc N,qiU N,trivial⟩) (rg0 (by kernel_rfl)) fun x=>by kernel_rfl
theorem qqU (N:Nat):zl Tryz.prog (qr_ N):=qdN (qnM N)
end Go.Rx
end
set_option maxRecDepth 100000
noncomputable section
namespace Go.Rx
open Go.Proofs
def dg0:Vector UInt8 32:=#v[227,176,196,66,152,252,28,20,154,251,244,200,153,111,185,36,39,174,65,228,100,155,147,76,164,149,153,27,120,82,184,85]
theorem qwR:qjx 300 []=some dg0:=by kernel_rfl
def qwF:List (List UInt8×Vector UInt8 32):=[([],dg0)]
theorem qvW:qp1 (qjx 300) qwF:=⟨qwR,trivial⟩
def qlR:Ent:=smF ⟨78,[],[.x .bl],[],[]⟩ [.bl] (Vector UInt8 32) (fun x=>qmu qwF x.1) cs1 fun _=>qc_
theorem qvu:zl Tryz.prog qlR:=qwA (qqU 300) fun x z h=>qpw qvW x.1 z h
end Go.Rx
end
set_option maxRecDepth 100000
noncomputable section
namespace Go.Rx
open Go.Proofs
def qvz:List (Nat×TH):=[(11,{ live:=[(1,[1]),(2,[1,2,3]),(3,[1,2,3,4,5,6]),(4,[1,2,3,4,5,6,7,8]),(5,[1,2,3,4,5,6,7,8,9]),(6,[1,2,3,4,5,6,7,8,9,10,11]),(7,[0])],dec:=[44,49,52,56,61,65,71,75,81,85],rd:=[(1,[1]),(3,[4]),(4,[7]),(5,[9]),(6,[10])] }),
 (13,{ live:=[(0,[1]),(1,[1,12]),(2,[2,3]),(3,[1,4]),(4,[1,6]),(5,[1,6,7]),(6,[1,6,7,32]),(7,[1,6,7,32,33]),(8,[6]),(9,[1,6,7,32,43]),(10,[6]),(11,[1,6,7,58]),(12,[1,6,7,8]),(13,[6]),(14,[2,3])],rd:=[(0,[1])] }),
 (15,{ live:=[(0,[0,2]),(1,[0,2,5]),(2,[0,2,5,6]),(3,[0,2,5,6,7,8,9]),(4,[0,2,5,6,7]),(5,[0,2,5,6]),(6,[0,2,5,6,41]),(7,[0,2,5,6]),(8,[0,2,5,6,46]),(9,[0,2,5,6,46,47]),(10,[0,2,5,6,10,11,12]),(11,[0,2,5,6,10]),(12,[0,2,5,6]),(13,[0,2,5,6,46,64]),(14,[0,2,5,6]),(15,[0,2,5,6,75]),(16,[0,2,5,6,13,14,15]),(17,[0,2,5,6,13]),(18,[0,2,5,6]),(19,[0,2,5,6,103]),(20,[2,3,4]),(21,[2,3,4])],dec:=[99],rd:=[(3,[7])] }),
 (19,{ live:=[(0,[1]),(1,[1,23]),(2,[2]),(3,[2])],dec:=[6,11,18,27,32,37,43] }),
 (20,{ live:=[(0,[2,3]),(1,[2,3,5]),(2,[4])],dec:=[11,18,25,33,40,47,54,61] }),
 (21,{ live:=[(0,[1]),(1,[3]),(2,[2])] }),
 (24,{ live:=[(0,[2,3,4]),(1,[2,3,4,17]),(2,[4,5]),(3,[2,3,4,6]),(4,[2,3,4,7]),(5,[2,3,4,7,25]),(6,[4,5]),(7,[2,3,4,8,9]),(8,[2,3,4,8,9,44]),(9,[4,5]),(10,[4,5])],dec:=[13,21],rd:=[(3,[6])] }),
 (27,{ live:=[(0,[2,3,4]),(1,[2,4,6]),(2,[2,4,6,12]),(3,[4,5]),(4,[4,5])] }),
 (28,{ live:=[(0,[2,3,4]),(1,[2,4,6]),(2,[2,4,6,12]),(3,[4,5]),(4,[4,5])] }),
 (29,{ live:=[(0,[0,2]),(1,[2])] }),
 (30,{ live:=[(0,[1]),(1,[1,6,7,8]),(2,[1,6,7,8,9]),(3,[1,3,4,6,7,8]),(4,[1,6,7,8,32]),(5,[2]),(6,[1,6,7,8]),(7,[2])],dec:=[16,19],rd:=[(3,[4])] }),
 (33,{ live:=[(0,[1]),(1,[1,6]),(2,[2,3]),(3,[2,3])],fresh:=[15],esc:=true }),
 (34,{ live:=[(0,[0]),(1,[0,3]),(2,[0,3,9,10,11]),(3,[0,3,9,10,11,12]),(4,[0,3,5,9,10,11]),(5,[0,3,9,10,11]),(6,[0,3,9,10,11,20]),(7,[0,3,9,10,11]),(8,[0,3,9,10,11]),(9,[0,6]),(10,[6,25,26,27]),(11,[6,25,26,27,28]),(12,[6,8,25,26,27]),(13,[6,25,26,27]),(14,[6,25,26,27]),(15,[2])],raw:=[85],fresh:=[24] }),
 (35,{ live:=[(0,[0]),(1,[2])],fresh:=[6],esc:=true }),
 (36,{ live:=[(0,[0]),(1,[0,9]),(2,[2,3]),(3,[0,4]),(4,[4,14,15,16]),(5,[4,14,15,16,17]),(6,[4,6,14,15,16]),(7,[4,6,14,15,16,21]),(8,[4,14,15,16]),(9,[4,14,15,16]),(10,[4,14,15,16]),(11,[2,3])],rd:=[(6,[6])] }),
 (42,{ live:=[(0,[0]),(1,[2])] }),
 (43,{ live:=[(0,[0,2]),(1,[2])] }),
 (44,{ live:=[(0,[0,2]),(1,[2,5,6,7]),(2,[2,6,7,8]),(3,[2,6,8,28]),(4,[2,3,4]),(5,[2,3,4])],dec:=[24],rd:=[(2,[8])] }),
 (45,{ live:=[(0,[0,1,2]),(1,[0,1]),(2,[0,1,31]),(3,[6]),(4,[0,1,7]),(5,[7]),(6,[6])],dec:=[13,17] }),
 (46,{ live:=[(0,[0,1]),(1,[0,1,7,8,9]),(2,[1,7,8,9,10]),(3,[7,8,10,33]),(4,[4,5,6]),(5,[4,5,6])],dec:=[21,25] }),
 (47,{ live:=[(0,[0,2]),(1,[2])] }),
 (48,{ live:=[(0,[0]),(1,[0,5,6,7]),(2,[0,5,6,23]),(3,[2,3,4]),(4,[0,5,6,8]),(5,[0,6,8,24,25]),(6,[0,6,8,24,25,26]),(7,[0,6,8,9,10,11,24,25]),(8,[0,6,8,9,10,24,25,36]),(9,[2,3,4]),(10,[0,6,8,10,24,25]),(11,[0,6,8,24,25]),(12,[0,6,8,24,25]),(13,[6,8,47]),(14,[2,3,4]),(15,[2,3,4])],dec:=[20],rd:=[(7,[9])] }),
 (59,{ live:=[(0,[1,2]),(1,[1,2,3]),(2,[1,2,3,12]),(3,[1,2,3,12,13]),(4,[2,3]),(5,[1,2,3,12,21]),(6,[2,3]),(7,[1,2,3,35]),(8,[2,3]),(9,[2])] }),
 (60,{ live:=[(0,[1]),(1,[2])],dec:=[6,10,15,20] }),
 (61,{ live:=[(0,[0]),(1,[2])],dec:=[5] }),
 (62,{ live:=[(0,[0]),(1,[0,3]),(2,[0,3,6,7,8]),(3,[0,3,6,7,8,9]),(4,[0,3,5,6,7,8]),(5,[0,3,5,6,7,8,14]),(6,[2]),(7,[0,3,6,7,8]),(8,[0,3,6,7,8]),(9,[2])],dec:=[27],rd:=[(4,[5])] }),
 (63,{ live:=[(0,[0,1]),(1,[4])] }),
 (65,{ live:=[(0,[1]),(1,[2,3])] }),
 (66,{ live:=[(0,[1]),(1,[2,3])] }),
 (67,{ live:=[(0,[1]),(1,[1,4,5]),(2,[1,4,5,20]),(3,[2,3]),(4,[1,6,7]),(5,[1,6,31]),(6,[2,3]),(7,[2,3])] }),
 (68,{ live:=[(0,[2,3,4]),(1,[2,3,4,6]),(2,[2,3,4,6,39]),(3,[4,5]),(4,[2,4,47,48,49]),(5,[2,4,47,48,49,50]),(6,[2,4,8,47,48,49]),(7,[2,4,8,47,48,49,54]),(8,[2,4,9,10,47,48,49]),(9,[2,4,9,10,47,48,49,64]),(10,[4,5]),(11,[2,4,47,48,49]),(12,[2,4,47,48,49]),(13,[4,5])],dec:=[19,23,29,34],rd:=[(1,[6]),(6,[8]),(8,[9])] }),
 (73,{ live:=[(0,[0,1]),(1,[0,1,7,8]),(2,[0,1,7,8,9]),(3,[0,1,5,7,8]),(4,[0,1,5,7,8,16]),(5,[4]),(6,[0,1,7,8]),(7,[4])] }),
 (74,{ live:=[(0,[1,2]),(1,[3])] }),
 (75,{ live:=[(0,[1,2]),(1,[1,2]),(2,[2])] }),
 (76,{ live:=[(0,[0,1]),(1,[0,1,7,8]),(2,[0,1,7,8,9]),(3,[0,1,5,7,8]),(4,[0,1,5,7,8,16]),(5,[4]),(6,[0,1,7,8]),(7,[4])] }),
 (77,{ live:=[(0,[1,2]),(1,[3])] }),
 (78,{ live:=[(0,[0,2]),(1,[0,2,3]),(2,[0,2,3,16]),(3,[0,2,3]),(4,[0,2,3,20]),(5,[0,2,3,20,21]),(6,[0,2,3,4,20]),(7,[0,2,3,20]),(8,[0,2,3,20]),(9,[2,3,5,6]),(10,[2,3,5,6,40]),(11,[2,3,5,6]),(12,[2,3,5,6]),(13,[2,5,7]),(14,[2,5,7,46]),(15,[2,5,7,46,47]),(16,[2,5,7,8,46]),(17,[2,5,7,46]),(18,[2,5,7,46]),(19,[2])],fresh:=[10] }),
 (79,{ live:=[(0,[1]),(1,[1,21]),(2,[2]),(3,[1,23,24,25]),(4,[1,23,24,25,26]),(5,[1,3,4,23,24,25]),(6,[1,4,5,23,24,25]),(7,[1,23,24,25,74]),(8,[2]),(9,[1,23,24,25]),(10,[2])],dec:=[10,15,32,37,40,55,60,66],rd:=[(5,[4])] }),
 (80,{ live:=[(0,[2,3]),(1,[4])],dec:=[8] }),
 (83,{ live:=[(0,[2,3,4]),(1,[2,3,4,22]),(2,[4,5]),(3,[2,3,4,6]),(4,[2,3,4,6,7]),(5,[4,6,7,30,31,32]),(6,[4,6,7,30,31,32,33]),(7,[4,6,7,9,30,31,32]),(8,[4,6,7,9,10,11,30,31,32]),(9,[4,6,7,9,10,30,31,32,44]),(10,[4,6,7,9,30,31,32]),(11,[4,6,7,30,31,32]),(12,[4,6,7,30,31,32]),(13,[4,6,7,30,31,32]),(14,[4,6,7,67]),(15,[4,5]),(16,[4,6,7]),(17,[4,6,7,12]),(18,[4,6,12,71,72,73]),(19,[4,6,12,71,72,73,74]),(20,[4,6,12,14,71,72,73]),(21,[4,6,12,71,72,73]),(22,[4,6,12,71,72,73]),(23,[4,5])],dec:=[18],rd:=[(7,[9]),(8,[10]),(20,[14])] }),
 (84,{ live:=[(0,[0]),(1,[0,3]),(2,[0,3,4]),(3,[0,3,4,10,11]),(4,[0,3,4,10,11,12]),(5,[0,3,4,5,10,11]),(6,[0,3,4,10,11]),(7,[0,3,4,10,11]),(8,[4]),(9,[2])],esc:=true }),
 (85,{ live:=[(0,[0,1]),(1,[0,1,6]),(2,[0,1]),(3,[0,1]),(4,[0,1,16]),(5,[0]),(6,[4])],esc:=true,nil:=[(5,[⟨.sl 0,900000850,.bl⟩])] }),
 (87,{ live:=[(0,[0]),(1,[0,5]),(2,[0,5,6]),(3,[5,6,9,10,11]),(4,[5,6,9,10,11,12]),(5,[5,6,7,8,9,10,11]),(6,[5,6,7,8,9,10,11,16]),(7,[5,6,7,8,9,10,11,16]),(8,[5,6,7,8,9,10,11,16]),(9,[5,6,7,8,9,10,11]),(10,[5,6,7,9,10,11,39]),(11,[5,6]),(12,[5,6,9,10,11]),(13,[5,6,44]),(14,[2,3,4]),(15,[2,3,4])],dec:=[21,28] }),
 (88,{ live:=[(0,[0,2]),(1,[0,2,5]),(2,[0,2,5,15]),(3,[2,3,4]),(4,[0,2,5,26]),(5,[2,6,7,8]),(6,[2,3,4]),(7,[0,2,5,9,10,11]),(8,[2,5,9,10,11,12,13,14]),(9,[2,5,9,10,12,13,72]),(10,[2,3,4]),(11,[2,3,4])],dec:=[19,61,65,69] }),
 (90,{ live:=[(0,[1]),(1,[1,4]),(2,[2]),(3,[2])],dec:=[8,13,23] }),
 (91,{ live:=[(0,[0,1]),(1,[0,1,10]),(2,[4]),(3,[0,1,12,13]),(4,[0,1,12,13,14]),(5,[0,1,5,12,13]),(6,[0,1,12,13,24]),(7,[4]),(8,[0,1,12,13]),(9,[4])] }),
 (92,{ live:=[(0,[1,2,3]),(1,[1,2,17]),(2,[6,7]),(3,[6,7])],dec:=[10] }),
 (93,{ live:=[(0,[2,3,4]),(1,[2,8]),(2,[10,11]),(3,[10,26]),(4,[6,7]),(5,[6,7])],rd:=[(1,[8]),(2,[10])] }),
 (94,{ live:=[(0,[0,1]),(1,[0,1,11]),(2,[4,5]),(3,[0,1,6]),(4,[0,6,12,13,14]),(5,[0,6,12,13,14,15]),(6,[0,6,8,12,13,14]),(7,[0,6,8,12,13,14,29]),(8,[4,5]),(9,[0,6,8,12,13,14]),(10,[0,6,8,12,13,14,34]),(11,[0,6,12,13,14]),(12,[0,6,12,13,14]),(13,[4,5])],dec:=[20],rd:=[(6,[8])] }),
 (95,{ live:=[(0,[1]),(1,[2])],dec:=[7] }),
 (103,{ live:=[(0,[0]),(1,[0,4]),(2,[2]),(3,[2])],vecs:=[5],esc:=true }),
 (104,{ live:=[(0,[0]),(1,[0,4]),(2,[2]),(3,[2])],vecs:=[5],esc:=true }),
 (105,{ live:=[(0,[0]),(1,[0])] }),
 (106,{ live:=[(0,[0]),(1,[0])] }),
 (107,{ live:=[(0,[0,2,6]),(1,[0,2,6,7]),(2,[0,2,6,7,19]),(3,[0,2,6,7,19,20]),(4,[0,2,6,7,8,19]),(5,[0,2,6,7,8,9,10,19]),(6,[0,2,6,7,9,11,19]),(7,[0,2,6,7,11,12,19]),(8,[0,2,6,7,11,12,19]),(9,[0,2,6,7,11,19]),(10,[0,2,6,7,19]),(11,[0,2,6,7,19]),(12,[0,7,95]),(13,[0,7,95,96]),(14,[0,7,13,95]),(15,[0,7,95]),(16,[0,7,95])],rd:=[(0,[6])] }),
 (108,{ live:=[(0,[1]),(1,[2])],dec:=[7,12] }),
 (109,{ live:=[(0,[2,3]),(1,[4])],dec:=[8] }),
 (110,{ live:=[(0,[0,1]),(1,[4])] }),
 (112,{ live:=[(0,[0]),(1,[0,3]),(2,[0,3,9,10,11]),(3,[0,3,9,10,11,12]),(4,[0,3,5,9,10,11]),(5,[0,3,9,10,11]),(6,[0,3,9,10,11,20]),(7,[0,3,9,10,11]),(8,[0,3,9,10,11]),(9,[0,6]),(10,[6,25,26,27]),(11,[6,25,26,27,28]),(12,[6,8,25,26,27]),(13,[6,25,26,27]),(14,[6,25,26,27]),(15,[2])],raw:=[129],fresh:=[24] }),
 (113,{ live:=[(0,[2,3,4]),(1,[2,3,4,23]),(2,[4,5]),(3,[2,3,4,6]),(4,[2,3,4,6]),(5,[2,3,4,6]),(6,[4,6,7]),(7,[4,7,43]),(8,[7,8]),(10,[4,5])],dec:=[12,17],fresh:=[43],rd:=[(8,[8])] }),
 (114,{ live:=[(0,[0,1,4])] }),
 (115,{ live:=[(0,[2,3]),(1,[4])] }),
 (116,{ live:=[(0,[0]),(1,[0,3]),(2,[0,3]),(3,[0,3,7]),(4,[0,3]),(5,[0,3]),(6,[2])] }),
 (117,{ live:=[(0,[0,1,2]),(1,[6])],dec:=[10] }),
 (118,{ live:=[(0,[0,1]),(1,[0,1]),(2,[1]),(3,[4,5])] }),
 (119,{ live:=[(0,[0]),(1,[2])] }),
 (124,{ live:=[(0,[0,2]),(1,[0,2,3]),(2,[0,2,3,7]),(3,[0,2,3,7,8]),(4,[0,2,3,4,7]),(5,[0,2,3,4,7,11]),(6,[0,2,3,7]),(7,[0,2,3,4,5,6,7]),(8,[0,2,3,7]),(9,[0,2,3,7]),(10,[2])] }),
 (125,{ live:=[(0,[0,1]),(1,[4])] }),
 (126,{ live:=[(0,[0]),(1,[0,3]),(2,[3,6,7,8]),(3,[3,6,7,8,9]),(4,[3,5,6,7,8]),(5,[3,5,6,7,8,14]),(6,[2]),(7,[3,6,7,8]),(8,[2])] }),
 (127,{ live:=[(0,[0,1]),(1,[0,1,5]),(2,[0,1,5,6]),(3,[0,1,6,11]),(4,[12]),(5,[4]),(6,[4]),(7,[0,1,13]),(8,[4]),(9,[0,1,16]),(10,[4]),(11,[19]),(12,[4]),(13,[4])] }),
 (129,{ live:=[(0,[0,1]),(1,[0,1,6]),(2,[0,1]),(3,[0,1]),(4,[0,1,16]),(5,[0]),(6,[4])],esc:=true,nil:=[(5,[⟨.sl 0,900001290,(.sl 19 (.ag [(.ba 16),(.ag [(.i .i64),(.i .i64)]),(.sl 4 (.ag [(.i .i64),(.ag [(.ag [(.i .i64),(.i .i64)]),.s])]))]))⟩])] }),
 (130,{ live:=[(0,[0,3]),(1,[0,9,10,11]),(2,[0,9,10,11,12]),(3,[0,5,9,10,11]),(4,[0,5,6,7,9,10,11]),(5,[0,5,6,9,10,11,22]),(6,[0,9,10,11]),(7,[0,9,10,11]),(8,[0,9,10,11])],rd:=[(3,[5]),(4,[6])] }),
 (131,{ live:=[(0,[2,3,4]),(1,[2,3,4,7]),(2,[4]),(3,[4])] }),
 (132,{ live:=[(0,[2,3]),(1,[4])],esc:=true }),
 (133,{ live:=[(0,[0,1,2,3,4,10]),(1,[0,1,2,3,4,10,11]),(2,[0,1,2,3,4,10,11,12]),(3,[0,1,2,3,4,10,11,12,25]),(5,[0,1,2,3,4,10,11,12,32]),(7,[0,1,2,3,4,10,11,12,39]),(8,[0,1,2,3,4,10,11,12]),(9,[0,1,2,3,4,10,11,12]),(10,[0,1,2,3,4,10,11,12,13,14]),(11,[0,1,2,3,4,10,11,12,13,14,56]),(12,[0,1,2,3,4,10,11,12,13]),(13,[0,1,2,3,4,10,11,12,13]),(14,[0,1,2,3,4,10,11,12,13,14]),(15,[0,1,2,3,4,10,11,12,13,75]),(16,[0,1,2,3,4,10,11,12,13,80]),(17,[0,1,2,3,4,10,11,12,13,97]),(18,[0,2,3,4,10,11,15]),(19,[0,1,2,3,4,10,11]),(20,[0,1,2,3,4,12,16,17]),(21,[0,1,2,3,4,11,12,16]),(22,[0,1,2,3,4,11,12,16,18,19]),(23,[0,1,2,3,4,11,16,18,19,20]),(24,[0,1,2,3,4,11,16,18,19,20,125]),(25,[0,1,2,3,4,10,11,16]),(26,[0,2,3,4,10,11,16]),(27,[0,1,2,3,4,10,11]),(28,[0,1,2,3,4,10,11,16]),(29,[0,1,3,4,10,11,16]),(30,[0,1,2,3,4,10,11])],dec:=[69,72,83] }),
 (134,{ live:=[(0,[0]),(1,[2]),(2,[2])] }),
 (135,{ live:=[(0,[0,6]),(2,[19])] }),
 (142,{ live:=[(0,[0,1]),(1,[0,5]),(2,[4])] }),
 (143,{ live:=[(0,[0]),(1,[2])] }),
 (144,{ live:=[(0,[2,3,4]),(1,[2,3,4,7]),(2,[4]),(3,[4])] }),
 (145,{ live:=[(0,[0,1,2,7]),(1,[0,1,2,7,8]),(2,[0,1,2,4,7]),(3,[0,1,2,4,5,6,7]),(4,[0,1,2,7,30]),(5,[0,1,2,7])],dec:=[17,23],rd:=[(3,[5])] }),
 (146,{ live:=[(0,[0,1,2,3,8]),(1,[0,1,2,3,8,14]),(2,[0,1,2,3,8]),(3,[0,1,2,3,8,9]),(4,[0,1,2,3,8,9,34]),(5,[0,1,2,3,8,9]),(6,[0,1,2,3,8,9])],dec:=[21] }),
 (147,{ live:=[(0,[0,1,2,3,8]),(1,[0,1,2,3,8,9]),(2,[0,3,8,9,10]),(3,[0,3,8,9,10,11]),(4,[0,3,8,9,10,11,21]),(5,[0,3,8,9,10,11]),(6,[0,3,8,9,10,11]),(7,[0,3,8,9,12]),(8,[0,3,8,9,12,33]),(9,[0,3,8,9,12]),(10,[0,3,8,9,12]),(11,[0,3,8,9,12])] }),
 (148,{ live:=[(0,[0,1,8]),(1,[0,1,8,17]),(2,[0,1,8,9]),(3,[0,1,8,9,10]),(4,[0,1,8,9,10,11]),(5,[0,1,8,9,10,11,35]),(6,[0,1,8,9,10,11]),(7,[0,1,8,9,10,11,12]),(8,[0,1,8,9,10,11,12,45]),(9,[0,1,8,9,10,11,12]),(10,[0,1,8,9,10,11])] }),
 (149,{ live:=[(0,[0,1,2,3]),(1,[0,1,3,10]),(2,[0,1,3,10,11]),(3,[0,1,3,10,11,12]),(4,[0,1,3,10,11,12,13]),(5,[0,3,10,11,12,13,14]),(6,[0,3,10,11,12,13,14,34]),(7,[0,3,11,12,13,14,36]),(8,[0,3,11,12,13,14]),(9,[0,3,11,12,13,14]),(10,[0,3,11,12,13,14]),(11,[11,13]),(12,[13,55]),(13,[8,9]),(14,[13,55,57]),(15,[8,9]),(16,[13,60]),(17,[8,9])] }),
 (150,{ live:=[(0,[0,2,8]),(1,[0,8,9]),(2,[0,8,9,15]),(3,[0,8,9]),(4,[0,8,9]),(5,[0,8,9])] }),
 (151,{ live:=[(0,[0,1,2,3]),(1,[0,1,2,3,9]),(2,[0,1,2,3,9,10]),(3,[0,1,2,3,9,10,16]),(4,[0,1,2,3,9,10]),(5,[0,1,2,3,9,10,36]),(6,[0,1,2,3,9,10]),(7,[0,1,2,3,9,10,41]),(8,[8]),(9,[0,1,2,3,9,10,45]),(10,[8]),(11,[0,1,2,3,9,10]),(12,[0,1,2,3,9,10,65]),(13,[0,1,2,3,9,10,11]),(14,[0,1,2,3,9,10,11,69]),(15,[0,1,2,3,9,10,11]),(16,[0,1,2,3,9,10,11,84]),(17,[0,1,2,3,9,10,11]),(18,[0,1,2,3,9,10,104]),(19,[0,1,2,3,9,10,12]),(20,[0,1,2,3,9,10,12,109]),(21,[0,1,2,3,9,10,12]),(22,[0,1,2,3,9,10,12,124]),(23,[0,1,2,3,9,10,12]),(24,[8])],dec:=[22] }),
 (152,{ live:=[(0,[0,1,2,3,4]),(1,[0,1,2,4]),(2,[0,1,4,11,12]),(3,[0,1,4,11,12,47]),(4,[0,1,4,11,12]),(5,[0,1,4,11,12,65]),(6,[0,1,4,11,12]),(7,[0,1,4,11,12,70]),(8,[0,1,4,11,12]),(9,[0,1,4,11,12]),(10,[0,1,4,11,12]),(11,[10])],dec:=[34,53] }),
 (153,{ live:=[(0,[0,1,2,3,4]),(1,[0,1,2,4]),(2,[0,1,4,12,13]),(3,[0,1,4,12,13,47]),(4,[0,1,4,12,13]),(5,[0,1,4,12,13,66]),(6,[0,1,4,12,13]),(7,[0,1,4,12,13,71]),(8,[13]),(9,[10,11]),(10,[0,1,4,12,13]),(11,[0,1,4,12,13]),(12,[0,1,4,12,13]),(13,[0,1,4,12,13,120]),(14,[0,1,4,12,13]),(15,[0,1,4,12,13,139]),(16,[0,1,4,12,13]),(17,[0,1,4,12,13,144]),(18,[0,1,4,12,13]),(19,[0,1,4,12,13]),(20,[0,1,4,12,13]),(21,[13]),(22,[10,11])],dec:=[35,53,108,126] }),
 (154,{ live:=[(0,[0,2]),(1,[0,2,4]),(2,[0]),(3,[0,2]),(4,[0,2,8]),(5,[0,2]),(6,[0,2]),(7,[2])] }),
 (155,{ live:=[(0,[0,2]),(1,[0,2,4]),(2,[0]),(3,[0,2]),(4,[0,2,8]),(5,[0,2]),(6,[0,2]),(7,[0,2,14]),(8,[0,2]),(9,[0,2]),(10,[2])] }),
 (159,{ live:=[(0,[2,3]),(1,[5]),(2,[13,14]),(3,[13,14,15]),(4,[7,13,14]),(5,[8,13,14]),(6,[8,13,14,20]),(7,[4]),(8,[13,14]),(9,[4])],rd:=[(1,[5])] }),
 (160,{ live:=[(0,[0,2,3,4,10]),(1,[0,2,3,4,10,11]),(2,[0,2,3,4,10,11,18]),(3,[0,2,3,4,10,11,40]),(4,[0,2,3,4,10,11]),(5,[0,2,3,4,10,11,58]),(6,[0,2,3,4,11]),(7,[0,2,3,4,10])],dec:=[23] }),
 (161,{ live:=[(0,[0]),(1,[2])] }),
 (162,{ live:=[(0,[0]),(1,[0]),(2,[0]),(3,[0]),(4,[2])] }),
 (163,{ live:=[(0,[0,1,2,3]),(1,[8])] }),
 (164,{ live:=[(0,[0,1,2,3,4,5]),(1,[0,1,2,3,4,5]),(2,[0,1,2,4,5]),(3,[2]),(4,[12])] }),
 (166,{ live:=[(0,[0,1]),(1,[2])] }),
 (167,{ live:=[(0,[2,3,4]),(1,[2,3,4,7]),(2,[6]),(3,[12]),(4,[6]),(5,[6])] }),
 (168,{ live:=[(0,[0,1]),(1,[2])] }),
 (169,{ live:=[(0,[2,3,4]),(1,[2,3,4,7]),(2,[6]),(3,[12]),(4,[6]),(5,[6])] }),
 (170,{ live:=[(0,[2,3]),(1,[4])],dec:=[8] }),
 (171,{ live:=[(0,[0,1]),(1,[2])] }),
 (172,{ live:=[(0,[0,1]),(1,[0,1,5]),(2,[0,1,5,6]),(3,[0,1,6,11]),(4,[12]),(5,[4]),(6,[4]),(7,[0,1,13]),(8,[4]),(9,[0,1,16]),(10,[4]),(11,[19]),(12,[4]),(13,[4])] }),
 (173,{ live:=[(0,[0,1,2,3,4]),(1,[1,2,3,22]),(2,[1,2]),(3,[10,11]),(4,[10,11])] }),
 (175,{ live:=[(0,[0]),(1,[2])] })]
def qvJ (k:FuncId):TH:=(get qvz k).getD {}
theorem qvt:qeh Tryz.prog [113]:=⟨qt9 (fn:=Tryz.f113) (c:=Tryz.f113.body.getD .skip) (by kernel_rfl) (by kernel_rfl) (by kernel_rfl),trivial⟩
def qmR:Option Bool:=some true
theorem qqt:qqS Tryz.prog qvJ [113] [qlR,qnq] 400 30 11=some (.pv (.b true),[]):=by kernel_rfl
def qnv:Ent:=smF ⟨11,[],[],[],[]⟩ [] Bool (fun _=>qmR) cs1 fun _ z=>(xb z,[])
theorem qr7:zl Tryz.prog qnv:=qvH Tryz.prog (fun _=>rfl) qz (base:=[qlR,qnq]) ⟨qvu,qvN,trivial⟩ qvt qqt
end Go.Rx
end
set_option maxRecDepth 100000
noncomputable section
namespace Go.Rx
open Go.Proofs
noncomputable def qgM:Code:=Tryz.f12.body.getD .skip
theorem qus:FnF Tryz.prog 12 Tryz.f12 qgM:=⟨qz,by kernel_rfl,by kernel_rfl,by kernel_rfl⟩
def JF:TH:={ live:=[(0,[1]),(1,[1,13]),(2,[2]),(3,[1,3]),(4,[1,3,18]),(5,[1,3]),(6,[1,3,28]),(7,[2]),(8,[2])],dec:=[8] }
def WV (N:Nat):List Ent:=[]
theorem Xt (N:Nat):q8 Tryz.prog (WV N):=trivial
abbrev v8:=qa
abbrev jf:=Unit⊕(Int×Bool)
def jS (f:v8):jf→Ex×TSt
 | .inl y=>(.ret,⟨0,29,[],[(2,.bc false)],[],false,[]⟩)
 | .inr y=>(.exit 0,⟨0,29,[],[(1,.p 10 [] 0),(3,xi y.1),(18,xb y.2)],[(10,.cell false (.tv q6 f))],false,[]⟩)
def qaP (N:Nat):List (Nat×qO):=[]
abbrev jT:=Int
def Xl:SP:=⟨0,29,[],[(1,.k (.p 10 [] 0)),(3,.x (.i .i64))],[(10,.cell false (.x q6))],false,[]⟩
def qaV (f:v8) (v:jT):TSt:=vp Xl [dv q6 f,dv (.i .i64) v]
def v_ (N:Nat) (o_4:qa) (v:jT):Tree (jT⊕jf):=
 .cond (decide (v < (((qa.P o_4).length:Nat):Int))) (
 .bind (zu (qa.P o_4) v) fun e1=>
 .cond (decide (((300:Int)) < (((qb.Lit e1).length:Nat):Int))) (
 .ret (.inr (.inl ()))) <|
 .chk (qx (v + 1)) <|
 .ret (.inl (v + 1))) <|
 .ret (.inr (.inr ((v,decide (v < (((qa.P o_4).length:Nat):Int))))))
def Xm (N n:Nat) (f:v8) (v:jT):Option jf:=zG (v_ N f) some n v
theorem qbs (N:Nat) (f:v8) (n:Nat) (v:jT) (y:jf) (h:Xm N n f v=some y):LG Tryz.prog JF 12 (zi qgM 4) (qaV f v) (jS f y):=
 jQ qz (E:=WV N) (L:=q0 (qaP N)) (st:=jS f) (g:=some) (R:=jS f) (Xt N) (qH (by kernel_rfl) trivial) (rg0 (by kernel_rfl)) (fun v=>by kernel_rfl) (zC (st:=jS f) fun y=>by rcases y with _ | _<;>rfl) n v y h
def Jr (N:Nat) (o_4:qa) (s3_4:Int):Option jf:=Xm N N o_4 s3_4
def Xk (N:Nat):qO:=smL Xl [q6,(.i .i64)] jf (fun x=>Jr N x.1 x.2.1) (csS cs1) fun x=>jS x.1
theorem qaB (N:Nat):Zb Tryz.prog JF 12 (zi qgM 4) (Xk N):=vB fun x z h=>qbs N x.1 N x.2.1 z h
def qew (z:Bool):TV×THp:=(xb z,[])
def vY (N:Nat) (a0:qa):Tree (Bool):=
 .cond (decide (((80:Int)) < (((qa.P a0).length:Nat):Int))) (
 .ret false) <|
 .cond (decide (((300:Int)) < (((qa.V a0).length:Nat):Int))) (
 .ret false) <|
 .bind (Jr N a0 0) fun z1=>
 .sum z1 (fun z2=>
 .ret false) fun z2=>
 .ret true
def vN (N:Nat) (a0:qa):Option (Bool):=(vY N a0).run some
def qdh (N:Nat):List (Nat×qO):=[(4,Xk N)]
def WJ (N:Nat):Ent:=smF ⟨12,[],[.x q6],[],[]⟩ [q6] (Bool) (fun x=>vN N x.1) cs1 fun _=>qew
theorem qcU (N:Nat):zl Tryz.prog (WJ N):=
 zq (H:=JF) (L:=q0 (qdh N)) (ts:=[q6]) (T:=fun x=>vY N x.1) 0 qus (Xt N) (qH (by kernel_rfl) ⟨qaB N,trivial⟩) (rg0 (by kernel_rfl)) fun x=>by kernel_rfl
noncomputable def quh:Code:=Tryz.f59.body.getD .skip
theorem qto:FnF Tryz.prog 59 Tryz.f59 quh:=⟨qz,by kernel_rfl,by kernel_rfl,by kernel_rfl⟩
def qrO:TH:={ live:=[(0,[1,2]),(1,[1,2,3]),(2,[1,2,3,12]),(3,[1,2,3,12,13]),(4,[2,3]),(5,[1,2,3,12,21]),(6,[2,3]),(7,[1,2,3,35]),(8,[2,3]),(9,[2])] }
def qrh (N:Nat):List Ent:=[]
theorem qoD (N:Nat):q8 Tryz.prog (qrh N):=trivial
def qrK (z:qa):TV×THp:=(.tv q6 z,[])
def qdI (a0:qa):Tree (qa):=
 .cond (decide ((qa.Kind a0)=((1:Int)))) (
 .ret (qa.mk (qa.Kind a0) (qa.ID a0) (qa.S a0) (qa.No a0) (qa.V a0) [] ((Vector.replicate 16 0)) 0 ((Vector.replicate 32 0)))) <|
 .cond (decide ((qa.Kind a0)=((2:Int)))) (
 .ret (qa.mk (qa.Kind a0) (qa.ID a0) (qa.S a0) (qa.No a0) [] [] (qa.jK a0) (qa.je a0) (qa.D a0))) <|
 .cond (decide ((qa.Kind a0)=((3:Int)))) (
 .ret (qa.mk (qa.Kind a0) (qa.ID a0) (qa.S a0) (qa.No a0) [] (qa.P a0) ((Vector.replicate 16 0)) 0 (qa.D a0))) <|
 .ret (qa.mk (qa.Kind a0) (qa.ID a0) (qa.S a0) 0 [] [] ((Vector.replicate 16 0)) 0 ((Vector.replicate 32 0)))
def qeV (a0:qa):Option (qa):=(qdI a0).run some
def qsy:List (Nat×qO):=[]
def qjA:Ent:=smF ⟨59,[],[.x q6],[],[]⟩ [q6] (qa) (fun x=>qeV x.1) cs1 fun _=>qrK
theorem qqQ:zl Tryz.prog (qjA):=
 zq (H:=qrO) (L:=q0 (qsy)) (ts:=[q6]) (T:=fun x=>qdI x.1) 0 qto (qoD 0) (qH (by kernel_rfl) trivial) (rg0 (by kernel_rfl)) fun x=>by kernel_rfl
noncomputable def qgs:Code:=Tryz.f91.body.getD .skip
theorem qtI:FnF Tryz.prog 91 Tryz.f91 qgs:=⟨qz,by kernel_rfl,by kernel_rfl,by kernel_rfl⟩
def ZK:TH:={ live:=[(0,[0,1]),(1,[0,1,10]),(2,[4]),(3,[0,1,12,13]),(4,[0,1,12,13,14]),(5,[0,1,5,12,13]),(6,[0,1,12,13,24]),(7,[4]),(8,[0,1,12,13]),(9,[4])] }
def XL (N:Nat):List Ent:=[]
theorem VG (N:Nat):q8 Tryz.prog (XL N):=trivial
abbrev vv:=List qb×List qb×Int
abbrev zR:=Unit⊕(Int×Bool)
def jt (f:vv):zR→Ex×TSt
 | .inl y=>(.ret,⟨0,26,[],[(4,.bc false)],[],false,[]⟩)
 | .inr y=>(.exit 0,⟨0,26,[],[(0,.tv (.sl 4 qu) f.1),(1,.tv (.sl 4 qu) f.2.1),(12,xi f.2.2),(13,xi y.1),(14,xb y.2)],[],false,[]⟩)
def KB (N:Nat):List (Nat×qO):=[]
abbrev js:=Int
def Vr:SP:=⟨0,26,[],[(0,.x (.sl 4 qu)),(1,.x (.sl 4 qu)),(12,.x (.i .i64)),(13,.x (.i .i64))],[],false,[]⟩
def KA (f:vv) (v:js):TSt:=vp Vr [dv (.sl 4 qu) f.1,dv (.sl 4 qu) f.2.1,dv (.i .i64) f.2.2,dv (.i .i64) v]
def vq (N:Nat) (s0_4:List qb) (s1_4:List qb) (s12_4:Int) (v:js):Tree (js⊕zR):=
 .cond (decide (v < s12_4)) (
 .bind (zu s0_4 v) fun e1=>
 .bind (zu s1_4 v) fun e2=>
 .cond (!(eqE qu e1 e2)) (
 .ret (.inr (.inl ()))) <|
 .chk (qx (v + 1)) <|
 .ret (.inl (v + 1))) <|
 .ret (.inr (.inr ((v,decide (v < s12_4)))))
def Vq (N n:Nat) (f:vv) (v:js):Option zR:=zG (vq N f.1 f.2.1 f.2.2) some n v
theorem Kx (N:Nat) (f:vv) (n:Nat) (v:js) (y:zR) (h:Vq N n f v=some y):LG Tryz.prog ZK 91 (zi qgs 4) (KA f v) (jt f y):=
 jQ qz (E:=XL N) (L:=q0 (KB N)) (st:=jt f) (g:=some) (R:=jt f) (VG N) (qH (by kernel_rfl) trivial) (rg0 (by kernel_rfl)) (fun v=>by kernel_rfl) (zC (st:=jt f) fun y=>by rcases y with _ | _<;>rfl) n v y h
def Zt (N:Nat) (s0_4:List qb) (s1_4:List qb) (s12_4:Int) (s13_4:Int):Option zR:=Vq N N (s0_4,s1_4,s12_4) s13_4
def Vv (N:Nat):qO:=smL Vr [(.sl 4 qu),(.sl 4 qu),(.i .i64),(.i .i64)] zR (fun x=>Zt N x.1 x.2.1 x.2.2.1 x.2.2.2.1) (csS cs1) fun x=>jt (x.1,x.2.1,x.2.2.1)
theorem Kk (N:Nat):Zb Tryz.prog ZK 91 (zi qgs 4) (Vv N):=vB fun x z h=>Kx N (x.1,x.2.1,x.2.2.1) N x.2.2.2.1 z h
def qb5 (z:Bool):TV×THp:=(xb z,[])
def ZW (N:Nat) (a0:List qb) (a1:List qb):Tree (Bool):=
 .cond (!decide (((a0.length:Nat):Int)=((a1.length:Nat):Int))) (
 .ret false) <|
 .bind (Zt N a0 a1 ((a0.length:Nat):Int) 0) fun z1=>
 .sum z1 (fun z2=>
 .ret false) fun z2=>
 .ret true
def QU (N:Nat) (a0:List qb) (a1:List qb):Option (Bool):=(ZW N a0 a1).run some
def qcn (N:Nat):List (Nat×qO):=[(4,Vv N)]
def XC (N:Nat):Ent:=smF ⟨91,[],[.x (.sl 4 qu),.x (.sl 4 qu)],[],[]⟩ [(.sl 4 qu),(.sl 4 qu)] (Bool) (fun x=>QU N x.1 x.2.1) cs1 fun _=>qb5
theorem qbj (N:Nat):zl Tryz.prog (XC N):=
 zq (H:=ZK) (L:=q0 (qcn N)) (ts:=[(.sl 4 qu),(.sl 4 qu)]) (T:=fun x=>ZW N x.1 x.2.1) 0 qtI (VG N) (qH (by kernel_rfl) ⟨Kk N,trivial⟩) (rg0 (by kernel_rfl)) fun x=>by kernel_rfl
noncomputable def qtN:Code:=Tryz.f63.body.getD .skip
theorem qt2:FnF Tryz.prog 63 Tryz.f63 qtN:=⟨qz,by kernel_rfl,by kernel_rfl,by kernel_rfl⟩
def qmy:TH:={ live:=[(0,[0,1]),(1,[4])] }
def qmk (N:Nat):List Ent:=[XC N]
theorem qje (N:Nat):q8 Tryz.prog (qmk N):=⟨qbj N,trivial⟩
def qlC (z:Bool):TV×THp:=(xb z,[])
def Kc (N:Nat) (a0:List qb) (a1:List qb):Tree (Bool):=
 .bind (QU N a0 a1) fun r1=>
 .ret r1
def Ys (N:Nat) (a0:List qb) (a1:List qb):Option (Bool):=(Kc N a0 a1).run some
def qny (N:Nat):List (Nat×qO):=[]
def qdu (N:Nat):Ent:=smF ⟨63,[],[.x (.sl 4 qu),.x (.sl 4 qu)],[],[]⟩ [(.sl 4 qu),(.sl 4 qu)] (Bool) (fun x=>Ys N x.1 x.2.1) cs1 fun _=>qlC
theorem qkZ (N:Nat):zl Tryz.prog (qdu N):=
 zq (H:=qmy) (L:=q0 (qny N)) (ts:=[(.sl 4 qu),(.sl 4 qu)]) (T:=fun x=>Kc N x.1 x.2.1) 0 qt2 (qje N) (qH (by kernel_rfl) trivial) (rg0 (by kernel_rfl)) fun x=>by kernel_rfl
noncomputable def qua:Code:=Tryz.f20.body.getD .skip
theorem qui:FnF Tryz.prog 20 Tryz.f20 qua:=⟨qz,by kernel_rfl,by kernel_rfl,by kernel_rfl⟩
def qsJ:TH:={ live:=[(0,[2,3]),(1,[2,3,5]),(2,[4])],dec:=[11,18,25,33,40,47,54,61] }
def qr9 (N:Nat):List Ent:=[qdu N]
theorem qoj (N:Nat):q8 Tryz.prog (qr9 N):=⟨qkZ N,trivial⟩
def qss (z:Bool):TV×THp:=(xb z,[])
def qdm (N:Nat) (a0:qa) (a1:qa):Tree (Bool):=
 .cond (eqE (.ba 16) (qa.ID a0) (qa.ID a1)) (
 .cond (eqE (.ba 16) (qa.jK a0) (qa.jK a1)) (
 .cond (decide ((qa.No a0)=(qa.No a1))) (
 .cond (decide ((qa.je a0)=(qa.je a1))) (
 .cond (decide ((qa.Kind a0)=(qa.Kind a1))) (
 .cond (eqE zF (qa.S a0) (qa.S a1)) (
 .cond (decide ((qa.V a0)=(qa.V a1))) (
 .cond (eqE (.ba 32) (qa.D a0) (qa.D a1)) (
 .bind (Ys N (qa.P a0) (qa.P a1)) fun r1=>
 .ret r1) <|
 .ret false) <|
 .ret false) <|
 .ret false) <|
 .ret false) <|
 .ret false) <|
 .ret false) <|
 .ret false) <|
 .ret false
def YA (N:Nat) (a0:qa) (a1:qa):Option (Bool):=(qdm N a0 a1).run some
def qsQ (N:Nat):List (Nat×qO):=[]
def qdA (N:Nat):Ent:=smF ⟨20,[],[.x q6,.x q6],[],[]⟩ [q6,q6] (Bool) (fun x=>YA N x.1 x.2.1) cs1 fun _=>qss
theorem qg3 (N:Nat):zl Tryz.prog (qdA N):=
 zq (H:=qsJ) (L:=q0 (qsQ N)) (ts:=[q6,q6]) (T:=fun x=>qdm N x.1 x.2.1) 0 qui (qoj N) (qH (by kernel_rfl) trivial) (rg0 (by kernel_rfl)) fun x=>by kernel_rfl
noncomputable def qte:Code:=Tryz.f60.body.getD .skip
theorem quc:FnF Tryz.prog 60 Tryz.f60 qte:=⟨qz,by kernel_rfl,by kernel_rfl,by kernel_rfl⟩
def qob:TH:={ live:=[(0,[1]),(1,[2])],dec:=[6,10,15,20] }
def qn_ (N:Nat):List Ent:=[]
theorem qkC (N:Nat):q8 Tryz.prog (qn_ N):=trivial
def qoE (z:Bool):TV×THp:=(xb z,[])
def qaq (a0:qi):Tree (Bool):=
 .cond (eqE zF a0 (qi.mk 0 0)) (
 .ret true) <|
 .cond (decide (((0:Int)) < (qi.N a0))) (
 .cond (decide ((qi.N a0)≤((1099511627776:Int)))) (
 .cond (decide (((0:Int))≤(qi.Rep a0))) (
 .ret (decide ((qi.Rep a0) < ((8:Int))))) <|
 .ret false) <|
 .ret false) <|
 .ret false
def JK (a0:qi):Option (Bool):=(qaq a0).run some
def qor:List (Nat×qO):=[]
def Ww:Ent:=smF ⟨60,[],[.x zF],[],[]⟩ [zF] (Bool) (fun x=>JK x.1) cs1 fun _=>qoE
theorem Kf:zl Tryz.prog (Ww):=
 zq (H:=qob) (L:=q0 (qor)) (ts:=[zF]) (T:=fun x=>qaq x.1) 0 quc (qkC 0) (qH (by kernel_rfl) trivial) (rg0 (by kernel_rfl)) fun x=>by kernel_rfl
noncomputable def qs7:Code:=Tryz.f61.body.getD .skip
theorem qtW:FnF Tryz.prog 61 Tryz.f61 qs7:=⟨qz,by kernel_rfl,by kernel_rfl,by kernel_rfl⟩
def qn9:TH:={ live:=[(0,[0]),(1,[2])],dec:=[5] }
def qnO (N:Nat):List Ent:=[]
theorem qkw (N:Nat):q8 Tryz.prog (qnO N):=trivial
def qnZ (z:Bool):TV×THp:=(xb z,[])
def qaI (a0:Int):Tree (Bool):=
 .cond (decide (((0:Int))≤a0)) (
 .ret (decide (a0 < ((8:Int))))) <|
 .ret false
def WQ (a0:Int):Option (Bool):=(qaI a0).run some
def qnT:List (Nat×qO):=[]
def qfo:Ent:=smF ⟨61,[],[.x (.i .i64)],[],[]⟩ [(.i .i64)] (Bool) (fun x=>WQ x.1) cs1 fun _=>qnZ
theorem ql_:zl Tryz.prog (qfo):=
 zq (H:=qn9) (L:=q0 (qnT)) (ts:=[(.i .i64)]) (T:=fun x=>qaI x.1) 0 qtW (qkw 0) (qH (by kernel_rfl) trivial) (rg0 (by kernel_rfl)) fun x=>by kernel_rfl
noncomputable def qrv:Code:=Tryz.f117.body.getD .skip
theorem qrj:FnF Tryz.prog 117 Tryz.f117 qrv:=⟨qz,by kernel_rfl,by kernel_rfl,by kernel_rfl⟩
def qq4:TH:={ live:=[(0,[0,1,2]),(1,[6])],dec:=[10] }
def qrd (N:Nat):List Ent:=[]
theorem qmF (N:Nat):q8 Tryz.prog (qrd N):=trivial
def qqm (z:Bool):TV×THp:=(xb z,[])
def qcf (a0:Int) (a1:Int) (a2:Int):Tree (Bool):=
 .cond (decide (a1≤a0)) (
 .ret (decide (a0≤a2))) <|
 .ret false
def Wo (a0:Int) (a1:Int) (a2:Int):Option (Bool):=(qcf a0 a1 a2).run some
def qqs:List (Nat×qO):=[]
def qhb:Ent:=smF ⟨117,[],[.x (.i .i64),.x (.i .i64),.x (.i .i64)],[],[]⟩ [(.i .i64),(.i .i64),(.i .i64)] (Bool) (fun x=>Wo x.1 x.2.1 x.2.2.1) cs1 fun _=>qqm
theorem qoC:zl Tryz.prog (qhb):=
 zq (H:=qq4) (L:=q0 (qqs)) (ts:=[(.i .i64),(.i .i64),(.i .i64)]) (T:=fun x=>qcf x.1 x.2.1 x.2.2.1) 0 qrj (qmF 0) (qH (by kernel_rfl) trivial) (rg0 (by kernel_rfl)) fun x=>by kernel_rfl
noncomputable def qud:Code:=Tryz.f90.body.getD .skip
theorem qtA:FnF Tryz.prog 90 Tryz.f90 qud:=⟨qz,by kernel_rfl,by kernel_rfl,by kernel_rfl⟩
def qov:TH:={ live:=[(0,[1]),(1,[1,4]),(2,[2]),(3,[2])],dec:=[8,13,23] }
def qon (N:Nat):List Ent:=[qhb]
theorem qld (N:Nat):q8 Tryz.prog (qon N):=⟨qoC,trivial⟩
def qnN (z:Bool):TV×THp:=(xb z,[])
def qam (a0:qb):Tree (Bool):=
 .cond (qb.JV a0) (
 .bind (Wo (qb.jK a0) 0 200) fun r1=>
 .cond r1 (
 .bind (Wo (qb.Len a0) 1 200) fun r2=>
 .cond r2 (
 .ret (decide ((qb.Lit a0)=[]))) <|
 .ret false) <|
 .ret false) <|
 .cond (eqE qu a0 (qb.mk false 0 0 (qb.Lit a0))) (
 .bind (Wo (((qb.Lit a0).length:Nat):Int) 1 200) fun r1=>
 .ret r1) <|
 .ret false
def KE (a0:qb):Option (Bool):=(qam a0).run some
def qoS:List (Nat×qO):=[]
def qfy:Ent:=smF ⟨90,[],[.x qu],[],[]⟩ [qu] (Bool) (fun x=>KE x.1) cs1 fun _=>qnN
theorem qmY:zl Tryz.prog (qfy):=
 zq (H:=qov) (L:=q0 (qoS)) (ts:=[qu]) (T:=fun x=>qam x.1) 0 qtA (qld 0) (qH (by kernel_rfl) trivial) (rg0 (by kernel_rfl)) fun x=>by kernel_rfl
noncomputable def qfN:Code:=Tryz.f62.body.getD .skip
theorem qt5:FnF Tryz.prog 62 Tryz.f62 qfN:=⟨qz,by kernel_rfl,by kernel_rfl,by kernel_rfl⟩
def qau:TH:={ live:=[(0,[0]),(1,[0,3]),(2,[0,3,6,7,8]),(3,[0,3,6,7,8,9]),(4,[0,3,5,6,7,8]),(5,[0,3,5,6,7,8,14]),(6,[2]),(7,[0,3,6,7,8]),(8,[0,3,6,7,8]),(9,[2])],dec:=[27] }
def qfB (N:Nat):List Ent:=[qfy]
theorem qcJ (N:Nat):q8 Tryz.prog (qfB N):=⟨qmY,trivial⟩
abbrev J9:=List qb×List qb×Int
abbrev Qx:=Unit⊕(Int×Int×Bool)
def Zr (f:J9):Qx→Ex×TSt
 | .inl y=>(.ret,⟨0,31,[],[(2,.bc false)],[],false,[]⟩)
 | .inr y=>(.exit 0,⟨0,31,[],[(0,.tv (.sl 4 qu) f.1),(3,xi y.1),(6,.tv (.sl 4 qu) f.2.1),(7,xi f.2.2),(8,xi y.2.1),(9,xb y.2.2)],[],false,[]⟩)
def qi_ (N:Nat):List (Nat×qO):=[]
abbrev Zp:=Int×Int
def qa_:SP:=⟨0,31,[],[(0,.x (.sl 4 qu)),(3,.x (.i .i64)),(6,.x (.sl 4 qu)),(7,.x (.i .i64)),(8,.x (.i .i64))],[],false,[]⟩
def qiJ (f:J9) (v:Zp):TSt:=vp qa_ [dv (.sl 4 qu) f.1,dv (.i .i64) v.1,dv (.sl 4 qu) f.2.1,dv (.i .i64) f.2.2,dv (.i .i64) v.2]
def Vp (N:Nat) (s0_3:List qb) (s6_3:List qb) (s7_3:Int) (v:Zp):Tree (Zp⊕Qx):=
 .cond (decide (v.2 < s7_3)) (
 .bind (zu s6_3 v.2) fun e1=>
 .bind (KE e1) fun r2=>
 .cond (!r2) (
 .ret (.inr (.inl ()))) <|
 .chk (qx ((qb.Len e1) + (((qb.Lit e1).length:Nat):Int))) <|
 .chk (qx (v.1 + ((qb.Len e1) + (((qb.Lit e1).length:Nat):Int)))) <|
 .chk (qx (v.2 + 1)) <|
 .ret (.inl (v.1 + ((qb.Len e1) + (((qb.Lit e1).length:Nat):Int)),v.2 + 1))) <|
 .ret (.inr (.inr ((v.1,v.2,decide (v.2 < s7_3)))))
def qbq (N n:Nat) (f:J9) (v:Zp):Option Qx:=zG (Vp N f.1 f.2.1 f.2.2) some n v
theorem qjp (N:Nat) (f:J9) (n:Nat) (v:Zp) (y:Qx) (h:qbq N n f v=some y):LG Tryz.prog qau 62 (zi qfN 3) (qiJ f v) (Zr f y):=
 jQ qz (E:=qfB N) (L:=q0 (qi_ N)) (st:=Zr f) (g:=some) (R:=Zr f) (qcJ N) (qH (by kernel_rfl) trivial) (rg0 (by kernel_rfl)) (fun v=>by kernel_rfl) (zC (st:=Zr f) fun y=>by rcases y with _ | _<;>rfl) n v y h
def Y9 (N:Nat) (s0_3:List qb) (s6_3:List qb) (s7_3:Int) (s3_3:Int) (s8_3:Int):Option Qx:=qbq N N (s0_3,s6_3,s7_3) (s3_3,s8_3)
def qaX (N:Nat):qO:=smL qa_ [(.sl 4 qu),(.i .i64),(.sl 4 qu),(.i .i64),(.i .i64)] Qx (fun x=>Y9 N x.1 x.2.2.1 x.2.2.2.1 x.2.1 x.2.2.2.2.1) (csS cs1) fun x=>Zr (x.1,x.2.2.1,x.2.2.2.1)
theorem qhq (N:Nat):Zb Tryz.prog qau 62 (zi qfN 3) (qaX N):=vB fun x z h=>qjp N (x.1,x.2.2.1,x.2.2.2.1) N (x.2.1,x.2.2.2.2.1) z h
def qnV (z:Bool):TV×THp:=(xb z,[])
def qal (N:Nat) (a0:List qb):Tree (Bool):=
 .bind (Y9 N a0 a0 ((a0.length:Nat):Int) 0 0) fun z1=>
 .sum z1 (fun z2=>
 .ret false) fun z2=>
 .cond (decide (((a0.length:Nat):Int)≤((60:Int)))) (
 .ret (decide (z2.1≤200))) <|
 .ret false
def Xn (N:Nat) (a0:List qb):Option (Bool):=(qal N a0).run some
def qol (N:Nat):List (Nat×qO):=[(3,qaX N)]
def Wu (N:Nat):Ent:=smF ⟨62,[],[.x (.sl 4 qu)],[],[]⟩ [(.sl 4 qu)] (Bool) (fun x=>Xn N x.1) cs1 fun _=>qnV
theorem Kb (N:Nat):zl Tryz.prog (Wu N):=
 zq (H:=qau) (L:=q0 (qol N)) (ts:=[(.sl 4 qu)]) (T:=fun x=>qal N x.1) 0 qt5 (qcJ N) (qH (by kernel_rfl) ⟨qhq N,trivial⟩) (rg0 (by kernel_rfl)) fun x=>by kernel_rfl
noncomputable def qum:Code:=Tryz.f19.body.getD .skip
theorem quS:FnF Tryz.prog 19 Tryz.f19 qum:=⟨qz,by kernel_rfl,by kernel_rfl,by kernel_rfl⟩
def qtr:TH:={ live:=[(0,[1]),(1,[1,23]),(2,[2]),(3,[2])],dec:=[6,11,18,27,32,37,43] }
def qtp (N:Nat):List Ent:=[qjA,qdA N,Ww,qfo,Wu N]
theorem qqr (N:Nat):q8 Tryz.prog (qtp N):=⟨qqQ,qg3 N,Kf,ql_,Kb N,trivial⟩
def qtt (z:Bool):TV×THp:=(xb z,[])
def qgq (N:Nat) (a0:qa):Tree (Bool):=
 .cond (decide ((qa.Kind a0) < ((0:Int)))) (
 .ret false) <|
 .cond (decide (((4:Int))≤(qa.Kind a0))) (
 .ret false) <|
 .bind (qeV a0) fun r1=>
 .bind (YA N a0 r1) fun r2=>
 .cond (!r2) (
 .ret false) <|
 .cond (eqE zF (qa.S a0) (qi.mk 0 0)) (
 .ret false) <|
 .bind (JK (qa.S a0)) fun r3=>
 .cond r3 (
 .bind (WQ (qa.No a0)) fun r4=>
 .cond r4 (
 .bind (WQ (qa.je a0)) fun r5=>
 .cond r5 (
 .cond (decide ((((qa.V a0).length:Nat):Int)≤((200:Int)))) (
 .bind (Xn N (qa.P a0)) fun r6=>
 .ret r6) <|
 .ret false) <|
 .ret false) <|
 .ret false) <|
 .ret false
def QX (N:Nat) (a0:qa):Option (Bool):=(qgq N a0).run some
def qsX (N:Nat):List (Nat×qO):=[]
def qbJ (N:Nat):Ent:=smF ⟨19,[],[.x q6],[],[]⟩ [q6] (Bool) (fun x=>QX N x.1) cs1 fun _=>qtt
theorem qc7 (N:Nat):zl Tryz.prog (qbJ N):=
 zq (H:=qtr) (L:=q0 (qsX N)) (ts:=[q6]) (T:=fun x=>qgq N x.1) 0 quS (qqr N) (qH (by kernel_rfl) trivial) (rg0 (by kernel_rfl)) fun x=>by kernel_rfl
noncomputable def qdF:Code:=Tryz.f116.body.getD .skip
theorem qr5:FnF Tryz.prog 116 Tryz.f116 qdF:=⟨qz,by kernel_rfl,by kernel_rfl,by kernel_rfl⟩
def Ya:TH:={ live:=[(0,[0]),(1,[0,3]),(2,[0,3]),(3,[0,3,7]),(4,[0,3]),(5,[0,3]),(6,[2])] }
def qcx (N:Nat):List Ent:=[]
theorem KD (N:Nat):q8 Tryz.prog (qcx N):=trivial
abbrev ZV:=Unit
abbrev vL:=Int×Int×Bool
def QB (f:ZV) (y:vL):Ex×TSt:=(.exit 0,⟨0,13,[],[(0,.tv (.i .u64) (y.1:Int)),(3,xi y.2.1),(7,xb y.2.2)],[],false,[]⟩)
def qgV (N:Nat):List (Nat×qO):=[]
abbrev QD:=Int×Int
def Ka:SP:=⟨0,13,[],[(0,.x (.i .u64)),(3,.x (.i .i64))],[],false,[]⟩
def qgB (f:ZV) (v:QD):TSt:=vp Ka [dv (.i .u64) v.1,dv (.i .i64) v.2]
def Z0 (N:Nat) (v:QD):Tree (QD⊕vL):=
 .cond (decide (((0:Int)) < v.1)) (
 .chk (qx (v.2 + 1)) <|
 .chk (0≤(7:Int)) <|
 .ret (.inl (Qd v.1 7,v.2 + 1))) <|
 .ret (.inr (v.1,v.2,decide (((0:Int)) < v.1)))
def Ke (N n:Nat) (f:ZV) (v:QD):Option vL:=zG (Z0 N) some n v
theorem qgI (N:Nat) (f:ZV) (n:Nat) (v:QD) (y:vL) (h:Ke N n f v=some y):LG Tryz.prog Ya 116 (zi qdF 3) (qgB f v) (QB f y):=
 jQ qz (E:=qcx N) (L:=q0 (qgV N)) (st:=QB f) (g:=some) (R:=QB f) (KD N) (qH (by kernel_rfl) trivial) (rg0 (by kernel_rfl)) (fun v=>by kernel_rfl) (zC (st:=QB f) fun y=>by rfl) n v y h
def We (N:Nat) (s0_3:Int) (s3_3:Int):Option vL:=Ke N N () (s0_3,s3_3)
def YX (N:Nat):qO:=smL Ka [(.i .u64),(.i .i64)] vL (fun x=>We N x.1 x.2.1) cs1 fun x=>QB ()
theorem qe9 (N:Nat):Zb Tryz.prog Ya 116 (zi qdF 3) (YX N):=vB fun x z h=>qgI N () N (x.1,x.2.1) z h
def qkN (z:Int):TV×THp:=(xi z,[])
def Yf (N:Nat) (a0:Int):Tree (Int):=
 .chk (0≤(7:Int)) <|
 .bind (We N (Qd a0 7) 1) fun z1=>
 .ret z1.2.1
def VF (N:Nat) (a0:Int):Option (Int):=(Yf N a0).run some
def qkt (N:Nat):List (Nat×qO):=[(3,YX N)]
def W5 (N:Nat):Ent:=smF ⟨116,[],[.x (.i .u64)],[],[]⟩ [(.i .u64)] (Int) (fun x=>VF N x.1) cs1 fun _=>qkN
theorem qa6 (N:Nat):zl Tryz.prog (W5 N):=
 zq (H:=Ya) (L:=q0 (qkt N)) (ts:=[(.i .u64)]) (T:=fun x=>Yf N x.1) 0 qr5 (KD N) (qH (by kernel_rfl) ⟨qe9 N,trivial⟩) (rg0 (by kernel_rfl)) fun x=>by kernel_rfl
noncomputable def YS:Code:=Tryz.f84.body.getD .skip
theorem qmf:FnF Tryz.prog 84 Tryz.f84 YS:=⟨qz,by kernel_rfl,by kernel_rfl,by kernel_rfl⟩
def qbK:TH:={ live:=[(0,[0]),(1,[0,3]),(2,[0,3,4]),(3,[0,3,4,10,11]),(4,[0,3,4,10,11,12]),(5,[0,3,4,5,10,11]),(6,[0,3,4,10,11]),(7,[0,3,4,10,11]),(8,[4]),(9,[2])],esc:=true }
def qix (N:Nat):List Ent:=[W5 N]
theorem qc3 (N:Nat):q8 Tryz.prog (qix N):=⟨qa6 N,trivial⟩
abbrev VO:=Int×Int×Nat×Int
abbrev QQ:=List UInt8×Int×Bool
def Z8 (f:VO) (y:QQ):Ex×TSt:=(.exit 0,⟨1,35,[],[(0,.tv (.i .u64) f.1),(3,xi f.2.1),(4,.v 100090 f.2.2.1),(10,xi f.2.2.2),(11,xi y.2.1),(12,xb y.2.2)],[(100090,.vec false 1 .bl (y.1:List UInt8))],false,[]⟩)
def qkM (N:Nat):List (Nat×qO):=[]
abbrev Jf:=List UInt8×Int
def qcv:SP:=⟨1,35,[],[(0,.x (.i .u64)),(3,.x (.i .i64)),(4,.v 100090),(10,.x (.i .i64)),(11,.x (.i .i64))],[(100090,.vec false 1)],false,[]⟩
def qk4 (f:VO) (v:Jf):TSt:=vp qcv [dv .bl v.1,dv (.i .u64) f.1,dv (.i .i64) f.2.1,dv .nat f.2.2.1,dv (.i .i64) f.2.2.2,dv (.i .i64) v.2]
def VT (N:Nat) (s0_4:Int) (s3_4:Int) (s4_4:Nat) (s10_4:Int) (v:Jf):Tree (Jf⊕QQ):=
 .cond (decide (v.2 < s10_4)) (
 .chk (qx (s3_4 - 1)) <|
 .chk (qx ((s3_4 - 1) - v.2)) <|
 .chk (qx (((7:Int)) * v.2)) <|
 .chk (0≤(((7:Int)) * v.2)) <|
 let w1:Int:=Qd s0_4 (min (((7:Int)) * v.2).toNat 64)
 .chk (0≤((s3_4 - 1) - v.2)∧((s3_4 - 1) - v.2) < ((s4_4:Nat):Int)) <|
 .chk (X0 v.1.length s4_4 (((s3_4 - 1) - v.2).toNat)) <|
 .chk (inB (uOr .u8 (IntKind.u8.wrap w1) 128)) <|
 .chk (qx (v.2 + 1)) <|
 .ret (.inl (v.1.set (((s3_4 - 1) - v.2).toNat) (UInt8.ofNat (uOr .u8 (IntKind.u8.wrap w1) 128).toNat),v.2 + 1))) <|
 .ret (.inr (v.1,v.2,decide (v.2 < s10_4)))
def qcF (N n:Nat) (f:VO) (v:Jf):Option QQ:=zG (VT N f.1 f.2.1 f.2.2.1 f.2.2.2) some n v
theorem qkT (N:Nat) (f:VO) (n:Nat) (v:Jf) (y:QQ) (h:qcF N n f v=some y):LG Tryz.prog qbK 84 (zi YS 4) (qk4 f v) (Z8 f y):=
 jQ qz (E:=qix N) (L:=q0 (qkM N)) (st:=Z8 f) (g:=some) (R:=Z8 f) (qc3 N) (qH (by kernel_rfl) trivial) (rg0 (by kernel_rfl)) (fun v=>by kernel_rfl) (zC (st:=Z8 f) fun y=>by rfl) n v y h
def WD (N:Nat) (s0_4:Int) (s3_4:Int) (s4_4:Nat) (s10_4:Int) (o_4:List UInt8) (s11_4:Int):Option QQ:=qcF N N (s0_4,s3_4,s4_4,s10_4) (o_4,s11_4)
def qcI (N:Nat):qO:=smL qcv [.bl,(.i .u64),(.i .i64),.nat,(.i .i64),(.i .i64)] QQ (fun x=>WD N x.2.1 x.2.2.1 x.2.2.2.1 x.2.2.2.2.1 x.1 x.2.2.2.2.2.1) cs1 fun x=>Z8 (x.2.1,x.2.2.1,x.2.2.2.1,x.2.2.2.2.1)
theorem qjl (N:Nat):Zb Tryz.prog qbK 84 (zi YS 4) (qcI N):=vB fun x z h=>qkT N (x.2.1,x.2.2.1,x.2.2.2.1,x.2.2.2.2.1) N (x.1,x.2.2.2.2.2.1) z h
def qq3 (z:List UInt8×Nat):TV×THp:=(.v 100090 z.2,[(100090,.vec false 1 .bl (z.1:List UInt8))])
def qbA (N:Nat) (a0:Int):Tree (List UInt8×Nat):=
 .bind (VF N a0) fun r1=>
 .chk (Kp r1 r1 1) <|
 .bind (WD N a0 r1 (((List.replicate r1.toNat 0:List UInt8)).length) r1 ((List.replicate r1.toNat 0:List UInt8)) 0) fun z2=>
 .chk (qx (r1 - 1)) <|
 .chk (0≤(r1 - 1)∧(r1 - 1) < ((((List.replicate r1.toNat 0:List UInt8)).length:Nat):Int)) <|
 .bind (Kr z2.1 (((List.replicate r1.toNat 0:List UInt8)).length) ((r1 - 1).toNat)) fun e3=>
 let w4:Int:=jx .u8 ((e3.toNat:Nat):Int) 128
 .chk (0≤(r1 - 1)∧(r1 - 1) < ((((List.replicate r1.toNat 0:List UInt8)).length:Nat):Int)) <|
 .chk (X0 z2.1.length (((List.replicate r1.toNat 0:List UInt8)).length) ((r1 - 1).toNat)) <|
 .chk (inB w4) <|
 .ret (z2.1.set ((r1 - 1).toNat) (UInt8.ofNat w4.toNat),((List.replicate r1.toNat 0:List UInt8)).length)
def J1 (N:Nat) (a0:Int):Option (List UInt8×Nat):=(qbA N a0).run some
def qpT (N:Nat):List (Nat×qO):=[(4,qcI N)]
def qb4 (N:Nat):Ent:=smF ⟨84,[],[.x (.i .u64)],[],[]⟩ [(.i .u64)] (List UInt8×Nat) (fun x=>J1 N x.1) cs1 fun _=>qq3
theorem qfs (N:Nat):zl Tryz.prog (qb4 N):=
 zq (H:=qbK) (L:=q0 (qpT N)) (ts:=[(.i .u64)]) (T:=fun x=>qbA N x.1) 0 qmf (qc3 N) (qH (by kernel_rfl) ⟨qjl N,trivial⟩) (rg0 (by kernel_rfl)) fun x=>by kernel_rfl
noncomputable def qt6:Code:=Tryz.f33.body.getD .skip
theorem quP:FnF Tryz.prog 33 Tryz.f33 qt6:=⟨qz,by kernel_rfl,by kernel_rfl,by kernel_rfl⟩
def qn3:TH:={ live:=[(0,[1]),(1,[1,6]),(2,[2,3]),(3,[2,3])],fresh:=[15] }
def qoO (N:Nat):List Ent:=[Ww,qb4 N]
theorem qkS (N:Nat):q8 Tryz.prog (qoO N):=⟨Kf,qfs N,trivial⟩
def qoP (z:List UInt8×Bool):TV×THp:=(.tup [.tv .bl (z.1:List UInt8),xb z.2],[])
def qaH (N:Nat) (a0:qi):Tree (List UInt8×Bool):=
 .bind (JK a0) fun r1=>
 .cond (!r1) (
 .ret ([],false)) <|
 .chk (0≤(3:Int)) <|
 let w2:Int:=Jq .u64 (IntKind.u64.wrap (qi.N a0)) 3
 let w3:Int:=uOr .u64 w2 (IntKind.u64.wrap (qi.Rep a0))
 .bind (J1 N w3) fun r4=>
 .chk (r4.1.length=r4.2) <|
 .ret (r4.1,true)
def WU (N:Nat) (a0:qi):Option (List UInt8×Bool):=(qaH N a0).run some
def qoI (N:Nat):List (Nat×qO):=[]
def qfp (N:Nat):Ent:=smF ⟨33,[],[.x zF],[],[]⟩ [zF] (List UInt8×Bool) (fun x=>WU N x.1) cs1 fun _=>qoP
theorem qlx (N:Nat):zl Tryz.prog (qfp N):=
 zq (H:=qn3) (L:=q0 (qoI N)) (ts:=[zF]) (T:=fun x=>qaH N x.1) 0 quP (qkS N) (qH (by kernel_rfl) trivial) (rg0 (by kernel_rfl)) fun x=>by kernel_rfl
noncomputable def qtg:Code:=Tryz.f85.body.getD .skip
theorem qtK:FnF Tryz.prog 85 Tryz.f85 qtg:=⟨qz,by kernel_rfl,by kernel_rfl,by kernel_rfl⟩
def qdw:TH:={ live:=[(0,[0,1]),(1,[0,1,6]),(2,[0,1]),(3,[0,1]),(4,[0,1,16]),(5,[0]),(6,[4])],esc:=true,nil:=[(5,[⟨.sl 0,900000850,.bl⟩])] }
def qdY (N:Nat):List Ent:=[]
theorem qbx (N:Nat):q8 Tryz.prog (qdY N):=trivial
def qeu:Unit⊕Unit→TV×THp
 | .inl z=>(.v 900000850 0,[(900000850,.vec false 1 .bl ([]:List UInt8))])
 | .inr z=>(.nils,[])
def JT (a0:Int):Tree (Unit⊕Unit):=
 .cond (decide (a0 < ((0:Int)))) (
 .no) <|
 .chk (qx a0) <|
 .cond (decide (((0:Int)) < a0)) (
 .chk (0 < a0∧a0.toNat * 1≤qN) <|
 .ret (.inl ())) <|
 .ret (.inr ())
def ZY (a0:Int):Option (Unit⊕Unit):=(JT a0).run some
def qc1:List (Nat×qO):=[]
def WK:Ent:=smF ⟨85,[],[.k .nils,.x (.i .i64)],[],[]⟩ [(.i .i64)] (Unit⊕Unit) (fun x=>ZY x.1) (csS cs1) fun _=>qeu
theorem qcX:zl Tryz.prog (WK):=
 zq (H:=qdw) (L:=q0 (qc1)) (ts:=[(.i .i64)]) (T:=fun x=>JT x.1) 0 qtK (qbx 0) (qH (by kernel_rfl) trivial) (rg0 (by kernel_rfl)) fun x=>by kernel_rfl
noncomputable def Kj:Code:=Tryz.f34.body.getD .skip
theorem qs6:FnF Tryz.prog 34 Tryz.f34 Kj:=⟨qz,by kernel_rfl,by kernel_rfl,by kernel_rfl⟩
def j9:TH:={ live:=[(0,[0]),(1,[0,3]),(2,[0,3,9,10,11]),(3,[0,3,9,10,11,12]),(4,[0,3,5,9,10,11]),(5,[0,3,9,10,11]),(6,[0,3,9,10,11,20]),(7,[0,3,9,10,11]),(8,[0,3,9,10,11]),(9,[0,6]),(10,[6,25,26,27]),(11,[6,25,26,27,28]),(12,[6,8,25,26,27]),(13,[6,25,26,27]),(14,[6,25,26,27]),(15,[2])],raw:=[85],fresh:=[24],nil:=[(9,[⟨.sl 6,900000850,.bl⟩])] }
def ZX (N:Nat):List Ent:=[WK]
theorem Zd (N:Nat):q8 Tryz.prog (ZX N):=⟨qcX,trivial⟩
abbrev vz:=List (List UInt8)×List (List UInt8)×Int
abbrev zS:=Int×Int×Bool
def ju (f:vz) (y:zS):Ex×TSt:=(.exit 0,⟨0,36,[],[(0,.tv (.sl 1 .bl) f.1),(3,xi y.1),(9,.tv (.sl 1 .bl) f.2.1),(10,xi f.2.2),(11,xi y.2.1),(12,xb y.2.2)],[],false,[]⟩)
def Kw (N:Nat):List (Nat×qO):=[]
abbrev jr:=Int×Int
def Vu:SP:=⟨0,36,[],[(0,.x (.sl 1 .bl)),(3,.x (.i .i64)),(9,.x (.sl 1 .bl)),(10,.x (.i .i64)),(11,.x (.i .i64))],[],false,[]⟩
def Kz (f:vz) (v:jr):TSt:=vp Vu [dv (.sl 1 .bl) f.1,dv (.i .i64) v.1,dv (.sl 1 .bl) f.2.1,dv (.i .i64) f.2.2,dv (.i .i64) v.2]
def vA (N:Nat) (s0_3:List (List UInt8)) (s9_3:List (List UInt8)) (s10_3:Int) (v:jr):Tree (jr⊕zS):=
 .cond (decide (v.2 < s10_3)) (
 .bind (zu s9_3 v.2) fun e1=>
 .chk (qx (v.1 + ((e1.length:Nat):Int))) <|
 .cond (decide ((v.1 + ((e1.length:Nat):Int)) < 0)) (
 .no) <|
 .chk (qx (v.2 + 1)) <|
 .ret (.inl (v.1 + ((e1.length:Nat):Int),v.2 + 1))) <|
 .ret (.inr (v.1,v.2,decide (v.2 < s10_3)))
def Vs (N n:Nat) (f:vz) (v:jr):Option zS:=zG (vA N f.1 f.2.1 f.2.2) some n v
theorem Kv (N:Nat) (f:vz) (n:Nat) (v:jr) (y:zS) (h:Vs N n f v=some y):LG Tryz.prog j9 34 (zi Kj 3) (Kz f v) (ju f y):=
 jQ qz (E:=ZX N) (L:=q0 (Kw N)) (st:=ju f) (g:=some) (R:=ju f) (Zd N) (qH (by kernel_rfl) trivial) (rg0 (by kernel_rfl)) (fun v=>by kernel_rfl) (zC (st:=ju f) fun y=>by rfl) n v y h
def Zy (N:Nat) (s0_3:List (List UInt8)) (s9_3:List (List UInt8)) (s10_3:Int) (s3_3:Int) (s11_3:Int):Option zS:=Vs N N (s0_3,s9_3,s10_3) (s3_3,s11_3)
def Vt (N:Nat):qO:=smL Vu [(.sl 1 .bl),(.i .i64),(.sl 1 .bl),(.i .i64),(.i .i64)] zS (fun x=>Zy N x.1 x.2.2.1 x.2.2.2.1 x.2.1 x.2.2.2.2.1) cs1 fun x=>ju (x.1,x.2.2.1,x.2.2.2.1)
theorem Y0 (N:Nat):Zb Tryz.prog j9 34 (zi Kj 3) (Vt N):=vB fun x z h=>Kv N (x.1,x.2.2.1,x.2.2.2.1) N (x.2.1,x.2.2.2.2.1) z h
abbrev vb:=List (List UInt8)×Int
abbrev zH:=List UInt8×Int×Bool
def ji (f:vb) (y:zH):Ex×TSt:=(.exit 2,⟨0,36,[],[(6,.v 900000850 y.1.length),(25,.tv (.sl 1 .bl) f.1),(26,xi f.2),(27,xi y.2.1),(28,xb y.2.2)],[(900000850,.vec false 1 .bl (y.1:List UInt8))],false,[]⟩)
def Kl (N:Nat):List (Nat×qO):=[]
abbrev jh:=List UInt8×Int
def JU:SP:=⟨0,36,[],[(6,.vs 900000850),(25,.x (.sl 1 .bl)),(26,.x (.i .i64)),(27,.x (.i .i64))],[(900000850,.vec false 1)],false,[]⟩
def Kd (f:vb) (v:jh):TSt:=vp JU [dv .bl v.1,dv (.sl 1 .bl) f.1,dv (.i .i64) f.2,dv (.i .i64) v.2]
def j4 (N:Nat) (s25_11:List (List UInt8)) (s26_11:Int) (v:jh):Tree (jh⊕zH):=
 .cond (decide (v.2 < s26_11)) (
 .bind (zu s25_11 v.2) fun e1=>
 .chk (W4 v.1.length v.1.length ((v.1++e1).length) 1) <|
 .chk (qx (v.2 + 1)) <|
 .ret (.inl (v.1++e1,v.2 + 1))) <|
 .ret (.inr (v.1,v.2,decide (v.2 < s26_11)))
def J5 (N n:Nat) (f:vb) (v:jh):Option zH:=zG (j4 N f.1 f.2) some n v
theorem YP (N:Nat) (f:vb) (n:Nat) (v:jh) (y:zH) (h:J5 N n f v=some y):LG Tryz.prog j9 34 (zi Kj 11) (Kd f v) (ji f y):=
 jQ qz (E:=ZX N) (L:=q0 (Kl N)) (st:=ji f) (g:=some) (R:=ji f) (Zd N) (qH (by kernel_rfl) trivial) (rg0 (by kernel_rfl)) (fun v=>by kernel_rfl) (zC (st:=ji f) fun y=>by rfl) n v y h
def jC (N:Nat) (s25_11:List (List UInt8)) (s26_11:Int) (o_11:List UInt8) (s27_11:Int):Option zH:=J5 N N (s25_11,s26_11) (o_11,s27_11)
def JO (N:Nat):qO:=smL JU [.bl,(.sl 1 .bl),(.i .i64),(.i .i64)] zH (fun x=>jC N x.2.1 x.2.2.1 x.1 x.2.2.2.1) cs1 fun x=>ji (x.2.1,x.2.2.1)
theorem Yv (N:Nat):Zb Tryz.prog j9 34 (zi Kj 11) (JO N):=vB fun x z h=>YP N (x.2.1,x.2.2.1) N (x.1,x.2.2.2.1) z h
def qbW (z:List UInt8):TV×THp:=(.tv .bl z,[])
def ZM (N:Nat) (a0:List (List UInt8)):Tree (List UInt8):=
 .bind (Zy N a0 a0 ((a0.length:Nat):Int) 0 0) fun z1=>
 .bind (ZY z1.1) fun r2=>
 .sum r2 (fun r3=>
 .bind (QW [(([]:List UInt8).length,0)] (jC N a0 ((a0.length:Nat):Int) [] 0)) fun z4=>
 .chk (z4.1.length=z4.1.length) <|
 .ret z4.1) fun r3=>
 .bind (QW [(([]:List UInt8).length,0)] (jC N a0 ((a0.length:Nat):Int) [] 0)) fun z4=>
 .chk (z4.1.length=z4.1.length) <|
 .ret z4.1
def zg (N:Nat) (a0:List (List UInt8)):Option (List UInt8):=(ZM N a0).run some
def qbO (N:Nat):List (Nat×qO):=[(3,Vt N),(11,JO N)]
def ZQ (N:Nat):Ent:=smF ⟨34,[],[.x (.sl 1 .bl)],[],[]⟩ [(.sl 1 .bl)] (List UInt8) (fun x=>zg N x.1) cs1 fun _=>qbW
theorem Xi (N:Nat):zl Tryz.prog (ZQ N):=
 zq (H:=j9) (L:=q0 (qbO N)) (ts:=[(.sl 1 .bl)]) (T:=fun x=>ZM N x.1) 0 qs6 (Zd N) (qH (by kernel_rfl) ⟨Y0 N,Yv N,trivial⟩) (rg0 (by kernel_rfl)) fun x=>by kernel_rfl
noncomputable def qs0:Code:=Tryz.f35.body.getD .skip
theorem qun:FnF Tryz.prog 35 Tryz.f35 qs0:=⟨qz,by kernel_rfl,by kernel_rfl,by kernel_rfl⟩
def qop:TH:={ live:=[(0,[0]),(1,[2])],fresh:=[6] }
def qnK (N:Nat):List Ent:=[qb4 N]
theorem qlf (N:Nat):q8 Tryz.prog (qnK N):=⟨qfs N,trivial⟩
def qom (z:List UInt8):TV×THp:=(.tv .bl z,[])
def qay (N:Nat) (a0:List UInt8):Tree (List UInt8):=
 let w1:Int:=IntKind.u64.wrap ((a0.length:Nat):Int)
 .bind (J1 N w1) fun r2=>
 .chk (W4 r2.1.length r2.2 ((r2.1++a0).length) 1) <|
 .chk ((r2.1++a0).length=(r2.1++a0).length) <|
 .ret (r2.1++a0)
def WT (N:Nat) (a0:List UInt8):Option (List UInt8):=(qay N a0).run some
def qnP (N:Nat):List (Nat×qO):=[]
def qaa (N:Nat):Ent:=smF ⟨35,[],[.x .s],[],[]⟩ [.s] (List UInt8) (fun x=>WT N x.1) cs1 fun _=>qom
theorem qen (N:Nat):zl Tryz.prog (qaa N):=
 zq (H:=qop) (L:=q0 (qnP N)) (ts:=[.s]) (T:=fun x=>qay N x.1) 0 qun (qlf N) (qH (by kernel_rfl) trivial) (rg0 (by kernel_rfl)) fun x=>by kernel_rfl
def Y6:TH:={ live:=[(0,[0]),(1,[0,3]),(2,[0,3,4]),(3,[0,3,4,10,11]),(4,[0,3,4,10,11,12]),(5,[0,3,4,5,10,11]),(6,[0,3,4,10,11]),(7,[0,3,4,10,11]),(8,[4]),(9,[2])] }
def qdR (N:Nat):List Ent:=[W5 N]
theorem qaM (N:Nat):q8 Tryz.prog (qdR N):=⟨qa6 N,trivial⟩
abbrev Jv:=Int×Int×Nat×Int
abbrev v7:=List UInt8×Int×Bool
def QT (f:Jv) (y:v7):Ex×TSt:=(.exit 0,⟨0,35,[],[(0,.tv (.i .u64) f.1),(3,xi f.2.1),(4,.v 90 f.2.2.1),(10,xi f.2.2.2),(11,xi y.2.1),(12,xb y.2.2)],[(90,.vec false 1 .bl (y.1:List UInt8))],false,[]⟩)
def qhN (N:Nat):List (Nat×qO):=[]
abbrev Q1:=List UInt8×Int
def KT:SP:=⟨0,35,[],[(0,.x (.i .u64)),(3,.x (.i .i64)),(4,.v 90),(10,.x (.i .i64)),(11,.x (.i .i64))],[(90,.vec false 1)],false,[]⟩
def qh0 (f:Jv) (v:Q1):TSt:=vp KT [dv .bl v.1,dv (.i .u64) f.1,dv (.i .i64) f.2.1,dv .nat f.2.2.1,dv (.i .i64) f.2.2.2,dv (.i .i64) v.2]
def qhU (N:Nat) (s0_4:Int) (s3_4:Int) (s4_4:Nat) (s10_4:Int) (v:Q1):Tree (Q1⊕v7):=
 .cond (decide (v.2 < s10_4)) (
 .chk (qx (s3_4 - 1)) <|
 .chk (qx ((s3_4 - 1) - v.2)) <|
 .chk (qx (((7:Int)) * v.2)) <|
 .chk (0≤(((7:Int)) * v.2)) <|
 let w1:Int:=Qd s0_4 (min (((7:Int)) * v.2).toNat 64)
 .chk (0≤((s3_4 - 1) - v.2)∧((s3_4 - 1) - v.2) < ((s4_4:Nat):Int)) <|
 .chk (X0 v.1.length s4_4 (((s3_4 - 1) - v.2).toNat)) <|
 .chk (inB (uOr .u8 (IntKind.u8.wrap w1) 128)) <|
 .chk (qx (v.2 + 1)) <|
 .ret (.inl (v.1.set (((s3_4 - 1) - v.2).toNat) (UInt8.ofNat (uOr .u8 (IntKind.u8.wrap w1) 128).toNat),v.2 + 1))) <|
 .ret (.inr (v.1,v.2,decide (v.2 < s10_4)))
def KM (N n:Nat) (f:Jv) (v:Q1):Option v7:=zG (qhU N f.1 f.2.1 f.2.2.1 f.2.2.2) some n v
theorem qgX (N:Nat) (f:Jv) (n:Nat) (v:Q1) (y:v7) (h:KM N n f v=some y):LG Tryz.prog Y6 84 (zi YS 4) (qh0 f v) (QT f y):=
 jQ qz (E:=qdR N) (L:=q0 (qhN N)) (st:=QT f) (g:=some) (R:=QT f) (qaM N) (qH (by kernel_rfl) trivial) (rg0 (by kernel_rfl)) (fun v=>by kernel_rfl) (zC (st:=QT f) fun y=>by rfl) n v y h
def Yg (N:Nat) (s0_4:Int) (s3_4:Int) (s4_4:Nat) (s10_4:Int) (o_4:List UInt8) (s11_4:Int):Option v7:=KM N N (s0_4,s3_4,s4_4,s10_4) (o_4,s11_4)
def K5 (N:Nat):qO:=smL KT [.bl,(.i .u64),(.i .i64),.nat,(.i .i64),(.i .i64)] v7 (fun x=>Yg N x.2.1 x.2.2.1 x.2.2.2.1 x.2.2.2.2.1 x.1 x.2.2.2.2.2.1) cs1 fun x=>QT (x.2.1,x.2.2.1,x.2.2.2.1,x.2.2.2.2.1)
theorem qgk (N:Nat):Zb Tryz.prog Y6 84 (zi YS 4) (K5 N):=vB fun x z h=>qgX N (x.2.1,x.2.2.1,x.2.2.2.1,x.2.2.2.2.1) N (x.1,x.2.2.2.2.2.1) z h
def qmU (z:List UInt8):TV×THp:=(.tv .bl z,[])
def YI (N:Nat) (a0:Int):Tree (List UInt8):=
 .bind (VF N a0) fun r1=>
 .chk (Kp r1 r1 1) <|
 .bind (Yg N a0 r1 (((List.replicate r1.toNat 0:List UInt8)).length) r1 ((List.replicate r1.toNat 0:List UInt8)) 0) fun z2=>
 .chk (qx (r1 - 1)) <|
 .chk (0≤(r1 - 1)∧(r1 - 1) < ((((List.replicate r1.toNat 0:List UInt8)).length:Nat):Int)) <|
 .bind (Kr z2.1 (((List.replicate r1.toNat 0:List UInt8)).length) ((r1 - 1).toNat)) fun e3=>
 let w4:Int:=jx .u8 ((e3.toNat:Nat):Int) 128
 .chk (0≤(r1 - 1)∧(r1 - 1) < ((((List.replicate r1.toNat 0:List UInt8)).length:Nat):Int)) <|
 .chk (X0 z2.1.length (((List.replicate r1.toNat 0:List UInt8)).length) ((r1 - 1).toNat)) <|
 .chk (inB w4) <|
 .chk ((z2.1.set ((r1 - 1).toNat) (UInt8.ofNat w4.toNat)).length=((List.replicate r1.toNat 0:List UInt8)).length) <|
 .ret (z2.1.set ((r1 - 1).toNat) (UInt8.ofNat w4.toNat))
def Qp (N:Nat) (a0:Int):Option (List UInt8):=(YI N a0).run some
def qlX (N:Nat):List (Nat×qO):=[(4,K5 N)]
def qdB (N:Nat):Ent:=smF ⟨84,[],[.x (.i .u64)],[],[]⟩ [(.i .u64)] (List UInt8) (fun x=>Qp N x.1) cs1 fun _=>qmU
theorem qkF (N:Nat):zl Tryz.prog (qdB N):=
 zq (H:=Y6) (L:=q0 (qlX N)) (ts:=[(.i .u64)]) (T:=fun x=>YI N x.1) 0 qmf (qaM N) (qH (by kernel_rfl) ⟨qgk N,trivial⟩) (rg0 (by kernel_rfl)) fun x=>by kernel_rfl
noncomputable def qgW:Code:=Tryz.f36.body.getD .skip
theorem quG:FnF Tryz.prog 36 Tryz.f36 qgW:=⟨qz,by kernel_rfl,by kernel_rfl,by kernel_rfl⟩
def K8:TH:={ live:=[(0,[0]),(1,[0,9]),(2,[2,3]),(3,[0,4]),(4,[4,14,15,16]),(5,[4,14,15,16,17]),(6,[4,6,14,15,16]),(7,[4,6,14,15,16,21]),(8,[4,14,15,16]),(9,[4,14,15,16]),(10,[4,14,15,16]),(11,[2,3])] }
def qfr (N:Nat):List Ent:=[Wu N,qdB N,ZQ N,qaa N]
theorem qcy (N:Nat):q8 Tryz.prog (qfr N):=⟨Kb N,qkF N,Xi N,qen N,trivial⟩
abbrev Vh:=List qb×Int
abbrev Qy:=List UInt8×Int×Bool
def Zj (f:Vh) (y:Qy):Ex×TSt:=(.exit 0,⟨0,43,[],[(4,.tv .bl (y.1:List UInt8)),(14,.tv (.sl 4 qu) f.1),(15,xi f.2),(16,xi y.2.1),(17,xb y.2.2)],[],false,[]⟩)
def qi4 (N:Nat):List (Nat×qO):=[]
abbrev Zk:=List UInt8×Int
def qbk:SP:=⟨0,43,[],[(4,.x .bl),(14,.x (.sl 4 qu)),(15,.x (.i .i64)),(16,.x (.i .i64))],[],false,[]⟩
def qiE (f:Vh) (v:Zk):TSt:=vp qbk [dv .bl v.1,dv (.sl 4 qu) f.1,dv (.i .i64) f.2,dv (.i .i64) v.2]
def ZD (N:Nat) (s14_5:List qb) (s15_5:Int) (v:Zk):Tree (Zk⊕Qy):=
 .cond (decide (v.2 < s15_5)) (
 .bind (zu s14_5 v.2) fun e1=>
 .cond (qb.JV e1) (
 .bind (Qp N (IntKind.u64.wrap (qb.jK e1))) fun r2=>
 .bind (Qp N (IntKind.u64.wrap (qb.Len e1))) fun r3=>
 .bind (zg N [v.1,[(UInt8.ofNat 1)],r2,r3]) fun r4=>
 .chk (qx (v.2 + 1)) <|
 .ret (.inl (r4,v.2 + 1))) <|
 .bind (WT N (qb.Lit e1)) fun r2=>
 .bind (zg N [v.1,[(UInt8.ofNat 0)],r2]) fun r3=>
 .chk (qx (v.2 + 1)) <|
 .ret (.inl (r3,v.2 + 1))) <|
 .ret (.inr (v.1,v.2,decide (v.2 < s15_5)))
def qa3 (N n:Nat) (f:Vh) (v:Zk):Option Qy:=zG (ZD N f.1 f.2) some n v
theorem qjj (N:Nat) (f:Vh) (n:Nat) (v:Zk) (y:Qy) (h:qa3 N n f v=some y):LG Tryz.prog K8 36 (zi qgW 5) (qiE f v) (Zj f y):=
 jQ qz (E:=qfr N) (L:=q0 (qi4 N)) (st:=Zj f) (g:=some) (R:=Zj f) (qcy N) (qH (by kernel_rfl) trivial) (rg0 (by kernel_rfl)) (fun v=>by kernel_rfl) (zC (st:=Zj f) fun y=>by rfl) n v y h
def Xo (N:Nat) (s14_5:List qb) (s15_5:Int) (s4_5:List UInt8) (s16_5:Int):Option Qy:=qa3 N N (s14_5,s15_5) (s4_5,s16_5)
def qbb (N:Nat):qO:=smL qbk [.bl,(.sl 4 qu),(.i .i64),(.i .i64)] Qy (fun x=>Xo N x.2.1 x.2.2.1 x.1 x.2.2.2.1) cs1 fun x=>Zj (x.2.1,x.2.2.1)
theorem qh4 (N:Nat):Zb Tryz.prog K8 36 (zi qgW 5) (qbb N):=vB fun x z h=>qjj N (x.2.1,x.2.2.1) N (x.1,x.2.2.2.1) z h
def qoh (z:List UInt8×Bool):TV×THp:=(.tup [.tv .bl (z.1:List UInt8),xb z.2],[])
def qaA (N:Nat) (a0:List qb):Tree (List UInt8×Bool):=
 .bind (Xn N a0) fun r1=>
 .cond (!r1) (
 .ret ([],false)) <|
 let w2:Int:=IntKind.u64.wrap ((a0.length:Nat):Int)
 .bind (Qp N w2) fun r3=>
 .bind (Xo N a0 ((a0.length:Nat):Int) r3 0) fun z4=>
 .ret (z4.1,true)
def WZ (N:Nat) (a0:List qb):Option (List UInt8×Bool):=(qaA N a0).run some
def qoA (N:Nat):List (Nat×qO):=[(5,qbb N)]
def qfK (N:Nat):Ent:=smF ⟨36,[],[.x (.sl 4 qu)],[],[]⟩ [(.sl 4 qu)] (List UInt8×Bool) (fun x=>WZ N x.1) cs1 fun _=>qoh
theorem qng (N:Nat):zl Tryz.prog (qfK N):=
 zq (H:=K8) (L:=q0 (qoA N)) (ts:=[(.sl 4 qu)]) (T:=fun x=>qaA N x.1) 0 quG (qcy N) (qH (by kernel_rfl) ⟨qh4 N,trivial⟩) (rg0 (by kernel_rfl)) fun x=>by kernel_rfl
noncomputable def qt3:Code:=Tryz.f13.body.getD .skip
theorem qsZ:FnF Tryz.prog 13 Tryz.f13 qt3:=⟨qz,by kernel_rfl,by kernel_rfl,by kernel_rfl⟩
def qtd:TH:={ live:=[(0,[1]),(1,[1,12]),(2,[2,3]),(3,[1,4]),(4,[1,6]),(5,[1,6,7]),(6,[1,6,7,32]),(7,[1,6,7,32,33]),(8,[6]),(9,[1,6,7,32,43]),(10,[6]),(11,[1,6,7,58]),(12,[1,6,7,8]),(13,[6]),(14,[2,3])],rd:=[(0,[1])] }
def qs2 (N:Nat):List Ent:=[qbJ N,qfp N,ZQ N,qaa N,qfK N]
theorem qq0 (N:Nat):q8 Tryz.prog (qs2 N):=⟨qc7 N,qlx N,Xi N,qen N,qng N,trivial⟩
def qtQ (z:List UInt8×Bool):TV×THp:=(.tup [.tv .bl (z.1:List UInt8),xb z.2],[])
def qgm (N:Nat) (a0:qa):Tree (List UInt8×Bool):=
 .bind (QX N a0) fun r1=>
 .cond (!r1) (
 .ret ([],false)) <|
 .bind (WU N (qa.S a0)) fun r2=>
 .chk (inB (IntKind.u8.wrap (qa.Kind a0))) <|
 .bind (zg N [[UInt8.ofNat (IntKind.u8.wrap (qa.Kind a0)).toNat],(qa.ID a0).toList,r2.1]) fun r3=>
 .cond (decide ((qa.Kind a0)=((1:Int)))) (
 .chk (inB (IntKind.u8.wrap (qa.No a0))) <|
 .bind (WT N (qa.V a0)) fun r4=>
 .bind (zg N [r3,[UInt8.ofNat (IntKind.u8.wrap (qa.No a0)).toNat],r4]) fun r5=>
 .ret (r5,true)) <|
 .cond (decide ((qa.Kind a0)=((2:Int)))) (
 .chk (inB (IntKind.u8.wrap (qa.No a0))) <|
 .chk (inB (IntKind.u8.wrap (qa.je a0))) <|
 .bind (zg N [r3,[UInt8.ofNat (IntKind.u8.wrap (qa.No a0)).toNat],(qa.jK a0).toList,[UInt8.ofNat (IntKind.u8.wrap (qa.je a0)).toNat],(qa.D a0).toList]) fun r4=>
 .ret (r4,true)) <|
 .cond (decide ((qa.Kind a0)=((3:Int)))) (
 .bind (WZ N (qa.P a0)) fun r4=>
 .chk (inB (IntKind.u8.wrap (qa.No a0))) <|
 .bind (zg N [r3,[UInt8.ofNat (IntKind.u8.wrap (qa.No a0)).toNat],r4.1,(qa.D a0).toList]) fun r5=>
 .ret (r5,true)) <|
 .ret (r3,true)
def XI (N:Nat) (a0:qa):Option (List UInt8×Bool):=(qgm N a0).run some
def quq (N:Nat):List (Nat×qO):=[]
def qfP (N:Nat):Ent:=smF ⟨13,[],[.x q6],[],[]⟩ [q6] (List UInt8×Bool) (fun x=>XI N x.1) cs1 fun _=>qtQ
theorem qjH (N:Nat):zl Tryz.prog (qfP N):=
 zq (H:=qtd) (L:=q0 (quq N)) (ts:=[q6]) (T:=fun x=>qgm N x.1) 0 qsZ (qq0 N) (qH (by kernel_rfl) trivial) (rg0 (by kernel_rfl)) fun x=>by kernel_rfl
noncomputable def qtx:Code:=Tryz.f21.body.getD .skip
theorem qtO:FnF Tryz.prog 21 Tryz.f21 qtx:=⟨qz,by kernel_rfl,by kernel_rfl,by kernel_rfl⟩
def qrD:TH:={ live:=[(0,[1]),(1,[3]),(2,[2])] }
def qsl (N:Nat):List Ent:=[qfP N]
theorem qoa (N:Nat):q8 Tryz.prog (qsl N):=⟨qjH N,trivial⟩
def qsK (z:Int):TV×THp:=(xi z,[])
def KY (N:Nat) (a0:qa):Tree (Int):=
 .bind (XI N a0) fun r1=>
 .ret ((r1.1.length:Nat):Int)
def YB (N:Nat) (a0:qa):Option (Int):=(KY N a0).run some
def qsf (N:Nat):List (Nat×qO):=[]
def qjV (N:Nat):Ent:=smF ⟨21,[],[.x q6],[],[]⟩ [q6] (Int) (fun x=>YB N x.1) cs1 fun _=>qsK
theorem qrb (N:Nat):zl Tryz.prog (qjV N):=
 zq (H:=qrD) (L:=q0 (qsf N)) (ts:=[q6]) (T:=fun x=>KY N x.1) 0 qtO (qoa N) (qH (by kernel_rfl) trivial) (rg0 (by kernel_rfl)) fun x=>by kernel_rfl
noncomputable def qt7:Code:=Tryz.f45.body.getD .skip
theorem quj:FnF Tryz.prog 45 Tryz.f45 qt7:=⟨qz,by kernel_rfl,by kernel_rfl,by kernel_rfl⟩
def qgK:TH:={ live:=[(0,[0,1,2]),(1,[0,1]),(2,[0,1,31]),(3,[6]),(4,[0,1,7]),(5,[7]),(6,[6])],dec:=[13,17] }
def qgu (N:Nat):List Ent:=[]
theorem qdq (N:Nat):q8 Tryz.prog (qgu N):=trivial
def qgF (z:qe×List UInt8):TV×THp:=(.tv .bl (z.2:List UInt8),[(180,.cell false (.tv zm (z.1:qe)))])
def V4 (a0:qe) (a1:Int) (a2:Bool):Tree (qe×List UInt8):=
 .cond (qe.bad a0) (
 .cond true (
 .chk (Kp a1 a1 1) <|
 .chk (((List.replicate a1.toNat 0:List UInt8)).length=((List.replicate a1.toNat 0:List UInt8)).length) <|
 .ret (qe.mk (qe.b a0) true,(List.replicate a1.toNat 0:List UInt8))) <|
 .chk (0≤(0:Int)∧(0:Int)≤a1∧a1≤(((qe.b a0).length:Nat):Int)) <|
 .chk (0≤a1∧a1≤(((qe.b a0).length:Nat):Int)) <|
 .ret (qe.mk ((qe.b a0).drop a1.toNat) true,((qe.b a0).take a1.toNat).drop 0)) <|
 .cond (!a2) (
 .cond true (
 .chk (Kp a1 a1 1) <|
 .chk (((List.replicate a1.toNat 0:List UInt8)).length=((List.replicate a1.toNat 0:List UInt8)).length) <|
 .ret (qe.mk (qe.b a0) true,(List.replicate a1.toNat 0:List UInt8))) <|
 .chk (0≤(0:Int)∧(0:Int)≤a1∧a1≤(((qe.b a0).length:Nat):Int)) <|
 .chk (0≤a1∧a1≤(((qe.b a0).length:Nat):Int)) <|
 .ret (qe.mk ((qe.b a0).drop a1.toNat) true,((qe.b a0).take a1.toNat).drop 0)) <|
 .cond (decide ((((qe.b a0).length:Nat):Int) < a1)) (
 .chk (Kp a1 a1 1) <|
 .chk (((List.replicate a1.toNat 0:List UInt8)).length=((List.replicate a1.toNat 0:List UInt8)).length) <|
 .ret (qe.mk (qe.b a0) (decide ((((qe.b a0).length:Nat):Int) < a1)),(List.replicate a1.toNat 0:List UInt8))) <|
 .chk (0≤(0:Int)∧(0:Int)≤a1∧a1≤(((qe.b a0).length:Nat):Int)) <|
 .chk (0≤a1∧a1≤(((qe.b a0).length:Nat):Int)) <|
 .ret (qe.mk ((qe.b a0).drop a1.toNat) (decide ((((qe.b a0).length:Nat):Int) < a1)),((qe.b a0).take a1.toNat).drop 0)
def zB (a0:qe) (a1:Int) (a2:Bool):Option (qe×List UInt8):=(V4 a0 a1 a2).run some
def qgd:List (Nat×qO):=[]
def QA:Ent:=smF ⟨45,[],[.k (.p 180 [] 0),.x (.i .i64),.x .b],[],[(180,.cell false (.x zm))]⟩ [zm,(.i .i64),.b] (qe×List UInt8) (fun x=>zB x.1 x.2.1 x.2.2.1) cs1 fun _=>qgF
theorem Zi:zl Tryz.prog (QA):=
 zq (H:=qgK) (L:=q0 (qgd)) (ts:=[zm,(.i .i64),.b]) (T:=fun x=>V4 x.1 x.2.1 x.2.2.1) 0 quj (qdq 0) (qH (by kernel_rfl) trivial) (rg0 (by kernel_rfl)) fun x=>by kernel_rfl
noncomputable def qtu:Code:=Tryz.f42.body.getD .skip
theorem qt4:FnF Tryz.prog 42 Tryz.f42 qtu:=⟨qz,by kernel_rfl,by kernel_rfl,by kernel_rfl⟩
def qhK:TH:={ live:=[(0,[0]),(1,[2])] }
def qhV (N:Nat):List Ent:=[QA]
theorem qe2 (N:Nat):q8 Tryz.prog (qhV N):=⟨Zi,trivial⟩
def qg4 (z:qe×Int):TV×THp:=(xi z.2,[(180,.cell false (.tv zm (z.1:qe)))])
def XQ (a0:qe):Tree (qe×Int):=
 .bind (zB a0 1 true) fun r1=>
 .bind (zu r1.2 0) fun e2=>
 .chk (qx ((e2.toNat:Nat):Int)) <|
 .ret (r1.1,((e2.toNat:Nat):Int))
def Qe (a0:qe):Option (qe×Int):=(XQ a0).run some
def qhn:List (Nat×qO):=[]
def KX:Ent:=smF ⟨42,[],[.k (.p 180 [] 0)],[],[(180,.cell false (.x zm))]⟩ [zm] (qe×Int) (fun x=>Qe x.1) cs1 fun _=>qg4
theorem qfM:zl Tryz.prog (KX):=
 zq (H:=qhK) (L:=q0 (qhn)) (ts:=[zm]) (T:=fun x=>XQ x.1) 0 qt4 (qe2 0) (qH (by kernel_rfl) trivial) (rg0 (by kernel_rfl)) fun x=>by kernel_rfl
noncomputable def qts:Code:=Tryz.f43.body.getD .skip
theorem quN:FnF Tryz.prog 43 Tryz.f43 qts:=⟨qz,by kernel_rfl,by kernel_rfl,by kernel_rfl⟩
def qjm:TH:={ live:=[(0,[0,2]),(1,[2])] }
def qju (N:Nat):List Ent:=[QA]
theorem qgR (N:Nat):q8 Tryz.prog (qju N):=⟨Zi,trivial⟩
def qiL (z:qe×Vector UInt8 16):TV×THp:=(.tv (.ba 16) (z.2:Vector UInt8 16),[(180,.cell false (.tv zm (z.1:qe)))])
def Wp (a0:qe):Tree (qe×Vector UInt8 16):=
 .bind (zB a0 16 true) fun r1=>
 .chk (16≤r1.2.length∧16≠0) <|
 .ret (r1.1,ZZ 16 r1.2)
def Zn (a0:qe):Option (qe×Vector UInt8 16):=(Wp a0).run some
def qiV:List (Nat×qO):=[]
def qbf:Ent:=smF ⟨43,[],[.k (.p 180 [] 0)],[],[(180,.cell false (.x zm))]⟩ [zm] (qe×Vector UInt8 16) (fun x=>Zn x.1) cs1 fun _=>qiL
theorem qg9:zl Tryz.prog (qbf):=
 zq (H:=qjm) (L:=q0 (qiV)) (ts:=[zm]) (T:=fun x=>Wp x.1) 0 quN (qgR 0) (qH (by kernel_rfl) trivial) (rg0 (by kernel_rfl)) fun x=>by kernel_rfl
noncomputable def qf8:Code:=Tryz.f87.body.getD .skip
theorem qt_:FnF Tryz.prog 87 Tryz.f87 qf8:=⟨qz,by kernel_rfl,by kernel_rfl,by kernel_rfl⟩
def qbZ:TH:={ live:=[(0,[0]),(1,[0,5]),(2,[0,5,6]),(3,[5,6,9,10,11]),(4,[5,6,9,10,11,12]),(5,[5,6,7,8,9,10,11]),(6,[5,6,7,8,9,10,11,16]),(7,[5,6,7,8,9,10,11,16]),(8,[5,6,7,8,9,10,11,16]),(9,[5,6,7,8,9,10,11]),(10,[5,6,7,9,10,11,39]),(11,[5,6]),(12,[5,6,9,10,11]),(13,[5,6,44]),(14,[2,3,4]),(15,[2,3,4])],dec:=[21,28] }
def qhG (N:Nat):List Ent:=[]
theorem qdK (N:Nat):q8 Tryz.prog (qhG N):=trivial
abbrev VS:=List UInt8×Int
abbrev vn:=(Int×Int×Int×Int×Bool)⊕(Int×Int×Bool)⊕(Int×Int)
def Ja (f:VS):vn→Ex×TSt
 | .inl y=>(.exit 0,⟨0,47,[],[(5,.tv (.i .u64) (y.1:Int)),(6,.ic .i64 0),(7,xi y.2.1),(8,.tv (.i .u8) (y.2.2.1:Int)),(9,.tv .bl f.1),(10,xi f.2),(11,xi y.2.2.2.1),(16,xb y.2.2.2.2)],[],false,[]⟩)
 | .inr (.inl y)=>(.exit 0,⟨0,47,[],[(5,.tv (.i .u64) (y.1:Int)),(6,.ic .i64 0),(9,.tv .bl f.1),(10,xi f.2),(11,xi y.2.1),(12,xb y.2.2)],[],false,[]⟩)
 | .inr (.inr y)=>(.exit 0,⟨0,47,[],[(5,.tv (.i .u64) (y.1:Int)),(6,xi y.2)],[],false,[]⟩)
def qkA (N:Nat):List (Nat×qO):=[]
abbrev QM:=Int×Int
def qcH:SP:=⟨0,47,[],[(5,.x (.i .u64)),(6,.k (.ic .i64 0)),(9,.x .bl),(10,.x (.i .i64)),(11,.x (.i .i64))],[],false,[]⟩
def qkO (f:VS) (v:QM):TSt:=vp qcH [dv (.i .u64) v.1,dv .bl f.1,dv (.i .i64) f.2,dv (.i .i64) v.2]
def vm (N:Nat) (s9_4:List UInt8) (s10_4:Int) (v:QM):Tree (QM⊕vn):=
 .cond (decide (v.2 < s10_4)) (
 .bind (zu s9_4 v.2) fun e1=>
 .cond (decide (v.2=((10:Int)))) (
 .cond (decide (v.2=((10:Int)))) (
 .ret (.inr (.inl (v.1,v.2,((e1.toNat:Nat):Int),v.2,decide (v.2=((10:Int))))))) <|
 .chk (0≤(7:Int)) <|
 let w2:Int:=jx .u8 ((e1.toNat:Nat):Int) 128
 let w3:Int:=uOr .u64 (Jq .u64 v.1 7) (IntKind.u64.wrap w2)
 .cond (decide (((e1.toNat:Nat):Int) < ((128:Int)))) (
 .chk (qx (v.2 + 1)) <|
 .ret (.inr (.inr (.inr ((w3,v.2 + 1)))))) <|
 .chk (qx (v.2 + 1)) <|
 .ret (.inl (w3,v.2 + 1))) <|
 .cond (decide (v.2=((9:Int)))) (
 .chk (0≤(57:Int)) <|
 .cond (decide (0 < (Qd v.1 57))) (
 .cond (decide (0 < (Qd v.1 57))) (
 .ret (.inr (.inl (v.1,v.2,((e1.toNat:Nat):Int),v.2,decide (0 < (Qd v.1 57)))))) <|
 .chk (0≤(7:Int)) <|
 let w2:Int:=jx .u8 ((e1.toNat:Nat):Int) 128
 let w3:Int:=uOr .u64 (Jq .u64 v.1 7) (IntKind.u64.wrap w2)
 .cond (decide (((e1.toNat:Nat):Int) < ((128:Int)))) (
 .chk (qx (v.2 + 1)) <|
 .ret (.inr (.inr (.inr ((w3,v.2 + 1)))))) <|
 .chk (qx (v.2 + 1)) <|
 .ret (.inl (w3,v.2 + 1))) <|
 .cond (decide (v.2=((0:Int)))) (
 .cond (decide (((e1.toNat:Nat):Int)=((128:Int)))) (
 .ret (.inr (.inl (v.1,v.2,((e1.toNat:Nat):Int),v.2,decide (((e1.toNat:Nat):Int)=((128:Int))))))) <|
 .chk (0≤(7:Int)) <|
 let w2:Int:=jx .u8 ((e1.toNat:Nat):Int) 128
 let w3:Int:=uOr .u64 (Jq .u64 v.1 7) (IntKind.u64.wrap w2)
 .cond (decide (((e1.toNat:Nat):Int) < ((128:Int)))) (
 .chk (qx (v.2 + 1)) <|
 .ret (.inr (.inr (.inr ((w3,v.2 + 1)))))) <|
 .chk (qx (v.2 + 1)) <|
 .ret (.inl (w3,v.2 + 1))) <|
 .chk (0≤(7:Int)) <|
 let w2:Int:=jx .u8 ((e1.toNat:Nat):Int) 128
 let w3:Int:=uOr .u64 (Jq .u64 v.1 7) (IntKind.u64.wrap w2)
 .cond (decide (((e1.toNat:Nat):Int) < ((128:Int)))) (
 .chk (qx (v.2 + 1)) <|
 .ret (.inr (.inr (.inr ((w3,v.2 + 1)))))) <|
 .chk (qx (v.2 + 1)) <|
 .ret (.inl (w3,v.2 + 1))) <|
 .cond (decide (v.2=((0:Int)))) (
 .cond (decide (((e1.toNat:Nat):Int)=((128:Int)))) (
 .ret (.inr (.inl (v.1,v.2,((e1.toNat:Nat):Int),v.2,decide (((e1.toNat:Nat):Int)=((128:Int))))))) <|
 .chk (0≤(7:Int)) <|
 let w2:Int:=jx .u8 ((e1.toNat:Nat):Int) 128
 let w3:Int:=uOr .u64 (Jq .u64 v.1 7) (IntKind.u64.wrap w2)
 .cond (decide (((e1.toNat:Nat):Int) < ((128:Int)))) (
 .chk (qx (v.2 + 1)) <|
 .ret (.inr (.inr (.inr ((w3,v.2 + 1)))))) <|
 .chk (qx (v.2 + 1)) <|
 .ret (.inl (w3,v.2 + 1))) <|
 .chk (0≤(7:Int)) <|
 let w2:Int:=jx .u8 ((e1.toNat:Nat):Int) 128
 let w3:Int:=uOr .u64 (Jq .u64 v.1 7) (IntKind.u64.wrap w2)
 .cond (decide (((e1.toNat:Nat):Int) < ((128:Int)))) (
 .chk (qx (v.2 + 1)) <|
 .ret (.inr (.inr (.inr ((w3,v.2 + 1)))))) <|
 .chk (qx (v.2 + 1)) <|
 .ret (.inl (w3,v.2 + 1))) <|
 .ret (.inr (.inr (.inl (v.1,v.2,decide (v.2 < s10_4)))))
def qcM (N n:Nat) (f:VS) (v:QM):Option vn:=zG (vm N f.1 f.2) some n v
theorem qkG (N:Nat) (f:VS) (n:Nat) (v:QM) (y:vn) (h:qcM N n f v=some y):LG Tryz.prog qbZ 87 (zi qf8 4) (qkO f v) (Ja f y):=
 jQ qz (E:=qhG N) (L:=q0 (qkA N)) (st:=Ja f) (g:=some) (R:=Ja f) (qdK N) (qH (by kernel_rfl) trivial) (rg0 (by kernel_rfl)) (fun v=>by kernel_rfl) (zC (st:=Ja f) fun y=>by rcases y with _ | _ | _<;>rfl) n v y h
def qaf (N:Nat) (s9_4:List UInt8) (s10_4:Int) (s5_4:Int) (s11_4:Int):Option vn:=qcM N N (s9_4,s10_4) (s5_4,s11_4)
def qcL (N:Nat):qO:=smL qcH [(.i .u64),.bl,(.i .i64),(.i .i64)] vn (fun x=>qaf N x.2.1 x.2.2.1 x.1 x.2.2.2.1) (csS (csS cs1)) fun x=>Ja (x.2.1,x.2.2.1)
theorem qiX (N:Nat):Zb Tryz.prog qbZ 87 (zi qf8 4) (qcL N):=vB fun x z h=>qkG N (x.2.1,x.2.2.1) N (x.1,x.2.2.2.1) z h
def qqH (z:Int×Int×Bool):TV×THp:=(.tup [.tv (.i .u64) (z.1:Int),xi z.2.1,xb z.2.2],[])
def qbN (N:Nat) (a0:List UInt8):Tree (Int×Int×Bool):=
 .bind (qaf N a0 ((a0.length:Nat):Int) 0 0) fun z1=>
 .sum z1 (fun z2=>
 .ret (0,0,false)) fun z2=>
 .sum z2 (fun z3=>
 .ret (0,0,false)) fun z3=>
 .cond (decide (z3.2=0)) (
 .ret (0,0,false)) <|
 .ret (z3.1,z3.2,true)
def Jx (N:Nat) (a0:List UInt8):Option (Int×Int×Bool):=(qbN N a0).run some
def qre (N:Nat):List (Nat×qO):=[(4,qcL N)]
def Xu (N:Nat):Ent:=smF ⟨87,[],[.x .bl],[],[]⟩ [.bl] (Int×Int×Bool) (fun x=>Jx N x.1) cs1 fun _=>qqH
theorem Wy (N:Nat):zl Tryz.prog (Xu N):=
 zq (H:=qbZ) (L:=q0 (qre N)) (ts:=[.bl]) (T:=fun x=>qbN N x.1) 0 qt_ (qdK N) (qH (by kernel_rfl) ⟨qiX N,trivial⟩) (rg0 (by kernel_rfl)) fun x=>by kernel_rfl
noncomputable def quT:Code:=Tryz.f44.body.getD .skip
theorem qtR:FnF Tryz.prog 44 Tryz.f44 quT:=⟨qz,by kernel_rfl,by kernel_rfl,by kernel_rfl⟩
def qoJ:TH:={ live:=[(0,[0,2]),(1,[2,5,6,7]),(2,[2,6,7,8]),(3,[2,6,8,28]),(4,[2,3,4]),(5,[2,3,4])],dec:=[24] }
def qoz (N:Nat):List Ent:=[Xu N,Ww]
theorem qkP (N:Nat):q8 Tryz.prog (qoz N):=⟨Wy N,Kf,trivial⟩
def qoH (z:qi×Int×Bool):TV×THp:=(.tup [.tv zF (z.1:qi),xi z.2.1,xb z.2.2],[])
def qae (N:Nat) (a0:List UInt8):Tree (qi×Int×Bool):=
 .bind (Jx N a0) fun r1=>
 .chk (0≤(3:Int)) <|
 .chk (qx (Qd r1.1 3)) <|
 .chk (qx (V2 .u64 r1.1 7)) <|
 .cond (!r1.2.2) (
 .ret (qi.mk 0 0,0,false)) <|
 .bind (JK (qi.mk (Qd r1.1 3) (V2 .u64 r1.1 7))) fun r2=>
 .cond (!r2) (
 .ret (qi.mk 0 0,0,false)) <|
 .ret (qi.mk (Qd r1.1 3) (V2 .u64 r1.1 7),r1.2.1,true)
def KH (N:Nat) (a0:List UInt8):Option (qi×Int×Bool):=(qae N a0).run some
def qou (N:Nat):List (Nat×qO):=[]
def qfL (N:Nat):Ent:=smF ⟨44,[],[.x .bl],[],[]⟩ [.bl] (qi×Int×Bool) (fun x=>KH N x.1) cs1 fun _=>qoH
theorem qmK (N:Nat):zl Tryz.prog (qfL N):=
 zq (H:=qoJ) (L:=q0 (qou N)) (ts:=[.bl]) (T:=fun x=>qae N x.1) 0 qtR (qkP N) (qH (by kernel_rfl) trivial) (rg0 (by kernel_rfl)) fun x=>by kernel_rfl
noncomputable def quA:Code:=Tryz.f46.body.getD .skip
theorem que:FnF Tryz.prog 46 Tryz.f46 quA:=⟨qz,by kernel_rfl,by kernel_rfl,by kernel_rfl⟩
def qnI:TH:={ live:=[(0,[0,1]),(1,[0,1,7,8,9]),(2,[1,7,8,9,10]),(3,[7,8,10,33]),(4,[4,5,6]),(5,[4,5,6])],dec:=[21,25] }
def qnE (N:Nat):List Ent:=[Xu N]
theorem qkW (N:Nat):q8 Tryz.prog (qnE N):=⟨Wy N,trivial⟩
def qnX (z:List UInt8×Int×Bool):TV×THp:=(.tup [.tv .s (z.1:List UInt8),xi z.2.1,xb z.2.2],[])
def qaw (N:Nat) (a0:List UInt8) (a1:Int):Tree (List UInt8×Int×Bool):=
 .bind (Jx N a0) fun r1=>
 .chk (0≤r1.2.1∧r1.2.1≤((a0.length:Nat):Int)) <|
 .cond r1.2.2 (
 .cond (decide (((0:Int))≤a1)) (
 let w2:Int:=IntKind.u64.wrap ((if (((a0.drop r1.2.1.toNat).length:Nat):Int) < a1 then (((a0.drop r1.2.1.toNat).length:Nat):Int) else a1))
 .cond (decide (r1.1≤w2)) (
 .chk (qx r1.1) <|
 .chk (0≤(0:Int)∧(0:Int)≤r1.1∧r1.1≤(((a0.drop r1.2.1.toNat).length:Nat):Int)) <|
 .chk (qx r1.1) <|
 .chk (qx (r1.2.1 + r1.1)) <|
 .ret (((a0.drop r1.2.1.toNat).take r1.1.toNat).drop 0,r1.2.1 + r1.1,true)) <|
 .ret ([],0,false)) <|
 .ret ([],0,false)) <|
 .ret ([],0,false)
def V_ (N:Nat) (a0:List UInt8) (a1:Int):Option (List UInt8×Int×Bool):=(qaw N a0 a1).run some
def qoR (N:Nat):List (Nat×qO):=[]
def qat (N:Nat):Ent:=smF ⟨46,[],[.x .bl,.x (.i .i64)],[],[]⟩ [.bl,(.i .i64)] (List UInt8×Int×Bool) (fun x=>V_ N x.1 x.2.1) cs1 fun _=>qnX
theorem qdn (N:Nat):zl Tryz.prog (qat N):=
 zq (H:=qnI) (L:=q0 (qoR N)) (ts:=[.bl,(.i .i64)]) (T:=fun x=>qaw N x.1 x.2.1) 0 que (qkW N) (qH (by kernel_rfl) trivial) (rg0 (by kernel_rfl)) fun x=>by kernel_rfl
noncomputable def qs9:Code:=Tryz.f47.body.getD .skip
theorem quu:FnF Tryz.prog 47 Tryz.f47 qs9:=⟨qz,by kernel_rfl,by kernel_rfl,by kernel_rfl⟩
def qdO:TH:={ live:=[(0,[0,2]),(1,[2])] }
def qdr (N:Nat):List Ent:=[QA]
theorem qbw (N:Nat):q8 Tryz.prog (qdr N):=⟨Zi,trivial⟩
def qd5 (z:qe×Vector UInt8 32):TV×THp:=(.tv (.ba 32) (z.2:Vector UInt8 32),[(180,.cell false (.tv zm (z.1:qe)))])
def J4 (a0:qe):Tree (qe×Vector UInt8 32):=
 .bind (zB a0 32 true) fun r1=>
 .chk (32≤r1.2.length∧32≠0) <|
 .ret (r1.1,ZZ 32 r1.2)
def jL (a0:qe):Option (qe×Vector UInt8 32):=(J4 a0).run some
def qd_:List (Nat×qO):=[]
def W0:Ent:=smF ⟨47,[],[.k (.p 180 [] 0)],[],[(180,.cell false (.x zm))]⟩ [zm] (qe×Vector UInt8 32) (fun x=>jL x.1) cs1 fun _=>qd5
theorem qc0:zl Tryz.prog (W0):=
 zq (H:=qdO) (L:=q0 (qd_)) (ts:=[zm]) (T:=fun x=>J4 x.1) 0 quu (qbw 0) (qH (by kernel_rfl) trivial) (rg0 (by kernel_rfl)) fun x=>by kernel_rfl
noncomputable def quY:Code:=Tryz.f88.body.getD .skip
theorem qul:FnF Tryz.prog 88 Tryz.f88 quY:=⟨qz,by kernel_rfl,by kernel_rfl,by kernel_rfl⟩
def qk_:TH:={ live:=[(0,[0,2]),(1,[0,2,5]),(2,[0,2,5,15]),(3,[2,3,4]),(4,[0,2,5,26]),(5,[2,6,7,8]),(6,[2,3,4]),(7,[0,2,5,9,10,11]),(8,[2,5,9,10,11,12,13,14]),(9,[2,5,9,10,12,13,72]),(10,[2,3,4]),(11,[2,3,4])],dec:=[19,61,65,69] }
def qkV (N:Nat):List Ent:=[qat N,Xu N]
theorem qhA (N:Nat):q8 Tryz.prog (qkV N):=⟨qdn N,Wy N,trivial⟩
def qkJ (z:qb×Int×Bool):TV×THp:=(.tup [.tv qu (z.1:qb),xi z.2.1,xb z.2.2],[])
def Yd (N:Nat) (a0:List UInt8):Tree (qb×Int×Bool):=
 .cond (decide (((a0.length:Nat):Int)=((0:Int)))) (
 .ret (qb.mk false 0 0 [],0,false)) <|
 .bind (zu a0 0) fun e1=>
 .cond (decide (((1:Int)) < ((e1.toNat:Nat):Int))) (
 .ret (qb.mk false 0 0 [],0,false)) <|
 .bind (zu a0 0) fun e2=>
 .cond (decide (((e2.toNat:Nat):Int)=((0:Int)))) (
 .chk (0≤(1:Int)∧(1:Int)≤((a0.length:Nat):Int)) <|
 .bind (V_ N (a0.drop 1) 200) fun r3=>
 .chk (qx (r3.2.1 + 1)) <|
 .ret (qb.mk false 0 0 r3.1,r3.2.1 + 1,r3.2.2)) <|
 .chk (0≤(1:Int)∧(1:Int)≤((a0.length:Nat):Int)) <|
 .bind (Jx N (a0.drop 1)) fun r3=>
 .chk (qx (((1:Int)) + r3.2.1)) <|
 .chk (0≤(((1:Int)) + r3.2.1)∧(((1:Int)) + r3.2.1)≤((a0.length:Nat):Int)) <|
 .bind (Jx N (a0.drop ((((1:Int)) + r3.2.1).toNat))) fun r4=>
 .cond (!r3.2.2) (
 .ret (qb.mk false 0 0 [],0,false)) <|
 .cond (!r4.2.2) (
 .ret (qb.mk false 0 0 [],0,false)) <|
 .cond (decide (200 < r3.1)) (
 .ret (qb.mk false 0 0 [],0,false)) <|
 .cond (decide (200 < r4.1)) (
 .ret (qb.mk false 0 0 [],0,false)) <|
 .chk (qx r3.1) <|
 .chk (qx r4.1) <|
 .chk (qx (((1:Int)) + r3.2.1)) <|
 .chk (qx ((((1:Int)) + r3.2.1) + r4.2.1)) <|
 .ret (qb.mk true r3.1 r4.1 [],(((1:Int)) + r3.2.1) + r4.2.1,true)
def Vy (N:Nat) (a0:List UInt8):Option (qb×Int×Bool):=(Yd N a0).run some
def qlh (N:Nat):List (Nat×qO):=[]
def qcr (N:Nat):Ent:=smF ⟨88,[],[.x .bl],[],[]⟩ [.bl] (qb×Int×Bool) (fun x=>Vy N x.1) cs1 fun _=>qkJ
theorem qiG (N:Nat):zl Tryz.prog (qcr N):=
 zq (H:=qk_) (L:=q0 (qlh N)) (ts:=[.bl]) (T:=fun x=>Yd N x.1) 0 qul (qhA N) (qH (by kernel_rfl) trivial) (rg0 (by kernel_rfl)) fun x=>by kernel_rfl
noncomputable def qgL:Code:=Tryz.f48.body.getD .skip
theorem qtM:FnF Tryz.prog 48 Tryz.f48 qgL:=⟨qz,by kernel_rfl,by kernel_rfl,by kernel_rfl⟩
def qaE:TH:={ live:=[(0,[0]),(1,[0,5,6,7]),(2,[0,5,6,23]),(3,[2,3,4]),(4,[0,5,6,8]),(5,[0,6,8,24,25]),(6,[0,6,8,24,25,26]),(7,[0,6,8,9,10,11,24,25]),(8,[0,6,8,9,10,24,25,36]),(9,[2,3,4]),(10,[0,6,8,10,24,25]),(11,[0,6,8,24,25]),(12,[0,6,8,24,25]),(13,[6,8,47]),(14,[2,3,4]),(15,[2,3,4])],dec:=[20],nil:=[(4,[⟨.sl 8,85,(.sl 4 qu)⟩])] }
def qfg (N:Nat):List Ent:=[Xu N,qcr N,Wu N]
theorem qcq (N:Nat):q8 Tryz.prog (qfg N):=⟨Wy N,qiG N,Kb N,trivial⟩
abbrev Vf:=List UInt8×Int
abbrev vH:=Unit⊕(List qb×Int×Int×Bool)
def Zw (f:Vf):vH→Ex×TSt
 | .inl y=>(.ret,⟨0,50,[],[(2,.nils),(3,.ic .i64 0),(4,.bc false)],[],false,[]⟩)
 | .inr y=>(.exit 0,⟨0,50,[],[(0,.tv .bl f.1),(6,xi y.2.1),(8,.v 85 y.1.length),(24,.tv (.i .u64) f.2),(25,.tv (.i .u64) (y.2.2.1:Int)),(26,xb y.2.2.2)],[(85,.vec false 4 (.sl 4 qu) (y.1:List qb))],false,[]⟩)
def qiF (N:Nat):List (Nat×qO):=[]
abbrev Zq:=List qb×Int×Int
def qbd:SP:=⟨0,50,[],[(0,.x .bl),(6,.x (.i .i64)),(8,.vs 85),(24,.x (.i .u64)),(25,.x (.i .u64))],[(85,.vec false 4)],false,[]⟩
def qjh (f:Vf) (v:Zq):TSt:=vp qbd [dv (.sl 4 qu) v.1,dv .bl f.1,dv (.i .i64) v.2.1,dv (.i .u64) f.2,dv (.i .u64) v.2.2]
def Zu (N:Nat) (s0_6:List UInt8) (s24_6:Int) (v:Zq):Tree (Zq⊕vH):=
 .cond (decide (v.2.2 < s24_6)) (
 .chk (0≤v.2.1∧v.2.1≤((s0_6.length:Nat):Int)) <|
 .bind (Vy N (s0_6.drop v.2.1.toNat)) fun r1=>
 .cond (!r1.2.2) (
 .ret (.inr (.inl ()))) <|
 .chk (W4 v.1.length v.1.length ((v.1++[r1.1]).length) 40) <|
 .chk (qx (v.2.1 + r1.2.1)) <|
 .ret (.inl (v.1++[r1.1],v.2.1 + r1.2.1,Vw .u64 v.2.2 1))) <|
 .ret (.inr (.inr ((v.1,v.2.1,v.2.2,decide (v.2.2 < s24_6)))))
def qbo (N n:Nat) (f:Vf) (v:Zq):Option vH:=zG (Zu N f.1 f.2) some n v
theorem qi1 (N:Nat) (f:Vf) (n:Nat) (v:Zq) (y:vH) (h:qbo N n f v=some y):LG Tryz.prog qaE 48 (zi qgL 6) (qjh f v) (Zw f y):=
 jQ qz (E:=qfg N) (L:=q0 (qiF N)) (st:=Zw f) (g:=some) (R:=Zw f) (qcq N) (qH (by kernel_rfl) trivial) (rg0 (by kernel_rfl)) (fun v=>by kernel_rfl) (zC (st:=Zw f) fun y=>by rcases y with _ | _<;>rfl) n v y h
def Kh (N:Nat) (s0_6:List UInt8) (s24_6:Int) (o_6:List qb) (s6_6:Int) (s25_6:Int):Option vH:=qbo N N (s0_6,s24_6) (o_6,s6_6,s25_6)
def qbc (N:Nat):qO:=smL qbd [(.sl 4 qu),.bl,(.i .i64),(.i .u64),(.i .u64)] vH (fun x=>Kh N x.2.1 x.2.2.2.1 x.1 x.2.2.1 x.2.2.2.2.1) (csS cs1) fun x=>Zw (x.2.1,x.2.2.2.1)
theorem qhy (N:Nat):Zb Tryz.prog qaE 48 (zi qgL 6) (qbc N):=vB fun x z h=>qi1 N (x.2.1,x.2.2.2.1) N (x.1,x.2.2.1,x.2.2.2.2.1) z h
def qox (z:List qb×Int×Bool):TV×THp:=(.tup [.tv (.sl 4 qu) (z.1:List qb),xi z.2.1,xb z.2.2],[])
def qaD (N:Nat) (a0:List UInt8):Tree (List qb×Int×Bool):=
 .bind (Jx N a0) fun r1=>
 .cond (!r1.2.2) (
 .ret ([],0,false)) <|
 .cond (decide (60 < r1.1)) (
 .ret ([],0,false)) <|
 .bind (QW [(([]:List qb).length,0)] (Kh N a0 r1.1 [] r1.2.1 0)) fun z2=>
 .sum z2 (fun z3=>
 .ret ([],0,false)) fun z3=>
 .chk (z3.1.length=z3.1.length) <|
 .bind (Xn N z3.1) fun r4=>
 .cond (!r4) (
 .ret ([],0,false)) <|
 .chk (z3.1.length=z3.1.length) <|
 .ret (z3.1,z3.2.1,true)
def W3 (N:Nat) (a0:List UInt8):Option (List qb×Int×Bool):=(qaD N a0).run some
def qog (N:Nat):List (Nat×qO):=[(6,qbc N)]
def qfu (N:Nat):Ent:=smF ⟨48,[],[.x .bl],[],[]⟩ [.bl] (List qb×Int×Bool) (fun x=>W3 N x.1) cs1 fun _=>qox
theorem qm7 (N:Nat):zl Tryz.prog (qfu N):=
 zq (H:=qaE) (L:=q0 (qog N)) (ts:=[.bl]) (T:=fun x=>qaD N x.1) 0 qtM (qcq N) (qH (by kernel_rfl) ⟨qhy N,trivial⟩) (rg0 (by kernel_rfl)) fun x=>by kernel_rfl
noncomputable def quy:Code:=Tryz.f15.body.getD .skip
theorem qup:FnF Tryz.prog 15 Tryz.f15 quy:=⟨qz,by kernel_rfl,by kernel_rfl,by kernel_rfl⟩
def quO:TH:={ live:=[(0,[0,2]),(1,[0,2,5]),(2,[0,2,5,6]),(3,[0,2,5,6,7,8,9]),(4,[0,2,5,6,7]),(5,[0,2,5,6]),(6,[0,2,5,6,41]),(7,[0,2,5,6]),(8,[0,2,5,6,46]),(9,[0,2,5,6,46,47]),(10,[0,2,5,6,10,11,12]),(11,[0,2,5,6,10]),(12,[0,2,5,6]),(13,[0,2,5,6,46,64]),(14,[0,2,5,6]),(15,[0,2,5,6,75]),(16,[0,2,5,6,13,14,15]),(17,[0,2,5,6,13]),(18,[0,2,5,6]),(19,[0,2,5,6,103]),(20,[2,3,4]),(21,[2,3,4])],dec:=[99] }
def qtL (N:Nat):List Ent:=[KX,qbf,qfL N,QA,qat N,W0,qfu N,qbJ N]
theorem qqu (N:Nat):q8 Tryz.prog (qtL N):=⟨qfM,qg9,qmK N,Zi,qdn N,qc0,qm7 N,qc7 N,trivial⟩
def qtb (z:qa×Int×Bool):TV×THp:=(.tup [.tv q6 (z.1:qa),xi z.2.1,xb z.2.2],[])
def qf9 (N:Nat) (a0:List UInt8):Tree (qa×Int×Bool):=
 .bind (Qe (qe.mk a0 false)) fun r1=>
 .bind (Zn r1.1) fun r2=>
 .bind (KH N (qe.b r2.1)) fun r3=>
 .bind (zB r2.1 r3.2.1 r3.2.2) fun r4=>
 .cond (!decide (r1.2=0)) (
 .bind (Qe r4.1) fun r5=>
 .cond (decide (r1.2=1)) (
 .bind (V_ N (qe.b r5.1) 200) fun r6=>
 .bind (zB r5.1 r6.2.1 r6.2.2) fun r7=>
 .cond (qe.bad r7.1) (
 .ret (qa.mk 0 ((Vector.replicate 16 0)) (qi.mk 0 0) 0 [] [] ((Vector.replicate 16 0)) 0 ((Vector.replicate 32 0)),0,false)) <|
 .bind (QX N (qa.mk r1.2 r2.2 r3.1 r5.2 r6.1 [] ((Vector.replicate 16 0)) 0 ((Vector.replicate 32 0)))) fun r8=>
 .cond (!r8) (
 .ret (qa.mk 0 ((Vector.replicate 16 0)) (qi.mk 0 0) 0 [] [] ((Vector.replicate 16 0)) 0 ((Vector.replicate 32 0)),0,false)) <|
 .chk (qx (((a0.length:Nat):Int) - (((qe.b r7.1).length:Nat):Int))) <|
 .ret (qa.mk r1.2 r2.2 r3.1 r5.2 r6.1 [] ((Vector.replicate 16 0)) 0 ((Vector.replicate 32 0)),((a0.length:Nat):Int) - (((qe.b r7.1).length:Nat):Int),true)) <|
 .cond (decide (r1.2=2)) (
 .bind (Zn r5.1) fun r6=>
 .bind (Qe r6.1) fun r7=>
 .bind (jL r7.1) fun r8=>
 .cond (qe.bad r8.1) (
 .ret (qa.mk 0 ((Vector.replicate 16 0)) (qi.mk 0 0) 0 [] [] ((Vector.replicate 16 0)) 0 ((Vector.replicate 32 0)),0,false)) <|
 .bind (QX N (qa.mk r1.2 r2.2 r3.1 r5.2 [] [] r6.2 r7.2 r8.2)) fun r9=>
 .cond (!r9) (
 .ret (qa.mk 0 ((Vector.replicate 16 0)) (qi.mk 0 0) 0 [] [] ((Vector.replicate 16 0)) 0 ((Vector.replicate 32 0)),0,false)) <|
 .chk (qx (((a0.length:Nat):Int) - (((qe.b r8.1).length:Nat):Int))) <|
 .ret (qa.mk r1.2 r2.2 r3.1 r5.2 [] [] r6.2 r7.2 r8.2,((a0.length:Nat):Int) - (((qe.b r8.1).length:Nat):Int),true)) <|
 .cond (decide (r1.2=3)) (
 .bind (W3 N (qe.b r5.1)) fun r6=>
 .bind (zB r5.1 r6.2.1 r6.2.2) fun r7=>
 .bind (jL r7.1) fun r8=>
 .cond (qe.bad r8.1) (
 .ret (qa.mk 0 ((Vector.replicate 16 0)) (qi.mk 0 0) 0 [] [] ((Vector.replicate 16 0)) 0 ((Vector.replicate 32 0)),0,false)) <|
 .bind (QX N (qa.mk r1.2 r2.2 r3.1 r5.2 [] r6.1 ((Vector.replicate 16 0)) 0 r8.2)) fun r9=>
 .cond (!r9) (
 .ret (qa.mk 0 ((Vector.replicate 16 0)) (qi.mk 0 0) 0 [] [] ((Vector.replicate 16 0)) 0 ((Vector.replicate 32 0)),0,false)) <|
 .chk (qx (((a0.length:Nat):Int) - (((qe.b r8.1).length:Nat):Int))) <|
 .ret (qa.mk r1.2 r2.2 r3.1 r5.2 [] r6.1 ((Vector.replicate 16 0)) 0 r8.2,((a0.length:Nat):Int) - (((qe.b r8.1).length:Nat):Int),true)) <|
 .cond (qe.bad r5.1) (
 .ret (qa.mk 0 ((Vector.replicate 16 0)) (qi.mk 0 0) 0 [] [] ((Vector.replicate 16 0)) 0 ((Vector.replicate 32 0)),0,false)) <|
 .bind (QX N (qa.mk r1.2 r2.2 r3.1 r5.2 [] [] ((Vector.replicate 16 0)) 0 ((Vector.replicate 32 0)))) fun r6=>
 .cond (!r6) (
 .ret (qa.mk 0 ((Vector.replicate 16 0)) (qi.mk 0 0) 0 [] [] ((Vector.replicate 16 0)) 0 ((Vector.replicate 32 0)),0,false)) <|
 .chk (qx (((a0.length:Nat):Int) - (((qe.b r5.1).length:Nat):Int))) <|
 .ret (qa.mk r1.2 r2.2 r3.1 r5.2 [] [] ((Vector.replicate 16 0)) 0 ((Vector.replicate 32 0)),((a0.length:Nat):Int) - (((qe.b r5.1).length:Nat):Int),true)) <|
 .cond (decide (r1.2=1)) (
 .bind (V_ N (qe.b r4.1) 200) fun r5=>
 .bind (zB r4.1 r5.2.1 r5.2.2) fun r6=>
 .cond (qe.bad r6.1) (
 .ret (qa.mk 0 ((Vector.replicate 16 0)) (qi.mk 0 0) 0 [] [] ((Vector.replicate 16 0)) 0 ((Vector.replicate 32 0)),0,false)) <|
 .bind (QX N (qa.mk r1.2 r2.2 r3.1 0 r5.1 [] ((Vector.replicate 16 0)) 0 ((Vector.replicate 32 0)))) fun r7=>
 .cond (!r7) (
 .ret (qa.mk 0 ((Vector.replicate 16 0)) (qi.mk 0 0) 0 [] [] ((Vector.replicate 16 0)) 0 ((Vector.replicate 32 0)),0,false)) <|
 .chk (qx (((a0.length:Nat):Int) - (((qe.b r6.1).length:Nat):Int))) <|
 .ret (qa.mk r1.2 r2.2 r3.1 0 r5.1 [] ((Vector.replicate 16 0)) 0 ((Vector.replicate 32 0)),((a0.length:Nat):Int) - (((qe.b r6.1).length:Nat):Int),true)) <|
 .cond (decide (r1.2=2)) (
 .bind (Zn r4.1) fun r5=>
 .bind (Qe r5.1) fun r6=>
 .bind (jL r6.1) fun r7=>
 .cond (qe.bad r7.1) (
 .ret (qa.mk 0 ((Vector.replicate 16 0)) (qi.mk 0 0) 0 [] [] ((Vector.replicate 16 0)) 0 ((Vector.replicate 32 0)),0,false)) <|
 .bind (QX N (qa.mk r1.2 r2.2 r3.1 0 [] [] r5.2 r6.2 r7.2)) fun r8=>
 .cond (!r8) (
 .ret (qa.mk 0 ((Vector.replicate 16 0)) (qi.mk 0 0) 0 [] [] ((Vector.replicate 16 0)) 0 ((Vector.replicate 32 0)),0,false)) <|
 .chk (qx (((a0.length:Nat):Int) - (((qe.b r7.1).length:Nat):Int))) <|
 .ret (qa.mk r1.2 r2.2 r3.1 0 [] [] r5.2 r6.2 r7.2,((a0.length:Nat):Int) - (((qe.b r7.1).length:Nat):Int),true)) <|
 .cond (decide (r1.2=3)) (
 .bind (W3 N (qe.b r4.1)) fun r5=>
 .bind (zB r4.1 r5.2.1 r5.2.2) fun r6=>
 .bind (jL r6.1) fun r7=>
 .cond (qe.bad r7.1) (
 .ret (qa.mk 0 ((Vector.replicate 16 0)) (qi.mk 0 0) 0 [] [] ((Vector.replicate 16 0)) 0 ((Vector.replicate 32 0)),0,false)) <|
 .bind (QX N (qa.mk r1.2 r2.2 r3.1 0 [] r5.1 ((Vector.replicate 16 0)) 0 r7.2)) fun r8=>
 .cond (!r8) (
 .ret (qa.mk 0 ((Vector.replicate 16 0)) (qi.mk 0 0) 0 [] [] ((Vector.replicate 16 0)) 0 ((Vector.replicate 32 0)),0,false)) <|
 .chk (qx (((a0.length:Nat):Int) - (((qe.b r7.1).length:Nat):Int))) <|
 .ret (qa.mk r1.2 r2.2 r3.1 0 [] r5.1 ((Vector.replicate 16 0)) 0 r7.2,((a0.length:Nat):Int) - (((qe.b r7.1).length:Nat):Int),true)) <|
 .cond (qe.bad r4.1) (
 .ret (qa.mk 0 ((Vector.replicate 16 0)) (qi.mk 0 0) 0 [] [] ((Vector.replicate 16 0)) 0 ((Vector.replicate 32 0)),0,false)) <|
 .bind (QX N (qa.mk r1.2 r2.2 r3.1 0 [] [] ((Vector.replicate 16 0)) 0 ((Vector.replicate 32 0)))) fun r5=>
 .cond (!r5) (
 .ret (qa.mk 0 ((Vector.replicate 16 0)) (qi.mk 0 0) 0 [] [] ((Vector.replicate 16 0)) 0 ((Vector.replicate 32 0)),0,false)) <|
 .chk (qx (((a0.length:Nat):Int) - (((qe.b r4.1).length:Nat):Int))) <|
 .ret (qa.mk r1.2 r2.2 r3.1 0 [] [] ((Vector.replicate 16 0)) 0 ((Vector.replicate 32 0)),((a0.length:Nat):Int) - (((qe.b r4.1).length:Nat):Int),true)
def WS (N:Nat) (a0:List UInt8):Option (qa×Int×Bool):=(qf9 N a0).run some
def quK (N:Nat):List (Nat×qO):=[]
def qns (N:Nat):Ent:=smF ⟨15,[],[.x .bl],[],[]⟩ [.bl] (qa×Int×Bool) (fun x=>WS N x.1) cs1 fun _=>qtb
theorem qrV (N:Nat):zl Tryz.prog (qns N):=
 zq (H:=quO) (L:=q0 (quK N)) (ts:=[.bl]) (T:=fun x=>qf9 N x.1) 0 qup (qqu N) (qH (by kernel_rfl) trivial) (rg0 (by kernel_rfl)) fun x=>by kernel_rfl
noncomputable def qpG:Code:=Tryz.f6.body.getD .skip
theorem qvx:FnF Tryz.prog 6 Tryz.f6 qpG:=⟨qz,by kernel_rfl,by kernel_rfl,by kernel_rfl⟩
def qbi:TH:={ live:=[(0,[1,2]),(1,[1,2,5]),(2,[1,2,5,6]),(3,[1,2,5,30]),(4,[4]),(5,[1,2,7,8]),(6,[1,2,7,8,47]),(7,[4]),(8,[1,2,7,48]),(9,[1,2,7,9,10,11]),(10,[1,71]),(11,[4]),(12,[1,12,13,14]),(13,[1,12,13,79]),(14,[4]),(15,[1,13,15,16]),(16,[4])],dec:=[22,26,41,60,66,82,87,99,105] }
def qaL (N:Nat):List Ent:=[qnv,WJ N,qfP N,qbJ N,qjV N,qns N,qdA N]
theorem Ky (N:Nat):q8 Tryz.prog (qaL N):=⟨qr7,qcU N,qjH N,qc7 N,qrb N,qrV N,qg3 N,trivial⟩
def qba (z:Bool):TV×THp:=(xb z,[])
def ZE (N:Nat) (a0:qa) (a1:List UInt8):Tree (Bool):=
 .bind (qmR) fun r1=>
 .bind (vN N a0) fun r2=>
 .cond (!r1) (
 .ret r1) <|
 .cond (!r2) (
 .ret r1) <|
 .cond (decide (((600:Int)) < ((a1.length:Nat):Int))) (
 .ret r1) <|
 .bind (XI N a0) fun r3=>
 .bind (QX N a0) fun r4=>
 .cond (!(eqE .b r3.2 r4)) (
 .ret false) <|
 .bind (YB N a0) fun r5=>
 .cond (!decide (r5=((r3.1.length:Nat):Int))) (
 .ret false) <|
 .cond r3.2 (
 .chk (qgy r3.1.length 1) <|
 .chk (W4 r3.1.length r3.1.length ((r3.1++a1).length) 1) <|
 .chk ((r3.1++a1).length=(r3.1++a1).length) <|
 .bind (WS N (r3.1++a1)) fun r6=>
 .cond (!r6.2.2) (
 .ret false) <|
 .bind (YA N r6.1 a0) fun r7=>
 .cond (!r7) (
 .ret false) <|
 .cond (!decide (r6.2.1=((r3.1.length:Nat):Int))) (
 .ret false) <|
 .bind (WS N a1) fun r8=>
 .cond (!r8.2.2) (
 .cond (decide (r8.2.1=0)) (
 .cond (decide ((qa.V r8.1)=[])) (
 .ret (decide ((((qa.P r8.1).length:Nat):Int)=((0:Int))))) <|
 .ret false) <|
 .ret false) <|
 .bind (XI N r8.1) fun r9=>
 .cond r9.2 (
 .cond (decide (r8.2.1≤((a1.length:Nat):Int))) (
 .chk (0≤(0:Int)∧(0:Int)≤r8.2.1∧r8.2.1≤((a1.length:Nat):Int)) <|
 .ret (decide (r9.1=((a1.take r8.2.1.toNat).drop 0)))) <|
 .ret false) <|
 .ret false) <|
 .bind (WS N a1) fun r6=>
 .cond (!r6.2.2) (
 .cond (decide (r6.2.1=0)) (
 .cond (decide ((qa.V r6.1)=[])) (
 .ret (decide ((((qa.P r6.1).length:Nat):Int)=((0:Int))))) <|
 .ret false) <|
 .ret false) <|
 .bind (XI N r6.1) fun r7=>
 .cond r7.2 (
 .cond (decide (r6.2.1≤((a1.length:Nat):Int))) (
 .chk (0≤(0:Int)∧(0:Int)≤r6.2.1∧r6.2.1≤((a1.length:Nat):Int)) <|
 .ret (decide (r7.1=((a1.take r6.2.1.toNat).drop 0)))) <|
 .ret false) <|
 .ret false
def jB (N:Nat) (a0:qa) (a1:List UInt8):Option (Bool):=(ZE N a0 a1).run some
def qaJ (N:Nat):List (Nat×qO):=[]
theorem KC (N:Nat):qeI Tryz.prog ⟨6,[],[.x q6,.x .bl],[],[]⟩ [q6,.bl] (fun x=>ZE N x.1 x.2.1) (fun _=>qba):=
 qa2 (H:=qbi) (L:=q0 (qaJ N)) 0 qvx (Ky N) (qH (by kernel_rfl) trivial) (rg0 (by kernel_rfl)) fun x=>by kernel_rfl
end Go.Rx
end
set_option maxRecDepth 100000
noncomputable section
namespace Go.Rx
open Go.Proofs
abbrev VZ (q:Nat→Bool) (n:Nat):Bool:=qlI q n 0
theorem JE {q:Nat→Bool} {n:Nat}:VZ q n=true↔∀ j,j < n→q j=true:=by
 unfold VZ; rw [qlH]
 exact ⟨fun h j hj=>h j (Nat.zero_le _) (by omega),fun h j _ hj=>h j (by omega)⟩
theorem qrX {p q:Nat→Bool} {n:Nat} (h:J0 p n 0=none) (hq:∀ j,j < n→p j=!q j):VZ q n=true:=
 JE.2 fun j hj=>by
  have:=qfk h j (Nat.zero_le _) (by omega)
  rw [hq j hj] at this; simpa using this
theorem qsq {p q:Nat→Bool} {n i:Nat} (h:J0 p n 0=some i) (hq:∀ j,j < n→p j=!q j):VZ q n=false:=by
 obtain ⟨h1,_,h2,_⟩:=qfq h
 cases e:VZ q n with
 | false=>rfl
 | true=>
  have:=JE.1 e i (by omega)
  rw [hq i (by omega),this] at h1; simp at h1
theorem qjz {α Y : Type} {B : Int → Tree (Int ⊕ (α ⊕ (Int × Bool)))} {g : α ⊕ (Int × Bool) → Option Y} {q : Nat → Bool} {n : Nat} {hit : α}
    (h1:∀ k,k < n→(B (k:Int)).run some=some (if q k then .inl ((k + 1:Nat):Int) else .inr (.inl hit))) (h2:(B (n:Int)).run some=some (.inr (.inr (((n:Nat):Int),false)))) {N:Nat} (hN:n < N) :
    zG B g N ((0:Nat):Int)=g (if VZ q n then .inr (((n:Nat):Int),false) else .inl hit):=by
 rw [qjZ (p:=fun k=>!q k) (hit:=fun _=>.inl hit) (fin:=.inr (((n:Nat):Int),false)) (n:=n) (fun k hk=>by rw [h1 k hk]; cases q k<;>rfl) h2 N 0 (Nat.zero_le _) (by omega),Nat.sub_zero]
 cases e:J0 (fun k=>!q k) n 0 with
 | none=>rw [qrX e fun _ _=>rfl]; rfl
 | some i=>rw [qsq e fun _ _=>rfl]; rfl
theorem qb3 {α:Type} {d:α} {l:List α} {k:Nat} (h:k < l.length):l.take (k + 1)=l.take k++[l.getD k d]:=by
 rw [List.take_succ_eq_append_getElem h,List.getD_eq_getElem?_getD,List.getElem?_eq_getElem h]; rfl
class Vx (N:Nat):Prop where
 h:100000≤N
theorem Vx.of {N:Nat} (h:100000≤N):Vx N:=⟨h⟩
theorem big (N:Nat) [Vx N]:100000≤N:=Vx.h
abbrev zSt:qi:=((0:Int),(0:Int))
def stB (a:qi):Bool:=decide (a=zSt)||(decide (0 < a.1)&&decide (a.1≤1099511627776)&&decide (0≤a.2)&&decide (a.2 < 8))
theorem quD (a b:qi):eqE zF a b=decide (a=b):=Bool.eq_iff_iff.2 ((QN zF a b).trans (decide_eq_true_iff (p:=(a:Int×Int)=b)).symm)
theorem qwt (a b:Vector UInt8 16):eqE (.ba 16) a b=decide (a=b):=Bool.eq_iff_iff.2 ((QN (.ba 16) a b).trans (decide_eq_true_iff (p:=(a:Vector UInt8 16)=b)).symm)
theorem qfV (a:qi):JK a=some (stB a):=by
 unfold JK qaq
 have e:=quD a (qi.mk 0 0)
 simp only [Tree.run,e]
 show (bif decide (a=zSt) then _ else _)=some (decide (a=zSt)||_)
 cases decide (a=zSt) with
 | true=>rfl
 | false=>
  show (bif decide (0 < a.1) then _ else _)=_
  cases decide (0 < a.1) with
  | false=>rfl
  | true=>
   show (bif decide (a.1≤1099511627776) then _ else _)=_
   cases decide (a.1≤1099511627776) with
   | false=>rfl
   | true=>
    show (bif decide (0≤a.2) then _ else _)=_
    cases decide (0≤a.2)<;>rfl
end Go.Rx
end
set_option maxRecDepth 100000
noncomputable section
namespace Go.Rx
open Go.Proofs
abbrev zP:qb:=(false,0,0,[])
def inP (a lo hi:Int):Bool:=decide (lo≤a)&&decide (a≤hi)
def QZ (p:qb):Bool:=bif p.JV then inP p.jK 0 200&&inP p.Len 1 200&&decide (p.Lit=[]) else decide (p=(false,0,0,p.Lit))&&inP (p.Lit.length:Nat) 1 200
theorem qtF (a b:qb):eqE qu a b=decide (a=b):=Bool.eq_iff_iff.2 ((QN qu a b).trans (decide_eq_true_iff (p:=(a:Bool×Int×Int×List UInt8)=b)).symm)
theorem ql7 (a lo hi:Int):Wo a lo hi=some (inP a lo hi):=by
 unfold Wo qcf inP
 exact zT rfl (fun h=>qw (by rw [h]; rfl)) fun h=>qw (by rw [h]; rfl)
theorem quJ (p:qb):KE p=some (QZ p):=by
 unfold KE qam QZ
 refine zT rfl (fun h=>?_) fun h=>?_
 ·rw [h]
  refine qn (ql7 _ _ _) <| zT rfl (fun h1=>?_) fun h1=>qw (by rw [h1]; rfl)
  refine qn (ql7 _ _ _) <| zT rfl (fun h2=>?_) fun h2=>qw (by rw [h1,h2]; rfl)
  exact qw (by rw [h1,h2]; rfl)
 ·rw [h]
  exact zT (qtF _ _) (fun h1=>qn (ql7 _ _ _) (qw (by rw [show decide (p=(false,0,0,p.Lit))=true from h1]; rfl))) fun h1=>qw (by rw [show decide (p=(false,0,0,p.Lit))=false from h1]; rfl)
def Ye (l:List qb) (k:Nat):Int:=((l.take k).map fun p=>p.Len + ((p.Lit.length:Nat):Int)).sum
def vh (l:List qb):Bool:=VZ (fun k=>QZ (l.getD k zP)) l.length&&decide (l.length≤60)&&decide (Ye l l.length≤200)
theorem qj7 {l:List qb} {k:Nat} (h:k < l.length):Ye l (k + 1)=Ye l k + ((l.getD k zP).Len + (((l.getD k zP).Lit.length:Nat):Int)):=by
 unfold Ye
 rw [qb3 (d:=zP) h,List.map_append,List.sum_append]; simp
theorem qjS {p:qb} (h:QZ p=true):0≤p.Len + ((p.Lit.length:Nat):Int)∧p.Len + ((p.Lit.length:Nat):Int)≤200∧0≤p.Len:=by
 unfold QZ inP at h
 cases e:p.JV with
 | true=>
  rw [e,cond_true] at h
  simp only [Bool.and_eq_true,decide_eq_true_eq] at h
  obtain ⟨⟨_,h1,h2⟩,h3⟩:=h
  rw [h3]; simp only [List.length_nil]; omega
 | false=>
  rw [e,cond_false] at h
  simp only [Bool.and_eq_true,decide_eq_true_eq] at h
  obtain ⟨h1,h2,h3⟩:=h
  have:p.Len=0:=by rw [h1]; rfl
  omega
theorem qpb {l:List qb}:∀ {k:Nat},k≤l.length→(∀ j,j < k→QZ (l.getD j zP)=true)→0≤Ye l k∧Ye l k≤200 * (k:Int)
 | 0,_,_=>by unfold Ye; simp
 | k + 1,hk,h=>by
  have h1:=qpb (k:=k) (by omega) fun j hj=>h j (by omega)
  have h2:=qjS (h k (by omega))
  rw [qj7 (by omega)]; omega
theorem qh7 {V W Y : Type} {B : V → Tree (V ⊕ W)} {g : W → Option Y} {at_ : Nat → V} {q : Nat → Bool} {n : Nat} {hit fin : W}
    (h1:∀ k,k < n→(∀ j,j < k→q j=true)→(B (at_ k)).run some=some (if q k then .inl (at_ (k + 1)) else .inr hit)) (h2:(B (at_ n)).run some=some (.inr fin)) :
    ∀ (m k:Nat),k + m=n→∀ N,m < N→(∀ j,j < k→q j=true)→zG B g N (at_ k)=g (if VZ q n then fin else hit)
 | 0,k,hk,N + 1,_,hq=>by
  obtain rfl:k=n:=by omega
  rw [Xj h2,if_pos (JE.2 hq)]
 | m + 1,k,hk,N + 1,hN,hq=>by
  have h:=h1 k (by omega) hq
  cases e:q k with
  | true=>
   rw [e,if_pos rfl] at h
   rw [K3 h]
   exact qh7 h1 h2 m (k + 1) (by omega) N (by omega) fun j hj=>by
    by_cases ej:j=k
    ·rw [ej]; exact e
    ·exact hq j (by omega)
  | false=>
   rw [e,if_neg (by simp)] at h
   rw [Xj h,if_neg (fun ha=>by have:=JE.1 ha k (by omega); rw [e] at this; cases this)]
 | _,_,_,0,hN,_=>by omega
section
variable {N:Nat} [Vx N]
theorem qr4 {l : List qb} (hl : l.length < N) (hl2 : l.length ≤ 1000000000000000) :
    Y9 N l l ((l.length:Nat):Int) 0 0=some (if VZ (fun k=>QZ (l.getD k zP)) l.length then .inr (Ye l l.length,((l.length:Nat):Int),false) else .inl ()):=by
 refine (qh7 (B:=Vp N l l ((l.length:Nat):Int)) (g:=some) (at_:=fun k=>(Ye l k,(k:Int))) (q:=fun k=>QZ (l.getD k zP)) (n:=l.length) (hit:=.inl ()) (fin:=.inr (Ye l l.length,((l.length:Nat):Int),false)) (fun k hk hq=>?_) ?_ l.length 0 (by omega) N (by omega) (fun j hj=>by omega)).trans ?_
 ·unfold Vp
  refine w_t (dec_lt hk) <| qn (XZ (d:=zP) hk) <| qn (quJ _) <| zT rfl (fun h=>?_) fun h=>?_
  ·have h':QZ (l.getD k zP)=false:=by rw [Bool.not_eq_true'] at h; exact h
   rw [h']; exact qw rfl
  ·have h':QZ (l.getD k zP)=true:=by rw [Bool.not_eq_false'] at h; exact h
   have h1:=qpb (k:=k) (Nat.le_of_lt hk) hq
   have h2:=qjS h'
   rw [h']
   refine qF (show qx ((l.getD k zP).Len + (((l.getD k zP).Lit.length:Nat):Int)) by unfold qx; omega) <| qF (show qx (Ye l k + ((l.getD k zP).Len + (((l.getD k zP).Lit.length:Nat):Int))) by unfold qx; omega) <| qF (Vc (by omega)) <| qw ?_
   rw [if_pos rfl,qj7 hk,Q6]
 ·unfold Vp
  exact w_f (vF (Nat.lt_irrefl _)) (qw (by rw [vF (Nat.lt_irrefl _)]))
 ·split<;>rfl
theorem qd0 {l:List qb} (hl:l.length < N) (hl2:l.length≤1000000000000000):Xn N l=some (vh l):=by
 unfold Xn qal vh
 refine qn (qr4 hl hl2) ?_
 cases VZ (fun k=>QZ (l.getD k zP)) l.length with
 | false=>rfl
 | true=>
  refine w_r rfl <| zT (c:=decide (l.length≤60)) (decide_eq_decide.2 (by omega)) (fun h=>qw ?_) fun h=>qw ?_
  ·rw [h]; rfl
  ·rw [h]; rfl
end
section
variable {N:Nat}
theorem qtU {l m : List qb} (hl : l.length < N) (hm : m.length = l.length) (hl2 : l.length ≤ 1000000000000000) :
    Zt N l m ((l.length:Nat):Int) 0=some (if VZ (fun k=>decide (l.getD k zP=m.getD k zP)) l.length then .inr (((l.length:Nat):Int),false) else .inl ()):=by
 refine (qjz (B:=vq N l m ((l.length:Nat):Int)) (g:=some) (q:=fun k=>decide (l.getD k zP=m.getD k zP)) (n:=l.length) (hit:=()) (fun k hk=>?_) ?_ hl)
 ·unfold vq
  refine w_t (dec_lt hk) <| qn (XZ (d:=zP) hk) <| qn (XZ (d:=zP) (by omega)) <| zT rfl (fun h=>?_) fun h=>?_
  ·have h':decide (l.getD k zP=m.getD k zP)=false:=by rw [qtF,Bool.not_eq_true'] at h; exact h
   rw [h']; exact qw rfl
  ·have h':decide (l.getD k zP=m.getD k zP)=true:=by rw [qtF,Bool.not_eq_false'] at h; exact h
   rw [h']; exact qF (Vc (by omega)) <| qw (by rw [Q6]; rfl)
 ·unfold vq
  exact w_f (vF (Nat.lt_irrefl _)) (qw (by rw [vF (Nat.lt_irrefl _)]))
theorem qkQ {α:Type} {d:α} {l m:List α} (h:m.length=l.length) (hg:∀ k,k < l.length→l.getD k d=m.getD k d):l=m:=by
 refine List.ext_getElem h.symm fun i h1 h2=>?_
 have:=hg i h1
 rw [List.getD_eq_getElem?_getD,List.getD_eq_getElem?_getD,List.getElem?_eq_getElem h1,List.getElem?_eq_getElem h2] at this
 exact this
theorem qt0 {l m:List qb} (hl:l.length < N) (hl2:l.length≤1000000000000000):Ys N l m=some (decide (l=m)):=by
 have e:QU N l m=some (decide (l=m)):=by
  unfold QU ZW
  by_cases hm:m.length=l.length
  ·refine w_f (by rw [decide_eq_true (by omega)]; rfl) <| qn (qtU hl hm hl2) ?_
   cases e:VZ (fun k=>decide (l.getD k zP=m.getD k zP)) l.length with
   | true=>
    have:l=m:=qkQ hm fun k hk=>of_decide_eq_true (JE.1 e k hk)
    exact w_r rfl (qw (by rw [decide_eq_true this]))
   | false=>
    have:¬ l=m:=fun h=>by
     rw [JE.2 (fun k _=>by rw [h]; exact decide_eq_true rfl)] at e; cases e
    exact w_l rfl (qw (by rw [decide_eq_false this]))
  ·exact w_t (by rw [decide_eq_false (by omega)]; rfl) (qw (by rw [decide_eq_false (fun h=>hm (by rw [h]))]))
 unfold Ys Kc
 exact qn e (qw rfl)
theorem qw8 (a b:Vector UInt8 32):eqE (.ba 32) a b=decide (a=b):=Bool.eq_iff_iff.2 ((QN (.ba 32) a b).trans (decide_eq_true_iff (p:=(a:Vector UInt8 32)=b)).symm)
theorem qke {a b:qa} (hl:(qa.P a).length < N) (hl2:(qa.P a).length≤1000000000000000):YA N a b=some (decide (a=b)):=by
 unfold YA qdm
 have no:∀ {p:Prop} [Decidable p],(a=b→p)→decide p=false→some false=some (decide (a=b)):=fun hp h=>by rw [decide_eq_false (fun e=>of_decide_eq_false h (hp e))]
 refine zT (qwt _ _) (fun h1=>?_) fun h1=>qw (no (fun e=>by rw [e]) h1)
 refine zT (qwt _ _) (fun h2=>?_) fun h2=>qw (no (fun e=>by rw [e]) h2)
 refine zT rfl (fun h3=>?_) fun h3=>qw (no (fun e=>by rw [e]) h3)
 refine zT rfl (fun h4=>?_) fun h4=>qw (no (fun e=>by rw [e]) h4)
 refine zT rfl (fun h5=>?_) fun h5=>qw (no (fun e=>by rw [e]) h5)
 refine zT (quD _ _) (fun h6=>?_) fun h6=>qw (no (fun e=>by rw [e]) h6)
 refine zT rfl (fun h7=>?_) fun h7=>qw (no (fun e=>by rw [e]) h7)
 refine zT (qw8 _ _) (fun h8=>?_) fun h8=>qw (no (fun e=>by rw [e]) h8)
 refine qn (qt0 hl hl2) <| qw ?_
 have key:qa.P a=qa.P b↔a=b:=by
  obtain ⟨a1,a2,a3,a4,a5,a6,a7,a8,a9⟩:=a
  obtain ⟨b1,b2,b3,b4,b5,b6,b7,b8,b9⟩:=b
  have e1:a2=b2:=of_decide_eq_true h1
  have e2:a7=b7:=of_decide_eq_true h2
  have e3:a4=b4:=of_decide_eq_true h3
  have e4:a8=b8:=of_decide_eq_true h4
  have e5:a1=b1:=of_decide_eq_true h5
  have e6:a3=b3:=of_decide_eq_true h6
  have e7:a5=b5:=of_decide_eq_true h7
  have e8:a9=b9:=of_decide_eq_true h8
  subst e1 e2 e3 e4 e5 e6 e7 e8
  exact ⟨fun h=>by have h:a6=b6:=h; rw [h],fun h=>by rw [h]⟩
 exact congrArg some (decide_eq_decide.2 key)
end
theorem qj5 (a:Int):WQ a=some (decide (0≤a)&&decide (a < 8)):=by
 unfold WQ qaI
 exact zT rfl (fun h=>qw (by rw [h]; rfl)) fun h=>qw (by rw [h]; rfl)
end Go.Rx
end
set_option maxRecDepth 100000
noncomputable section
namespace Go.Rx
open Go.Proofs
abbrev zI:Vector UInt8 16:=Vector.replicate 16 0
abbrev zD:Vector UInt8 32:=Vector.replicate 32 0
def KW (o:qa):qa:=
 if o.Kind=1 then .mk o.Kind o.ID o.S o.No o.V [] zI 0 zD
 else if o.Kind=2 then .mk o.Kind o.ID o.S o.No [] [] o.jK o.je o.D
 else if o.Kind=3 then .mk o.Kind o.ID o.S o.No [] o.P zI 0 o.D
 else .mk o.Kind o.ID o.S 0 [] [] zI 0 zD
def qm6 (a:Int):Bool:=decide (0≤a)&&decide (a < 8)
def opB (o:qa):Bool:=!decide (o.Kind < 0)&&!decide (4≤o.Kind)&&decide (o=KW o)&&!decide (o.S=zSt)&&stB o.S&&qm6 o.No&&qm6 o.je&&decide ((o.V.length:Int)≤200)&&vh o.P
theorem qvP (o:qa):qeV o=some (KW o):=by
 unfold qeV qdI KW
 refine zT rfl (fun h=>qw ?_) fun h=>zT rfl (fun h2=>qw ?_) fun h2=>zT rfl (fun h3=>qw ?_) fun h3=>qw ?_
 ·rw [if_pos (of_decide_eq_true h)]
 ·rw [if_neg (of_decide_eq_false h),if_pos (of_decide_eq_true h2)]
 ·rw [if_neg (of_decide_eq_false h),if_neg (of_decide_eq_false h2),if_pos (of_decide_eq_true h3)]
 ·rw [if_neg (of_decide_eq_false h),if_neg (of_decide_eq_false h2),if_neg (of_decide_eq_false h3)]
section
variable {N:Nat} [Vx N]
theorem qgz {o:qa} (hl:(qa.P o).length < N) (hl2:(qa.P o).length≤1000000000000000):QX N o=some (opB o):=by
 unfold QX qgq opB
 refine zT rfl (fun h1=>qw (by rw [h1]; rfl)) fun h1=>?_
 refine zT rfl (fun h2=>qw (by rw [h1,h2]; rfl)) fun h2=>?_
 refine qn (qvP o) <| qn (qke hl hl2) ?_
 refine zT rfl (fun h3=>qw ?_) fun h3=>?_
 ·rw [Bool.not_eq_true'] at h3
  rw [h1,h2,h3]; rfl
 rw [Bool.not_eq_false'] at h3
 refine zT (quD _ _) (fun h4=>qw ?_) fun h4=>?_
 ·have h4:decide (o.S=zSt)=true:=h4
  rw [h1,h2,h3,h4]; rfl
 have h4:decide (o.S=zSt)=false:=h4
 refine qn (qfV _) <| zT rfl (fun h5=>?_) fun h5=>qw (by rw [h1,h2,h3,h4,h5]; rfl)
 refine qn (qj5 _) <| zT (show _=qm6 o.No from rfl) (fun h6=>?_) fun h6=>qw (by rw [h1,h2,h3,h4,h5,h6]; rfl)
 refine qn (qj5 _) <| zT (show _=qm6 o.je from rfl) (fun h7=>?_) fun h7=>qw (by rw [h1,h2,h3,h4,h5,h6,h7]; rfl)
 refine zT rfl (fun h8=>?_) fun h8=>qw (by rw [h1,h2,h3,h4,h5,h6,h7,h8]; rfl)
 exact qn (qd0 hl hl2) <| qw (by rw [h1,h2,h3,h4,h5,h6,h7,h8]; rfl)
end
end Go.Rx
end
set_option maxRecDepth 100000
noncomputable section
namespace Go.Rx
open Go.Proofs
def Z3 (a:List (List UInt8)):Nat:=(a.map List.length).sum
theorem qd8 (a:List (List UInt8)):a.flatten.length=Z3 a:=by unfold Z3; rw [List.length_flatten]
theorem qrL {a:List (List UInt8)} {k:Nat} (h:k < a.length):Z3 (a.take (k + 1))=Z3 (a.take k) + (a.getD k []).length:=by
 unfold Z3; rw [qb3 (d:=[]) h,List.map_append,List.sum_append]; simp
theorem qjX (a:List (List UInt8)) (k:Nat):Z3 (a.take k)≤Z3 a:=by
 have:Z3 a=Z3 (a.take k) + Z3 (a.drop k):=by
  unfold Z3; rw [← List.sum_append,← List.map_append,List.take_append_drop]
 omega
section
variable {N:Nat}
theorem qsO {a : List (List UInt8)} (hN : a.length < N) (h : Z3 a ≤ 1000000000000) (ha : a.length ≤ 1000000000000) :
    Zy N a a ((a.length:Nat):Int) 0 0=some ((Z3 a:Int),((a.length:Nat):Int),false):=by
 refine WO (σ:=Unit) (B:=vA N a a ((a.length:Nat):Int)) (g:=some) (at_:=fun k _=>((Z3 (a.take k):Int),(k:Int))) (I:=fun _ _=>True) (f:=fun _ s=>s) (n:=a.length)
  (fin:=fun _=>((Z3 a:Int),((a.length:Nat):Int),false)) (fun k s hk _=>⟨?_,trivial⟩) (fun s _=>?_) N 0 () trivial (Nat.zero_le _) (by omega)
 ·have h1:=qrL hk
  have h2:=qjX a (k + 1)
  unfold vA
  refine w_t (dec_lt hk) <| qn (XZ (d:=[]) hk) <| qF (show qx ((Z3 (a.take k):Int) + (((a.getD k []).length:Nat):Int)) by unfold qx; omega) <| w_f (decide_eq_false (by show ¬ ((Z3 (a.take k):Int) + (((a.getD k []).length:Nat):Int) < 0); omega)) <| qF (Vc (by omega)) <| qw ?_
  rw [Q6,h1,Int.natCast_add]; rfl
 ·unfold vA
  exact w_f (vF (Nat.lt_irrefl _)) (qw (by rw [vF (Nat.lt_irrefl _),List.take_of_length_le (Nat.le_refl _)]))
theorem qqb {a : List (List UInt8)} (hN : a.length < N) (h : Z3 a ≤ 1000000000000) (ha : a.length ≤ 1000000000000) :
    jC N a ((a.length:Nat):Int) [] 0=some (a.flatten,((a.length:Nat):Int),false):=by
 refine WO (σ:=Unit) (B:=j4 N a ((a.length:Nat):Int)) (g:=some) (at_:=fun k _=>((a.take k).flatten,(k:Int))) (I:=fun _ _=>True) (f:=fun _ s=>s) (n:=a.length)
  (fin:=fun _=>(a.flatten,((a.length:Nat):Int),false)) (fun k s hk _=>⟨?_,trivial⟩) (fun s _=>?_) N 0 () trivial (Nat.zero_le _) (by omega)
 ·have eT:(a.take k).flatten++a.getD k []=(a.take (k + 1)).flatten:=by rw [qb3 (d:=[]) hk,List.flatten_append]; simp
  have hl:(a.take (k + 1)).flatten.length≤1000000000000:=by rw [qd8]; have:=qjX a (k + 1); omega
  unfold j4
  refine w_t (dec_lt hk) <| qn (XZ (d:=[]) hk) ?_
  show (Tree.chk (W4 _ _ ((a.take k).flatten++a.getD k []).length 1) _).run some=_
  refine qF ⟨rfl,by rw [eT]; unfold qN; omega⟩ <| qF (Vc (by omega)) <| qw ?_
  rw [Q6,← eT]
 ·unfold j4
  exact w_f (vF (Nat.lt_irrefl _)) (qw (by rw [vF (Nat.lt_irrefl _),List.take_of_length_le (Nat.le_refl _)]))
theorem qty {n:Nat} (h:n≤1000000000000):∃ z,ZY (n:Int)=some z:=by
 unfold ZY JT
 by_cases h0:n=0
 ·exact ⟨_,w_f (decide_eq_false (by omega)) <| qF (by unfold qx; omega) <| w_f (decide_eq_false (by omega)) <| qw rfl⟩
 ·exact ⟨_,w_f (decide_eq_false (by omega)) <| qF (by unfold qx; omega) <| w_t (decide_eq_true (by omega)) <| qF ⟨by omega,by unfold qN; omega⟩ <| qw rfl⟩
theorem qjU {a:List (List UInt8)} (hN:a.length < N) (h:Z3 a≤1000000000000) (ha:a.length≤1000000000000):zg N a=some a.flatten:=by
 obtain ⟨z,ez⟩:=qty h
 unfold zg ZM
 refine qn (qsO hN h ha) <| qn ez ?_
 have e:QW [(([]:List UInt8).length,0)] (jC N a ((a.length:Nat):Int) [] 0)=some (a.flatten,((a.length:Nat):Int),false):=(qjP rfl).trans (qqb hN h ha)
 cases z with
 | inl _=>exact w_l rfl <| qn e <| qF rfl <| qw rfl
 | inr _=>exact w_r rfl <| qn e <| qF rfl <| qw rfl
end
end Go.Rx
end
set_option maxRecDepth 100000
noncomputable section
namespace Go.Rx
end Go.Rx
end
set_option maxRecDepth 100000
noncomputable section
namespace Go.Rx
open Go.Proofs
end Go.Rx
end
set_option maxRecDepth 100000
noncomputable section
namespace Go.Rx
open Go.Proofs
theorem V9 (n:Int):inB (IntKind.u8.wrap n):=by
 unfold inB
 have:IntKind.u8.wrap n=n % 256:=by simp [IntKind.wrap,IntKind.bits,IntKind.signed]
 rw [this]; omega
theorem qwP (n:Nat):IntKind.u8.wrap ((n:Nat):Int)=((n % 256:Nat):Int):=by
 have:IntKind.u8.wrap ((n:Nat):Int)=((n:Nat):Int) % 256:=by simp [IntKind.wrap,IntKind.bits,IntKind.signed]
 rw [this]; omega
theorem qbl (n j:Nat):Qd ((n:Nat):Int) j=((n / 2 ^ j:Nat):Int):=by
 unfold Qd
 rw [show ((2:Int) ^ j)=((2 ^ j:Nat):Int) by push_cast; rfl,Int.fdiv_eq_ediv_of_nonneg _ (Int.natCast_nonneg _),← Int.natCast_ediv]
theorem qrR (a b:Int):inB (uOr .u8 a b):=V9 _
theorem qkn (a b:Int):inB (jx .u8 a b):=V9 _
end Go.Rx
end
set_option maxRecDepth 100000
noncomputable section
namespace Go.Rx
open Go.Proofs
theorem least {P:Nat→Prop} [DecidablePred P]:∀ n,P n→∃ K,K≤n∧P K∧∀ k < K,¬ P k
 | 0,h=>⟨0,Nat.le_refl _,h,fun k hk=>by omega⟩
 | n + 1,h=>by
  by_cases e:∃ j,j≤n∧P j
  ·obtain ⟨j,hj,pj⟩:=e
   obtain ⟨K,h1,h2,h3⟩:=least j pj
   exact ⟨K,by omega,h2,h3⟩
  ·exact ⟨n + 1,Nat.le_refl _,h,fun k hk pk=>e ⟨k,by omega,pk⟩⟩
 termination_by n=>n
 decreasing_by omega
theorem qrq {x:Nat} (h:x < 18446744073709551616):∃ K,K≤9∧x / 128 ^ K < 128∧∀ k < K,128≤x / 128 ^ k:=by
 obtain ⟨K,h1,h2,h3⟩:=least (P:=fun k=>x / 128 ^ k < 128) 9 (by show x / 9223372036854775808 < 128; omega)
 exact ⟨K,h1,h2,fun k hk=>by have:=h3 k hk; omega⟩
theorem JZ (x k:Nat):x / 128 ^ k / 128=x / 128 ^ (k + 1):=by rw [Nat.div_div_eq_div_mul,Nat.pow_succ]
def hiB (x k:Nat):UInt8:=UInt8.ofNat (x / 128 ^ k % 128 + 128)
def loB (x:Nat):UInt8:=UInt8.ofNat (x % 128)
def dn (x:Nat):Nat→List UInt8
 | 0=>[loB x]
 | k + 1=>hiB x (k + 1)::dn x k
def cdn (x:Nat):Nat→List UInt8
 | 0=>[]
 | k + 1=>hiB x k::cdn x k
theorem qhZ (x:Nat):∀ k,(dn x k).length=k + 1
 | 0=>rfl
 | k + 1=>by unfold dn; rw [List.length_cons,qhZ x k]
theorem Xh (x:Nat):∀ k,(cdn x k).length=k
 | 0=>rfl
 | k + 1=>by unfold cdn; rw [List.length_cons,Xh x k]
theorem qiZ (x:Nat):∀ k,(cdn x (k + 1)).set k (loB x)=dn x k
 | 0=>rfl
 | k + 1=>by
  show hiB x (k + 1)::(cdn x (k + 1)).set k (loB x)=_
  rw [qiZ x k]; rfl
theorem qi5 (x:Nat):∀ k,(cdn x (k + 1)).getD k 0=hiB x 0
 | 0=>rfl
 | k + 1=>by
  show (hiB x (k + 1)::cdn x (k + 1)).getD (k + 1) 0=_
  rw [List.getD_cons_succ]; exact qi5 x k
section
variable {N:Nat} [Vx N]
theorem qho {x K:Nat} (hK:K≤9) (h1:x / 128 ^ K < 128) (h2:∀ k < K,128≤x / 128 ^ k):VF N (x:Int)=some ((K + 1:Nat):Int):=by
 have e7:∀ y:Nat,Qd ((y:Nat):Int) 7=((y / 128:Nat):Int):=fun y=>qbl y 7
 have key:We N ((x / 128 ^ 1:Nat):Int) 1=some (((x / 128 ^ (K + 1):Nat):Int),((K + 1:Nat):Int),false):=by
  refine (WO (σ:=Unit) (B:=Z0 N) (g:=some) (at_:=fun k _=>(((x / 128 ^ (k + 1):Nat):Int),((k + 1:Nat):Int))) (I:=fun _ _=>True) (f:=fun _ s=>s) (n:=K)
   (fin:=fun _=>(((x / 128 ^ (K + 1):Nat):Int),((K + 1:Nat):Int),false)) (fun k s hk _=>⟨?_,trivial⟩) (fun s _=>?_) N 0 () trivial (Nat.zero_le _) (by have:=big N; omega))
  ·have hb:=h2 k hk
   have d:decide ((0:Int) < ((x / 128 ^ (k + 1):Nat):Int))=true:=decide_eq_true (by rw [← JZ]; omega)
   have c1:qx (((k + 1:Nat):Int) + 1):=by unfold qx; omega
   unfold Z0
   rw [qci,d,cond_true,Jk,ja c1,Jk,ja (by omega),qeY,e7,JZ,Q6]
  ·have d:decide ((0:Int) < ((x / 128 ^ (K + 1):Nat):Int))=false:=decide_eq_false (by rw [← JZ]; omega)
   unfold Z0
   rw [qci,d,cond_false,qeY]
 unfold VF Yf
 rw [Jk,ja (by omega),run_bind,e7]
 rw [Nat.pow_one] at key
 rw [key,Option.bind_some,qeY]
theorem qwK:∀ z < 256,uOr .u8 ((z:Nat):Int) 128=((z % 128 + 128:Nat):Int):=by decide +kernel
theorem qpd:∀ z < 128,jx .u8 ((z + 128:Nat):Int) 128=((z:Nat):Int):=by decide +kernel
theorem drop_set {l:List UInt8} {i:Nat} {c:UInt8} (h:i < l.length):(l.set i c).drop i=c::l.drop (i + 1):=by
 rw [List.drop_eq_getElem_cons (by rw [List.length_set]; exact h),List.getElem_set_self,List.drop_set_of_lt (by omega)]
theorem qo9 {x r:Nat} (hr:r≤10):WD N (x:Int) (r:Int) r (r:Int) (List.replicate r 0) 0=some (cdn x r,(r:Int),false):=by
 have h:=qb9 (B:=VT N (x:Int) (r:Int) r (r:Int)) (g:=some) (I:=fun v=>v.1.length=r∧∃ k:Nat,k≤r∧v.2=(k:Int)∧v.1.drop (r - k)=cdn x k) (Q:=fun y=>y=(cdn x r,(r:Int),false)) (fun v=>r - v.2.toNat) ?_ N (List.replicate r 0,0)
  ⟨by simp,0,Nat.zero_le _,rfl,by simp [cdn]⟩ (by have:=big N; simp; omega)
 ·obtain ⟨y,e,rfl⟩:=h
  exact e
 rintro ⟨l,v⟩ ⟨hl,k,hk,hv,hd⟩
 simp only at hl hv hd
 subst hv
 by_cases h:k < r
 ·left
  have c1:qx ((r:Int) - 1):=by unfold qx; omega
  have c2:qx ((r:Int) - 1 - (k:Int)):=by unfold qx; omega
  have c3:qx ((7:Int) * (k:Int)):=by unfold qx; omega
  have c4:(0:Int)≤(7:Int) * (k:Int):=by omega
  have c5:(0:Int)≤(r:Int) - 1 - (k:Int)∧(r:Int) - 1 - (k:Int) < ((r:Nat):Int):=by omega
  have c6:X0 l.length r ((r:Int) - 1 - (k:Int)).toNat:=⟨hl,by omega⟩
  have c7:qx ((k:Int) + 1):=by unfold qx; omega
  have hb:UInt8.ofNat (uOr .u8 (IntKind.u8.wrap (Qd ((x:Nat):Int) (min ((7:Int) * (k:Int)).toNat 64))) 128).toNat=hiB x k:=by
   rw [show min ((7:Int) * (k:Int)).toNat 64=7 * k by omega,qbl,qwP,qwK _ (Nat.mod_lt _ (by omega)),Int.toNat_natCast,Nat.pow_mul,Nat.mod_mod_of_dvd _ (by decide)]
   rfl
  refine ⟨(l.set ((r:Int) - 1 - (k:Int)).toNat (hiB x k),((k + 1:Nat):Int)),?_,⟨?_,k + 1,h,rfl,?_⟩,?_⟩
  ·unfold VT
   rw [qci,dec_lt h,cond_true,Jk,ja c1,Jk,ja c2,Jk,ja c3,Jk,ja c4]
   rw [← hb]
   show chk _ (chk _ (chk _ (chk _ _)))=_
   rw [ja c5,ja c6,ja (qrR _ _),ja c7,Q6]
   rfl
  ·simp only [List.length_set]; exact hl
  ·show (l.set ((r:Int) - 1 - (k:Int)).toNat (hiB x k)).drop (r - (k + 1))=hiB x k::cdn x k
   rw [show ((r:Int) - 1 - (k:Int)).toNat=r - (k + 1) by omega,drop_set (by omega),show r - (k + 1) + 1=r - k by omega,hd]
  ·simp only [Int.toNat_natCast]; omega
 ·right
  obtain rfl:k=r:=by omega
  rw [Nat.sub_self,List.drop_zero] at hd
  refine ⟨(l,((k:Nat):Int),false),_,?_,rfl,by rw [hd]⟩
  unfold VT
  rw [qci,vF (Nat.lt_irrefl k),cond_false,qeY]
theorem quB {x K:Nat} (hK:K≤9) (h1:x / 128 ^ K < 128) (h2:∀ k < K,128≤x / 128 ^ k):J1 N (x:Int)=some (dn x K,K + 1):=by
 have e1:=qho (N:=N) hK h1 h2
 have e2:=qo9 (N:=N) (x:=x) (r:=K + 1) (by omega)
 have hrl:(List.replicate ((K + 1:Nat):Int).toNat (0:UInt8)).length=K + 1:=by simp
 have e3:WD N (x:Int) ((K + 1:Nat):Int) (List.replicate ((K + 1:Nat):Int).toNat (0:UInt8)).length ((K + 1:Nat):Int) (List.replicate ((K + 1:Nat):Int).toNat (0:UInt8)) 0=some (cdn x (K + 1),((K + 1:Nat):Int),false):=by
  rw [hrl]; exact e2
 have c1:Kp ((K + 1:Nat):Int) ((K + 1:Nat):Int) 1:=⟨rfl,by omega,by unfold qN; omega⟩
 have c2:qx (((K + 1:Nat):Int) - 1):=by unfold qx; omega
 have c3:(0:Int)≤((K + 1:Nat):Int) - 1∧((K + 1:Nat):Int) - 1 < ((K + 1:Nat):Int):=by omega
 have en:(((K + 1:Nat):Int) - 1).toNat=K:=by omega
 have hg:Kr (cdn x (K + 1)) (K + 1) (((K + 1:Nat):Int) - 1).toNat=some (hiB x 0):=by
  rw [en,qsj (d:=0) (Xh x (K + 1)) (by rw [Xh]; omega),qi5]
 have c4:X0 (cdn x (K + 1)).length (K + 1) (((K + 1:Nat):Int) - 1).toNat:=⟨Xh _ _,by omega⟩
 have hb:UInt8.ofNat (jx .u8 (((hiB x 0).toNat:Nat):Int) 128).toNat=loB x:=by
  have:(hiB x 0).toNat=x % 128 + 128:=by
   unfold hiB
   rw [Nat.pow_zero,Nat.div_one,UInt8.toNat_ofNat_of_lt' (show x % 128 + 128 < UInt8.size by unfold UInt8.size; omega)]
  rw [this,qpd _ (Nat.mod_lt _ (by omega)),Int.toNat_natCast]
  rfl
 unfold J1 qbA
 rw [run_bind,e1,Option.bind_some,Jk,ja c1,run_bind,e3,Option.bind_some,Jk,ja c2,hrl,Jk,ja c3,run_bind,hg,Option.bind_some]
 show chk _ (chk _ (chk _ _))=_
 rw [ja c3,ja c4,ja (qkn _ _),← qiZ,← hb,en]
 rfl
end
end Go.Rx
end
set_option maxRecDepth 100000
noncomputable section
namespace Go.Rx
open Go.Proofs
end Go.Rx
end
set_option maxRecDepth 100000
noncomputable section
namespace Go.Rx
open Go.Proofs
end Go.Rx
end
set_option maxRecDepth 100000
noncomputable section
namespace Go.Rx
open Go.Proofs
end Go.Rx
end
set_option maxRecDepth 100000
noncomputable section
namespace Go.Rx
open Go.Proofs
end Go.Rx
end
set_option maxRecDepth 100000
noncomputable section
namespace Go.Rx
open Go.Proofs
end Go.Rx
end
set_option maxRecDepth 100000
noncomputable section
namespace Go.Rx
open Go.Proofs
end Go.Rx
end
set_option maxRecDepth 100000
noncomputable section
namespace Go.Rx
open Go.Proofs
end Go.Rx
end
set_option maxRecDepth 100000
noncomputable section
namespace Go.Rx
open Go.Proofs
theorem Qa {n:Nat} (h:n < 18446744073709551616):IntKind.u64.wrap ((n:Nat):Int)=((n:Nat):Int):=by
 have:IntKind.u64.wrap ((n:Nat):Int)=((n:Nat):Int) % 18446744073709551616:=by simp [IntKind.wrap,IntKind.bits,IntKind.signed]
 rw [this]; omega
end Go.Rx
end
set_option maxRecDepth 100000
noncomputable section
namespace Go.Rx
open Go.Proofs
end Go.Rx
end
set_option maxRecDepth 100000
noncomputable section
namespace Go.Rx
open Go.Proofs
end Go.Rx
end
set_option maxRecDepth 100000
noncomputable section
namespace Go.Rx
open Go.Proofs
end Go.Rx
end
set_option maxRecDepth 100000
noncomputable section
namespace Go.Rx
open Go.Proofs
end Go.Rx
end
set_option maxRecDepth 100000
noncomputable section
namespace Go.Rx
open Go.Proofs
end Go.Rx
end
set_option maxRecDepth 100000
noncomputable section
namespace Go.Rx
open Go.Proofs
section
variable {N:Nat} [Vx N]
theorem qhS {s:qi} (h:stB s=true):0≤s.1∧s.1≤1099511627776∧0≤s.2∧s.2 < 8:=by
 unfold stB at h
 by_cases hz:s=zSt
 ·subst hz
  exact ⟨Int.le_refl _,by decide,Int.le_refl _,by decide⟩
 ·rw [decide_eq_false hz] at h
  simp only [Bool.false_or,Bool.and_eq_true,decide_eq_true_iff] at h
  omega
theorem qwn {s:qi} (h:stB s=true):uOr .u64 (Jq .u64 (IntKind.u64.wrap s.1) 3) (IntKind.u64.wrap s.2)=IntKind.u64.wrap ((8:Int) * s.1 + s.2):=by
 obtain ⟨n,r⟩:=s
 obtain ⟨h0,h1,h2,h3⟩:=qhS h
 dsimp only at h0 h1 h2 h3 ⊢
 obtain ⟨x,rfl⟩:∃ x:Nat,n=(x:Int):=⟨n.toNat,by omega⟩
 obtain ⟨y,rfl⟩:∃ y:Nat,r=(y:Int):=⟨r.toNat,by omega⟩
 rw [Qa (by omega),Qa (by omega),show (8:Int) * (x:Int) + (y:Int)=((8 * x + y:Nat):Int) by omega,Qa (by omega)]
 unfold Jq
 rw [show ((x:Nat):Int) * 2 ^ 3=((8 * x:Nat):Int) by omega,Qa (by omega)]
 refine (u64_or_nat (8 * x) y (by omega) (by omega)).trans ?_
 rw [show 8 * x=2 ^ 3 * x by omega,← Nat.two_pow_add_eq_or_of_lt (by omega)]
end
end Go.Rx
end
set_option maxRecDepth 100000
noncomputable section
namespace Go.Rx
open Go.Proofs
open Go.Lib (compareBytes)
end Go.Rx
end
set_option maxRecDepth 100000
noncomputable section
namespace Go.Rx
open Go.Proofs
end Go.Rx
end
set_option maxRecDepth 100000
noncomputable section
namespace Go.Rx
open Go.Proofs
end Go.Rx
end
set_option maxRecDepth 100000
noncomputable section
namespace Go.Rx
open Go.Proofs
end Go.Rx
end
set_option maxRecDepth 100000
noncomputable section
namespace Go.Rx
open Go.Proofs
theorem qr2 {α:Type} {d:α} {l:List α} {k:Nat} (h:k < l.length):l.drop k=l.getD k d::l.drop (k + 1):=by
 rw [List.drop_eq_getElem_cons h,List.getD_eq_getElem?_getD,List.getElem?_eq_getElem h]; rfl
end Go.Rx
end
set_option maxRecDepth 100000
noncomputable section
namespace Go.Rx
open Go.Proofs
structure Cod {α:Type} (V:α→Prop) (put:α→List UInt8) (get:List UInt8→Option (α×Nat)):Prop where
 back:∀ a r,V a→get (put a++r)=some (a,(put a).length)
 forth:∀ b a n,get b=some (a,n)→V a∧n≤b.length∧b.take n=put a
theorem Cod.cut {α:Type} {V:α→Prop} {put:α→List UInt8} {get:List UInt8→Option (α×Nat)} (C:Cod V put get) {a:α} (h:V a) {k:Nat} (hk:k < (put a).length):get ((put a).take k)=none:=by
 cases e:get ((put a).take k) with
 | none=>rfl
 | some x=>
  obtain ⟨a',n⟩:=x
  obtain ⟨h1,h2,h3⟩:=C.forth _ _ _ e
  have hn:n≤k:=by rw [List.length_take] at h2; omega
  rw [List.take_take,Nat.min_eq_left hn] at h3
  have h4:=C.back a' ((put a).drop n) h1
  rw [← h3,List.take_append_drop,List.length_take,Nat.min_eq_left (by omega)] at h4
  have h5:=C.back a [] h
  rw [List.append_nil,h4] at h5
  have:n=(put a).length:=(Prod.mk.inj (Option.some.inj h5)).2
  omega
def rdN:Nat→Nat→List UInt8→Option (Nat×Nat)
 | _,_,[]=>none
 | i,n,c::r=>if i=10∨(i=9∧0 < n / 144115188075855872)∨(i=0∧c.toNat=128) then none else if c.toNat < 128 then some (n * 128 + c.toNat % 128,i + 1) else rdN (i + 1) (n * 128 + c.toNat % 128) r
theorem qtl (i n:Nat) (c:UInt8) (r:List UInt8):rdN i n (c::r)=if i=10∨(i=9∧0 < n / 144115188075855872)∨(i=0∧c.toNat=128) then none else if c.toNat < 128 then some (n * 128 + c.toNat % 128,i + 1) else rdN (i + 1) (n * 128 + c.toNat % 128) r:=rfl
def qby (x K:Nat):Prop:=K≤9∧x < 18446744073709551616∧x / 128 ^ K < 128∧∀ k < K,128≤x / 128 ^ k
theorem qpI (x k:Nat):(hiB x k).toNat=x / 128 ^ k % 128 + 128:=by
 unfold hiB
 rw [UInt8.toNat_ofNat_of_lt' (show x / 128 ^ k % 128 + 128 < UInt8.size by unfold UInt8.size; omega)]
theorem qvs (x:Nat):(loB x).toNat=x % 128:=by
 unfold loB
 rw [UInt8.toNat_ofNat_of_lt' (show x % 128 < UInt8.size by unfold UInt8.size; omega)]
theorem qnh {x:Nat} (hx:x < 18446744073709551616) (r:List UInt8):∀ (k i:Nat),i + k≤9→(i=0→k≠0→x / 128 ^ k % 128≠0)→rdN i (x / 128 ^ (k + 1)) (dn x k++r)=some (x,i + k + 1)
 | 0,i,hi,_=>by
  show rdN i (x / 128 ^ 1) (loB x::r)=_
  have h9:i=9→¬ 0 < x / 128 ^ 1 / 144115188075855872:=fun _=>by rw [Nat.pow_one]; omega
  unfold rdN
  rw [qvs,if_neg (by rintro (h | ⟨h,h'⟩ | ⟨_,h⟩); omega; exact h9 h h'; omega),if_pos (by omega),Nat.pow_one,Nat.mod_mod,show x / 128 * 128 + x % 128=x by omega]
 | k + 1,i,hi,h0=>by
  show rdN i (x / 128 ^ (k + 2)) (hiB x (k + 1)::(dn x k++r))=_
  unfold rdN
  have h1:x / 128 ^ (k + 2) * 128 + (x / 128 ^ (k + 1) % 128 + 128) % 128=x / 128 ^ (k + 1):=by
   rw [← JZ]; omega
  rw [qpI,if_neg (by rintro (h | ⟨h,_⟩ | ⟨h,h'⟩); omega; omega; have:=h0 h (by omega); omega),if_neg (by omega),h1,qnh hx r k (i + 1) (by omega) (fun h=>by omega)]
  congr 2; omega
theorem qwc {x K:Nat} (h:qby x K) (hK:K≠0):x / 128 ^ K % 128≠0:=by
 obtain ⟨h1,h2,h3,h4⟩:=h
 have:=h4 (K - 1) (by omega)
 have e:=JZ x (K - 1)
 rw [show K - 1 + 1=K by omega] at e
 omega
theorem qvC {x K:Nat} (h:qby x K) (r:List UInt8):rdN 0 0 (dn x K++r)=some (x,K + 1):=by
 have h0:x / 128 ^ (K + 1)=0:=by rw [← JZ]; exact Nat.div_eq_of_lt h.2.2.1
 have:=qnh h.2.1 r K 0 (by have:=h.1; omega) fun _ hK=>qwc h hK
 rw [h0] at this
 rw [this]; congr 2; omega
theorem qjT : ∀ (b : List UInt8) (i n x u : Nat), i ≤ 10 → (i ≤ 9 → n < 128 ^ i) → rdN i n b = some (x, u) →
    ∃ k,u=i + k + 1∧i + k≤9∧k + 1≤b.length∧b.take (k + 1)=dn x k∧x / 128 ^ (k + 1)=n∧(i=0→k≠0→x / 128 ^ k % 128≠0)∧x < 18446744073709551616
 | [],_,_,_,_,_,_,h=>by cases h
 | c::r,i,n,x,u,hi,hn,h=>by
  unfold rdN at h
  split at h
  ·cases h
  rename_i hno
  have hi9:i≤9:=by
   by_cases e:i=10
   ·exact (hno (.inl e)).elim
   ·omega
  have hc:=c.toNat_lt
  split at h
  ·rename_i hlt
   have h:=Option.some.inj h
   obtain ⟨rfl,rfl⟩:=Prod.mk.inj h
   refine ⟨0,rfl,hi9,by simp,?_,?_,fun _ h=>(h rfl).elim,?_⟩
   ·show [c]=[loB (n * 128 + c.toNat % 128)]
    unfold loB
    rw [show (n * 128 + c.toNat % 128) % 128=c.toNat by omega,UInt8.ofNat_toNat]
   ·rw [Nat.pow_one]; omega
   ·by_cases e:i=9
    ·have:¬ 0 < n / 144115188075855872:=fun h=>hno (.inr (.inl ⟨e,h⟩))
     omega
    ·have h1:=hn hi9
     have h2:128 ^ i≤128 ^ 8:=Nat.pow_le_pow_right (by omega) (by omega)
     have:(128:Nat) ^ 8=72057594037927936:=by decide
     omega
  ·rename_i hge
   have hi8:i + 1≤10:=by omega
   obtain ⟨k,h1,h2,h3,h4,h5,h6,h7⟩:=qjT r (i + 1) (n * 128 + c.toNat % 128) x u hi8 (fun _=>by have:=hn hi9; rw [Nat.pow_succ]; omega) h
   refine ⟨k + 1,by omega,by omega,by simp; omega,?_,?_,fun h0 _=>?_,h7⟩
   ·show c::r.take (k + 1)=hiB x (k + 1)::dn x k
    rw [h4]
    congr 1
    unfold hiB
    rw [h5,show (n * 128 + c.toNat % 128) % 128 + 128=c.toNat by omega,UInt8.ofNat_toNat]
   ·rw [← JZ,h5]; omega
   ·rw [h5]
    intro e
    exact hno (.inr (.inr ⟨h0,by omega⟩))
theorem qnd {b:List UInt8} {x u:Nat} (h:rdN 0 0 b=some (x,u)):∃ K,u=K + 1∧qby x K∧K + 1≤b.length∧b.take (K + 1)=dn x K:=by
 obtain ⟨k,h1,h2,h3,h4,h5,h6,h7⟩:=qjT b 0 0 x u (by omega) (fun _=>by decide) h
 refine ⟨k,by omega,⟨by omega,h7,?_,fun j hj=>?_⟩,h3,h4⟩
 ·have:=JZ x k
  rw [h5] at this; omega
 ·have ht:=h6 rfl (by omega)
  have h8:1≤x / 128 ^ k:=by
   rcases Nat.eq_zero_or_pos (x / 128 ^ k) with e | e
   ·rw [e] at ht; omega
   ·exact e
  have h9:128 ^ k≤x:=by
   have:=(Nat.le_div_iff_mul_le (Nat.pow_pos (by omega))).1 h8
   omega
  refine (Nat.le_div_iff_mul_le (Nat.pow_pos (by omega))).2 ?_
  have:128 ^ (j + 1)≤128 ^ k:=Nat.pow_le_pow_right (by omega) hj
  rw [Nat.pow_succ] at this
  omega
theorem qpt {x:Nat} (h:x < 18446744073709551616):∃ K,qby x K:=by
 obtain ⟨K,h1,h2,h3⟩:=qrq h
 exact ⟨K,h1,h,h2,h3⟩
def qwD (x:Nat):Nat:=Classical.epsilon fun K=>qby x K
theorem qeK {x:Nat} (h:x < 18446744073709551616):qby x (qwD x):=Classical.epsilon_spec (qpt h)
theorem quV {x K L:Nat} (h:qby x K) (h':qby x L):K=L:=by
 rcases Nat.lt_trichotomy K L with e | e | e
 ·have:=h'.2.2.2 K e; have:=h.2.2.1; omega
 ·exact e
 ·have:=h.2.2.2 L e; have:=h'.2.2.1; omega
def zw (x:Nat):List UInt8:=dn x (qwD x)
theorem qpn {x K:Nat} (h:qby x K):zw x=dn x K:=by unfold zw; rw [quV (qeK h.2.1) h]
theorem Qv:Cod (fun x:Nat=>x < 18446744073709551616) zw (rdN 0 0):=by
 refine ⟨fun x r h=>?_,fun b x n h=>?_⟩
 ·unfold zw
  rw [qvC (qeK h),qhZ]
 ·obtain ⟨K,rfl,h1,h2,h3⟩:=qnd h
  exact ⟨h1.2.1,h2,by rw [h3,qpn h1]⟩
theorem VY {x:Nat} (h:x < 18446744073709551616):1≤(zw x).length∧(zw x).length≤10:=by
 unfold zw
 rw [qhZ]
 have:=(qeK h).1
 omega
theorem qa5 {b:List UInt8} {x n:Nat} (h:rdN 0 0 b=some (x,n)):1≤n∧n≤10∧n≤b.length:=by
 obtain ⟨K,rfl,h1,h2,_⟩:=qnd h
 have:=h1.1
 omega
def qgl (b:List UInt8):Int×Int×Bool:=match rdN 0 0 b with
 | some (x,k)=>((x:Int),(k:Int),true)
 | none=>(0,0,false)
theorem qvm:∀ z < 256,jx .u8 ((z:Nat):Int) 128=((z % 128:Nat):Int):=by decide +kernel
theorem qwk {n c:Nat} (hn:n < 144115188075855872) (hc:c < 256):uOr .u64 (Jq .u64 (n:Int) 7) (IntKind.u64.wrap (jx .u8 (c:Int) 128))=((n * 128 + c % 128:Nat):Int):=by
 rw [qvm c hc,Qa (by omega)]
 unfold Jq
 rw [show ((n:Nat):Int) * 2 ^ 7=((128 * n:Nat):Int) by omega,Qa (by omega)]
 refine (u64_or_nat (128 * n) (c % 128) (by omega) (by omega)).trans ?_
 rw [show 128 * n=2 ^ 7 * n by omega,← Nat.two_pow_add_eq_or_of_lt (by omega)]
 congr 1; omega
section
variable {N:Nat} [Vx N]
theorem qlu {x:Nat} (h:x < 18446744073709551616):J1 N (x:Int)=some (zw x,(zw x).length):=by
 have hK:=qeK h
 rw [quB hK.1 hK.2.2.1 hK.2.2.2]
 unfold zw
 rw [qhZ]
def qu3 (i n:Nat) (c:UInt8):Tree (QM⊕vn):=
 .chk ((0:Int)≤7) <| .cond (decide (((c.toNat:Nat):Int) < 128)) (.chk (qx (((i:Nat):Int) + 1)) <|
  .ret (.inr (.inr (.inr (uOr .u64 (Jq .u64 (n:Int) 7) (IntKind.u64.wrap (jx .u8 ((c.toNat:Nat):Int) 128)),((i:Nat):Int) + 1))))) <| .chk (qx (((i:Nat):Int) + 1)) <|
  .ret (.inl (uOr .u64 (Jq .u64 (n:Int) 7) (IntKind.u64.wrap (jx .u8 ((c.toNat:Nat):Int) 128)),((i:Nat):Int) + 1))
def qwQ (y:vn):Option (Int×Int):=match y with
 | .inr (.inr z)=>some z
 | _=>none
theorem qvE (b:List UInt8) (hb:b.length≤1000000000000000):∃ y,qaf N b ((b.length:Nat):Int) 0 0=some y∧qwQ y=(rdN 0 0 b).map fun p=>((p.1:Int),(p.2:Int)):=by
 refine qb9 (B:=vm N b ((b.length:Nat):Int)) (g:=some) (I:=fun v=>∃ i n:Nat,v=((n:Int),(i:Int))∧i≤b.length∧i≤10∧(i≤9→n < 128 ^ i)∧rdN i n (b.drop i)=rdN 0 0 b) (fun v=>11 - v.2.toNat) ?_ N _
  ⟨0,0,rfl,Nat.zero_le _,by omega,fun _=>by decide,by rw [List.drop_zero]⟩ (by have:=big N; simp; omega)
 rintro v ⟨i,n,rfl,hi,h10,hn,hr⟩
 by_cases hlt:i < b.length
 ·have hd:=qr2 (d:=(0:UInt8)) hlt
  have hg:zu b ((i:Nat):Int)=some (b.getD i 0):=XZ hlt
  generalize b.getD i 0=c at hd hg
  rw [hd] at hr
  have hc:=c.toNat_lt
  have c1:qx (((i:Nat):Int) + 1):=Vc (by omega)
  by_cases hs:i=10∨(i=9∧0 < n / 144115188075855872)∨(i=0∧c.toNat=128)
  ·right
   have hnone:rdN 0 0 b=none:=by rw [← hr]; unfold rdN; rw [if_pos hs]
   rw [hnone]
   rcases hs with rfl | ⟨rfl,h⟩ | ⟨rfl,h⟩
   ·exact ⟨_,_,by unfold vm; exact w_t (dec_lt hlt) <| qn hg <| w_t rfl <| w_t rfl <| qw rfl,by rfl,by rfl⟩
   ·have e:decide ((0:Int) < Qd ((n:Nat):Int) 57)=true:=by rw [qbl]; exact decide_eq_true (by omega)
    exact ⟨_,_,by unfold vm; exact w_t (dec_lt hlt) <| qn hg <| w_f rfl <| w_t rfl <| qF (by omega) <| w_t e <| w_t e <| qw rfl,by rfl,by rfl⟩
   ·have e:decide (((c.toNat:Nat):Int)=128)=true:=decide_eq_true (by omega)
    exact ⟨_,_,by unfold vm; exact w_t (dec_lt hlt) <| qn hg <| w_f rfl <| w_f rfl <| w_t rfl <| w_t e <| qw rfl,by rfl,by rfl⟩
  ·have hi9 : i ≤ 9 := by
      by_cases e:i=10
      ·exact (hs (.inl e)).elim
      ·omega
   have hn57:n < 144115188075855872:=by
    by_cases e:i=9
    ·have:¬ 0 < n / 144115188075855872:=fun h=>hs (.inr (.inl ⟨e,h⟩))
     omega
    ·have h1:=hn hi9
     have h2:128 ^ i≤128 ^ 8:=Nat.pow_le_pow_right (by omega) (by omega)
     have:(128:Nat) ^ 8=72057594037927936:=by decide
     omega
   have w3:=qwk hn57 hc
   have h0:(0:Int)≤7:=by omega
   have tail:(qu3 i n c).run some=if c.toNat < 128 then some (.inr (.inr (.inr (((n * 128 + c.toNat % 128:Nat):Int),((i:Nat):Int) + 1)))) else some (.inl (((n * 128 + c.toNat % 128:Nat):Int),((i:Nat):Int) + 1)):=by
    unfold qu3
    rw [w3]
    refine qF h0 ?_
    by_cases h:c.toNat < 128
    ·rw [if_pos h]
     exact w_t (decide_eq_true (by omega)) <| qF c1 <| qw rfl
    ·rw [if_neg h]
     exact w_f (decide_eq_false (by omega)) <| qF c1 <| qw rfl
   have step:(vm N b ((b.length:Nat):Int) ((n:Int),(i:Int))).run some=if c.toNat < 128 then some (.inr (.inr (.inr (((n * 128 + c.toNat % 128:Nat):Int),((i:Nat):Int) + 1)))) else some (.inl (((n * 128 + c.toNat % 128:Nat):Int),((i:Nat):Int) + 1)):=by
    unfold vm
    refine w_t (dec_lt hlt) <| qn hg <| w_f (decide_eq_false (by show ¬ ((i:Nat):Int)=10; omega)) ?_
    refine zT rfl (fun h9=>?_) fun h9=>?_
    ·have h9:((i:Nat):Int)=9:=of_decide_eq_true h9
     have e:decide ((0:Int) < Qd ((n:Nat):Int) 57)=false:=by rw [qbl]; exact decide_eq_false (by omega)
     exact qF (by omega) <| w_f e <| w_f (decide_eq_false (by show ¬ ((i:Nat):Int)=0; omega)) <| tail
    ·refine zT rfl (fun h00=>?_) fun h00=>tail
     have h00:((i:Nat):Int)=0:=of_decide_eq_true h00
     have:¬ c.toNat=128:=fun h=>hs (.inr (.inr ⟨by omega,h⟩))
     exact w_f (decide_eq_false (by show ¬ ((c.toNat:Nat):Int)=128; omega)) <| tail
   rw [qtl,if_neg hs] at hr
   by_cases h:c.toNat < 128
   ·right
    rw [if_pos h] at step hr
    refine ⟨_,_,step,rfl,?_⟩
    rw [← hr]; rfl
   ·left
    rw [if_neg h] at step hr
    refine ⟨_,step,⟨i + 1,n * 128 + c.toNat % 128,rfl,hlt,by omega,fun _=>?_,hr⟩,?_⟩
    ·have:=hn hi9; rw [Nat.pow_succ]; omega
    ·show 11 - (((i:Nat):Int) + 1).toNat < 11 - ((i:Nat):Int).toNat
     omega
 ·right
  obtain rfl:i=b.length:=by omega
  rw [List.drop_length] at hr
  exact ⟨_,_,by unfold vm; exact w_f (vF (Nat.lt_irrefl _)) (qw rfl),by rfl,by rw [← hr]; rfl⟩
theorem YH {b:List UInt8} (hb:b.length≤1000000000000000):Jx N b=some (qgl b):=by
 obtain ⟨y,e,hy⟩:=qvE (N:=N) b hb
 unfold Jx qbN qgl
 refine qn e ?_
 cases hr:rdN 0 0 b with
 | none=>
  rw [hr] at hy
  rcases y with z | z | z
  ·exact w_l rfl (qw rfl)
  ·exact w_r rfl <| w_l rfl (qw rfl)
  ·cases hy
 | some p=>
  rw [hr] at hy
  have:=qa5 (x:=p.1) (n:=p.2) hr
  rcases y with z | z | z
  ·cases hy
  ·cases hy
  ·have hz:z=((p.1:Int),(p.2:Int)):=Option.some.inj hy
   subst hz
   exact w_r rfl <| w_r rfl <| w_f (decide_eq_false (by show ¬ ((p.2:Nat):Int)=0; omega)) <| qw rfl
end
end Go.Rx
end
set_option maxRecDepth 100000
noncomputable section
namespace Go.Rx
open Go.Proofs
def vu (s:List UInt8):List UInt8:=zw s.length++s
def rdT (most:Nat) (b:List UInt8):Option (List UInt8×Nat):=(rdN 0 0 b).bind fun p=>if p.1≤most∧p.1≤b.length - p.2 then some ((b.drop p.2).take p.1,p.2 + p.1) else none
theorem Wm {most:Nat} (hm:most≤1000000000):Cod (fun s:List UInt8=>s.length≤most) vu (rdT most):=by
 refine ⟨fun s r h=>?_,fun b s n h=>?_⟩
 ·unfold rdT vu
  rw [List.append_assoc,Qv.back s.length (s++r) (by show s.length < _; omega),Option.bind_some,if_pos ⟨h,by rw [List.length_append,List.length_append]; show s.length≤(zw s.length).length + (s.length + r.length) - (zw s.length).length; omega⟩]
  show some (((zw s.length++(s++r)).drop (zw s.length).length).take s.length,(zw s.length).length + s.length)=_
  rw [List.drop_left,List.take_left,List.length_append]
 ·unfold rdT at h
  cases hr:rdN 0 0 b with
  | none=>rw [hr] at h; cases h
  | some p=>
   obtain ⟨x,u⟩:=p
   rw [hr,Option.bind_some] at h
   split at h
   ·rename_i hc
    obtain ⟨h1,h2,h3⟩:=Qv.forth b x u hr
    obtain ⟨rfl,rfl⟩:=Prod.mk.inj (Option.some.inj h)
    have hl:((b.drop u).take x).length=x:=by rw [List.length_take,List.length_drop]; have:x≤b.length - u:=hc.2; omega
    refine ⟨by show ((b.drop u).take x).length≤most; rw [hl]; exact hc.1,by show u + x≤_; have:x≤b.length - u:=hc.2; omega,?_⟩
    show b.take (u + x)=vu ((b.drop u).take x)
    unfold vu
    rw [hl,← h3,List.take_add]
   ·cases h
theorem qdp {s:List UInt8} (h:s.length≤1000000000):(vu s).length≤s.length + 10:=by
 have:=(VY (x:=s.length) (by omega)).2
 unfold vu; rw [List.length_append]; omega
def Ju (s:qi):Nat:=((8:Int) * s.1 + s.2).toNat
def zN (s:qi):List UInt8:=zw (Ju s)
def rdS (b:List UInt8):Option (qi×Nat):=(rdN 0 0 b).bind fun p=>if stB (((p.1 / 8:Nat):Int),((p.1 % 8:Nat):Int))=true then some ((((p.1 / 8:Nat):Int),((p.1 % 8:Nat):Int)),p.2) else none
theorem qf0 {s:qi} (h:stB s=true):Ju s < 18446744073709551616:=by
 have:=qhS h
 unfold Ju; omega
theorem qqK {s:qi} (h:stB s=true):(((Ju s / 8:Nat):Int),((Ju s % 8:Nat):Int))=s:=by
 obtain ⟨n,r⟩:=s
 obtain ⟨h0,h1,h2,h3⟩:=qhS h
 dsimp only at h0 h1 h2 h3
 unfold Ju
 exact Prod.ext (by show ((((8:Int) * n + r).toNat / 8:Nat):Int)=n; omega) (by show ((((8:Int) * n + r).toNat % 8:Nat):Int)=r; omega)
theorem qda:Cod (fun s:qi=>stB s=true) zN rdS:=by
 refine ⟨fun s r h=>?_,fun b s n h=>?_⟩
 ·unfold rdS zN
  rw [Qv.back _ r (qf0 h),Option.bind_some]
  show (if stB (((Ju s / 8:Nat):Int),((Ju s % 8:Nat):Int))=true then some ((((Ju s / 8:Nat):Int),((Ju s % 8:Nat):Int)),(zw (Ju s)).length) else none)=_
  rw [qqK h,if_pos h]
 ·unfold rdS at h
  cases hr:rdN 0 0 b with
  | none=>rw [hr] at h; cases h
  | some p=>
   obtain ⟨x,u⟩:=p
   rw [hr,Option.bind_some] at h
   split at h
   ·rename_i hc
    obtain ⟨h1,h2,h3⟩:=Qv.forth b x u hr
    obtain ⟨rfl,rfl⟩:=Prod.mk.inj (Option.some.inj h)
    refine ⟨hc,h2,?_⟩
    unfold zN Ju
    rw [show ((8:Int) * ((x / 8:Nat):Int) + ((x % 8:Nat):Int)).toNat=x by omega]
    exact h3
   ·cases h
def JG (p:qb):Prop:=if p.JV=true then 0≤p.jK∧p.jK≤200∧0≤p.Len∧p.Len≤200∧p.Lit=[] else p.jK=0∧p.Len=0∧p.Lit.length≤200
def zU (p:qb):List UInt8:=if p.JV=true then 1::(zw p.jK.toNat++zw p.Len.toNat) else 0::vu p.Lit
def rdP (b:List UInt8):Option (qb×Nat):=match b with
 | []=>none
 | c::r=>if 1 < c.toNat then none else if c.toNat=0 then (rdT 200 r).map fun p=>(qb.mk false 0 0 p.1,p.2 + 1)
  else (rdN 0 0 r).bind fun p=>(rdN 0 0 (r.drop p.2)).bind fun q=>if p.1≤200∧q.1≤200 then some (qb.mk true (p.1:Int) (q.1:Int) [],1 + p.2 + q.2) else none
theorem qgj (c : UInt8) (r : List UInt8) : rdP (c :: r) = if 1 < c.toNat then none else if c.toNat = 0 then (rdT 200 r).map fun p => (qb.mk false 0 0 p.1, p.2 + 1)
    else (rdN 0 0 r).bind fun p=>(rdN 0 0 (r.drop p.2)).bind fun q=>if p.1≤200∧q.1≤200 then some (qb.mk true (p.1:Int) (q.1:Int) [],1 + p.2 + q.2) else none:=rfl
theorem qgv {p:qb} (h:QZ p=true):JG p:=by
 unfold QZ inP at h
 unfold JG
 cases e:p.JV with
 | true=>
  rw [e,cond_true] at h
  simp only [Bool.and_eq_true,decide_eq_true_eq] at h
  rw [if_pos rfl]
  exact ⟨h.1.1.1,h.1.1.2,by omega,h.1.2.2,h.2⟩
 | false=>
  rw [e,cond_false] at h
  simp only [Bool.and_eq_true,decide_eq_true_eq] at h
  rw [if_neg (by simp)]
  have h1:=h.1
  refine ⟨by rw [h1]; rfl,by rw [h1]; rfl,by omega⟩
theorem K2:Cod JG zU rdP:=by
 refine ⟨fun p r h=>?_,fun b p n h=>?_⟩
 ·obtain ⟨c,f,l,t⟩:=p
  unfold JG at h
  unfold zU
  cases c with
  | true=>
   have h:0≤f∧f≤200∧0≤l∧l≤200∧t=[]:=by
    have:=h
    rw [if_pos (show qb.JV (true,f,l,t)=true from rfl)] at this
    exact this
   obtain ⟨h1,h2,h3,h4,rfl⟩:=h
   rw [if_pos (show qb.JV (true,f,l,[])=true from rfl)]
   show rdP (1::(zw f.toNat++zw l.toNat)++r)=_
   rw [List.cons_append,qgj,if_neg (by decide),if_neg (by decide),List.append_assoc,Qv.back f.toNat _ (by show f.toNat < _; omega),Option.bind_some]
   show (rdN 0 0 ((zw f.toNat++(zw l.toNat++r)).drop (zw f.toNat).length)).bind _=_
   rw [List.drop_left,Qv.back l.toNat _ (by show l.toNat < _; omega),Option.bind_some]
   show (if f.toNat≤200∧l.toNat≤200 then some (qb.mk true ((f.toNat:Nat):Int) ((l.toNat:Nat):Int) [],1 + (zw f.toNat).length + (zw l.toNat).length) else none)=_
   rw [if_pos (by omega),Int.toNat_of_nonneg h1,Int.toNat_of_nonneg h3]
   refine congrArg some (Prod.ext rfl ?_)
   show 1 + (zw f.toNat).length + (zw l.toNat).length=(1::(zw f.toNat++zw l.toNat)).length
   rw [List.length_cons,List.length_append]; omega
  | false=>
   have h:f=0∧l=0∧t.length≤200:=by
    have:=h
    rw [if_neg (show ¬ qb.JV (false,f,l,t)=true from fun h=>by cases h)] at this
    exact this
   obtain ⟨rfl,rfl,h3⟩:=h
   rw [if_neg (show ¬ qb.JV (false,0,0,t)=true from fun h=>by cases h)]
   rw [List.cons_append,qgj,if_neg (by decide),if_pos (by decide)]
   show (rdT 200 (vu t++r)).map _=_
   rw [(Wm (most:=200) (by omega)).back t r h3]
   rfl
 ·cases b with
  | nil=>cases h
  | cons c b=>
   have h:(if 1 < c.toNat then none else if c.toNat=0 then (rdT 200 b).map fun p=>(qb.mk false 0 0 p.1,p.2 + 1)
    else (rdN 0 0 b).bind fun p=>(rdN 0 0 (b.drop p.2)).bind fun q=>if p.1≤200∧q.1≤200 then some (qb.mk true (p.1:Int) (q.1:Int) [],1 + p.2 + q.2) else none)=some (p,n):=h
   split at h
   ·cases h
   rename_i hc
   split at h
   ·rename_i h0
    cases ht:rdT 200 b with
    | none=>rw [ht] at h; cases h
    | some q=>
     obtain ⟨t,k⟩:=q
     rw [ht] at h
     obtain ⟨h1,h2,h3⟩:=(Wm (most:=200) (by omega)).forth b t k ht
     obtain ⟨rfl,rfl⟩:=Prod.mk.inj (Option.some.inj h)
     refine ⟨?_,by show k + 1≤b.length + 1; omega,?_⟩
     ·unfold JG
      rw [if_neg (show ¬ qb.JV (qb.mk false 0 0 t)=true from fun h=>by cases h)]
      exact ⟨rfl,rfl,h1⟩
     ·unfold zU
      rw [if_neg (show ¬ qb.JV (qb.mk false 0 0 t)=true from fun h=>by cases h)]
      show c::b.take k=0::vu t
      rw [h3]
      congr 1
      rw [← UInt8.ofNat_toNat (x:=c),h0]; rfl
   ·rename_i h0
    cases hf:rdN 0 0 b with
    | none=>rw [hf] at h; cases h
    | some q=>
     obtain ⟨f,k⟩:=q
     rw [hf,Option.bind_some] at h
     cases hl:rdN 0 0 (b.drop k) with
     | none=>rw [show ((f,k):Nat×Nat).2=k from rfl,hl] at h; cases h
     | some q2=>
      obtain ⟨l,j⟩:=q2
      rw [show ((f,k):Nat×Nat).2=k from rfl,hl,Option.bind_some] at h
      split at h
      ·rename_i hle
       have hle:f≤200∧l≤200:=hle
       obtain ⟨_,h2,h3⟩:=Qv.forth b f k hf
       obtain ⟨_,h4,h5⟩:=Qv.forth (b.drop k) l j hl
       rw [List.length_drop] at h4
       obtain ⟨rfl,rfl⟩:=Prod.mk.inj (Option.some.inj h)
       refine ⟨?_,by show 1 + k + j≤b.length + 1; omega,?_⟩
       ·unfold JG
        rw [if_pos (show qb.JV (qb.mk true (f:Int) (l:Int) [])=true from rfl)]
        exact ⟨by show (0:Int)≤(f:Int); omega,by show (f:Int)≤200; omega,by show (0:Int)≤(l:Int); omega,by show (l:Int)≤200; omega,rfl⟩
       ·unfold zU
        rw [if_pos (show qb.JV (qb.mk true (f:Int) (l:Int) [])=true from rfl)]
        show (c::b).take (1 + k + j)=1::(zw f++zw l)
        rw [show 1 + k + j=(k + j) + 1 by omega,List.take_succ_cons,List.take_add,h3,h5]
        congr 1
        rw [← UInt8.ofNat_toNat (x:=c),show c.toNat=1 by omega]; rfl
      ·cases h
section
variable {α:Type}
def rdM (g:List UInt8→Option (α×Nat)):Nat→List UInt8→Option (List α×Nat)
 | 0,_=>some ([],0)
 | m + 1,b=>(g b).bind fun p=>(rdM g m (b.drop p.2)).map fun q=>(p.1::q.1,p.2 + q.2)
theorem YV {V:α→Prop} {put:α→List UInt8} {g:List UInt8→Option (α×Nat)} (C:Cod V put g):∀ m,Cod (fun l:List α=>l.length=m∧∀ x∈l,V x) (fun l=>(l.map put).flatten) (rdM g m)
 | 0 => ⟨fun l r h => by
     rw [List.length_eq_zero_iff.1 h.1]; rfl,fun b l n h=>by
     obtain ⟨rfl,rfl⟩:=Prod.mk.inj (Option.some.inj h)
     exact ⟨⟨rfl,fun x hx=>absurd hx List.not_mem_nil⟩,Nat.zero_le _,rfl⟩⟩
 | m + 1 => ⟨fun l r h => by
     cases l with
     | nil=>cases h.1
     | cons x l=>
      show rdM g (m + 1) ((put x++(l.map put).flatten)++r)=_
      unfold rdM
      rw [List.append_assoc,C.back x _ (h.2 x (List.mem_cons_self ..)),Option.bind_some]
      show (rdM g m ((put x++((l.map put).flatten++r)).drop (put x).length)).map _=_
      rw [List.drop_left,(YV C m).back l r ⟨by have:=h.1; rw [List.length_cons] at this; omega,fun y hy=>h.2 y (List.mem_cons_of_mem _ hy)⟩]
      show some (x::l,(put x).length + ((l.map put).flatten).length)=some (x::l,(put x++(l.map put).flatten).length)
      rw [List.length_append],fun b l n h=>by
     unfold rdM at h
     cases e:g b with
     | none=>rw [e] at h; cases h
     | some p=>
      obtain ⟨x,k⟩:=p
      rw [e,Option.bind_some] at h
      cases e2:rdM g m (b.drop k) with
      | none=>rw [show ((x,k):α×Nat).2=k from rfl,e2] at h; cases h
      | some q=>
       obtain ⟨t,j⟩:=q
       rw [show ((x,k):α×Nat).2=k from rfl,e2] at h
       obtain ⟨h1,h2,h3⟩:=C.forth b x k e
       obtain ⟨h4,h5,h6⟩:=(YV C m).forth _ t j e2
       rw [List.length_drop] at h5
       obtain ⟨rfl,rfl⟩:=Prod.mk.inj (Option.some.inj h)
       refine ⟨⟨by show t.length + 1=m + 1; rw [h4.1],fun y hy=>?_⟩,by show k + j≤b.length; omega,?_⟩
       ·rcases List.mem_cons.1 hy with rfl | hy
        ·exact h1
        ·exact h4.2 y hy
       ·show b.take (k + j)=put x++(t.map put).flatten
        rw [List.take_add,h3,h6]⟩
end
def jq (l:List qb):List UInt8:=zw l.length++(l.map zU).flatten
def rdD (b:List UInt8):Option (List qb×Nat):=(rdN 0 0 b).bind fun p=>if p.1≤60 then (rdM rdP p.1 (b.drop p.2)).bind fun q=>if vh q.1=true then some (q.1,p.2 + q.2) else none else none
theorem XP {l:List qb}:vh l=true↔(∀ p∈l,QZ p=true)∧l.length≤60∧Ye l l.length≤200:=by
 unfold vh
 rw [Bool.and_eq_true,Bool.and_eq_true,decide_eq_true_iff,decide_eq_true_iff,JE,and_assoc]
 constructor
 ·rintro ⟨h,h2⟩
  refine ⟨fun p hp=>?_,h2⟩
  obtain ⟨i,hi,rfl⟩:=List.getElem_of_mem hp
  have:=h i hi
  rw [List.getD_eq_getElem?_getD,List.getElem?_eq_getElem hi] at this
  exact this
 ·rintro ⟨h,h2⟩
  refine ⟨fun j hj=>?_,h2⟩
  rw [List.getD_eq_getElem?_getD,List.getElem?_eq_getElem hj]
  exact h _ (List.getElem_mem hj)
theorem qbT:Cod (fun l:List qb=>vh l=true) jq rdD:=by
 refine ⟨fun l r h=>?_,fun b l n h=>?_⟩
 ·obtain ⟨h1,h2,_⟩:=XP.1 h
  unfold rdD jq
  rw [List.append_assoc,Qv.back l.length _ (by show l.length < _; omega),Option.bind_some]
  show (if l.length≤60 then (rdM rdP l.length ((zw l.length++((l.map zU).flatten++r)).drop (zw l.length).length)).bind _ else none)=_
  rw [if_pos h2,List.drop_left,(YV K2 l.length).back l r ⟨rfl,fun p hp=>qgv (h1 p hp)⟩,Option.bind_some]
  show (if vh l=true then some (l,(zw l.length).length + ((l.map zU).flatten).length) else none)=_
  rw [if_pos h,List.length_append]
 ·unfold rdD at h
  cases hr:rdN 0 0 b with
  | none=>rw [hr] at h; cases h
  | some p=>
   obtain ⟨x,u⟩:=p
   rw [hr,Option.bind_some] at h
   split at h
   ·cases hm:rdM rdP x (b.drop u) with
    | none=>rw [show ((x,u):Nat×Nat).1=x from rfl,show ((x,u):Nat×Nat).2=u from rfl,hm] at h; cases h
    | some q=>
     obtain ⟨t,k⟩:=q
     rw [show ((x,u):Nat×Nat).1=x from rfl,show ((x,u):Nat×Nat).2=u from rfl,hm,Option.bind_some] at h
     split at h
     ·rename_i hv
      obtain ⟨_,h2,h3⟩:=Qv.forth b x u hr
      obtain ⟨h4,h5,h6⟩:=(YV K2 x).forth _ t k hm
      rw [List.length_drop] at h5
      obtain ⟨rfl,rfl⟩:=Prod.mk.inj (Option.some.inj h)
      refine ⟨hv,by show u + k≤b.length; omega,?_⟩
      show b.take (u + k)=jq t
      unfold jq
      rw [List.take_add,h3,h6,h4.1]
     ·cases h
   ·cases h
theorem qik {p:qb} (h:JG p):(zU p).length≤211:=by
 unfold JG at h
 unfold zU
 split
 ·rename_i hc
  rw [if_pos hc] at h
  have h1:=(VY (x:=p.jK.toNat) (by omega)).2
  have h2:=(VY (x:=p.Len.toNat) (by omega)).2
  rw [List.length_cons,List.length_append]; omega
 ·rename_i hc
  rw [if_neg hc] at h
  have:=qdp (s:=p.Lit) (by omega)
  rw [List.length_cons]; omega
theorem qni {l:List qb} (h:∀ p∈l,JG p):((l.map zU).flatten).length≤211 * l.length:=by
 induction l with
 | nil=>exact Nat.zero_le _
 | cons p l ih=>
  have h1:=qik (h p (List.mem_cons_self ..))
  have h2:=ih fun q hq=>h q (List.mem_cons_of_mem _ hq)
  show (zU p++(l.map zU).flatten).length≤211 * (l.length + 1)
  rw [List.length_append]; omega
end Go.Rx
end
set_option maxRecDepth 100000
noncomputable section
namespace Go.Rx
open Go.Proofs
theorem qpH {n:Nat} (h:n≤1000000000000000):qx ((n:Nat):Int):=by unfold qx; omega
section
variable {N:Nat} [Vx N]
theorem qmE {s:List UInt8} (h:s.length≤1000000000):WT N s=some (vu s):=by
 unfold WT qay
 refine qn (show J1 N (IntKind.u64.wrap ((s.length:Nat):Int))=some (zw s.length,(zw s.length).length) by rw [Qa (by omega)]; exact qlu (by omega)) ?_
 have:=(VY (x:=s.length) (by omega)).2
 exact qF ⟨rfl,by show ((zw s.length)++s).length * 1≤qN; rw [List.length_append]; unfold qN; omega⟩ <| qF rfl <| qw rfl
theorem qlT {x:Nat} (h:x < 18446744073709551616):Qp N (x:Int)=some (zw x):=by
 obtain ⟨K,hK⟩:=qpt h
 have h9:=hK.1
 rw [qpn hK]
 have e1:=qho (N:=N) hK.1 hK.2.2.1 hK.2.2.2
 have e2:=qo9 (N:=N) (x:=x) (r:=K + 1) (by omega)
 have hrl:(List.replicate ((K + 1:Nat):Int).toNat (0:UInt8)).length=K + 1:=by simp
 have e3:Yg N (x:Int) ((K + 1:Nat):Int) (List.replicate ((K + 1:Nat):Int).toNat (0:UInt8)).length ((K + 1:Nat):Int) (List.replicate ((K + 1:Nat):Int).toNat (0:UInt8)) 0=some (cdn x (K + 1),((K + 1:Nat):Int),false):=by
  rw [hrl]; exact e2
 have c1:Kp ((K + 1:Nat):Int) ((K + 1:Nat):Int) 1:=⟨rfl,by omega,by unfold qN; omega⟩
 have c2:qx (((K + 1:Nat):Int) - 1):=by unfold qx; omega
 have c3:(0:Int)≤((K + 1:Nat):Int) - 1∧((K + 1:Nat):Int) - 1 < (((List.replicate ((K + 1:Nat):Int).toNat (0:UInt8)).length:Nat):Int):=by rw [hrl]; omega
 have en:(((K + 1:Nat):Int) - 1).toNat=K:=by omega
 have hg:Kr (cdn x (K + 1)) (List.replicate ((K + 1:Nat):Int).toNat (0:UInt8)).length (((K + 1:Nat):Int) - 1).toNat=some (hiB x 0):=by
  rw [hrl,en,qsj (d:=0) (Xh x (K + 1)) (by rw [Xh]; omega),qi5]
 have c4:X0 (cdn x (K + 1)).length (List.replicate ((K + 1:Nat):Int).toNat (0:UInt8)).length (((K + 1:Nat):Int) - 1).toNat:=by rw [hrl]; exact ⟨Xh _ _,by omega⟩
 have hb:UInt8.ofNat (jx .u8 (((hiB x 0).toNat:Nat):Int) 128).toNat=loB x:=by
  rw [qpI,Nat.pow_zero,Nat.div_one,qpd _ (Nat.mod_lt _ (by omega)),Int.toNat_natCast]
  rfl
 have hs:(cdn x (K + 1)).set (((K + 1:Nat):Int) - 1).toNat (UInt8.ofNat (jx .u8 (((hiB x 0).toNat:Nat):Int) 128).toNat)=dn x K:=by rw [hb,en,qiZ]
 unfold Qp YI
 refine qn e1 <| qF c1 <| qn e3 <| qF c2 <| qF c3 <| qn hg <| qF c3 <| qF c4 <| qF (qkn _ _) <| qF ?_ <| qw (congrArg some hs)
 show ((cdn x (K + 1)).set (((K + 1:Nat):Int) - 1).toNat (UInt8.ofNat (jx .u8 (((hiB x 0).toNat:Nat):Int) 128).toNat)).length=_
 rw [List.length_set,Xh,hrl]
def Js (most:Nat) (b:List UInt8):List UInt8×Int×Bool:=match rdT most b with
 | some (s,n)=>(s,(n:Int),true)
 | none=>([],0,false)
theorem qmD {most:Nat} {b:List UInt8} (hm:most≤1000000000) (hb:b.length≤1000000000000):V_ N b (most:Int)=some (Js most b):=by
 unfold V_ qaw Js rdT
 refine qn (YH (N:=N) (by omega)) ?_
 unfold qgl
 cases hr:rdN 0 0 b with
 | none=>exact qF ⟨Int.le_refl _,by show (0:Int)≤((b.length:Nat):Int); omega⟩ <| w_f rfl <| qw rfl
 | some p=>
  obtain ⟨x,u⟩:=p
  obtain ⟨u1,u2,u3⟩:=qa5 hr
  have hx:=(Qv.forth b x u hr).1
  have hx:x < 18446744073709551616:=hx
  rw [Option.bind_some]
  refine qF ⟨by show (0:Int)≤(u:Int); omega,by show (u:Int)≤_; omega⟩ <| w_t rfl <| w_t (decide_eq_true (by omega)) ?_
  have hl:(b.drop ((u:Nat):Int).toNat).length=b.length - u:=by rw [List.length_drop]; rfl
  have hw:IntKind.u64.wrap (if ((((b.drop ((u:Nat):Int).toNat).length:Nat):Int) < ((most:Nat):Int)) then (((b.drop ((u:Nat):Int).toNat).length:Nat):Int) else ((most:Nat):Int))=((min most (b.length - u):Nat):Int):=by
   rw [hl]
   split
   ·rw [Qa (by omega)]; omega
   ·rw [Qa (by omega)]; omega
  show (Tree.cond (decide (((x:Nat):Int)≤IntKind.u64.wrap (if ((((b.drop ((u:Nat):Int).toNat).length:Nat):Int) < ((most:Nat):Int)) then (((b.drop ((u:Nat):Int).toNat).length:Nat):Int) else ((most:Nat):Int)))) _ _).run some=_
  rw [hw]
  by_cases hc:x≤most∧x≤b.length - u
  ·rw [if_pos hc]
   have c1:qx ((x:Nat):Int):=by unfold qx; omega
   refine w_t (decide_eq_true (by omega)) <| qF c1 <| qF ⟨Int.le_refl _,by show (0:Int)≤(x:Int); omega,by show (x:Int)≤(((b.drop ((u:Nat):Int).toNat).length:Nat):Int); rw [hl]; omega⟩ <| qF c1 <| qF (show qx (((u:Nat):Int) + ((x:Nat):Int)) by unfold qx; omega) <| qw ?_
   rfl
  ·rw [if_neg hc]
   exact w_f (decide_eq_false (by omega)) <| qw rfl
theorem qvT (s:qi):WU N s=some (if stB s=true then (zN s,true) else ([],false)):=by
 unfold WU qaH
 refine qn (qfV s) ?_
 cases h:stB s with
 | false=>exact w_t rfl <| qw rfl
 | true=>
  have hb:=qhS h
  have hx:=qf0 h
  refine w_f rfl <| qF (by omega) <| qn (show J1 N (uOr .u64 (Jq .u64 (IntKind.u64.wrap s.1) 3) (IntKind.u64.wrap s.2))=some (zN s,(zN s).length) by
   rw [qwn h,show (8:Int) * s.1 + s.2=((Ju s:Nat):Int) by unfold Ju; omega,Qa hx]
   exact qlu hx) <| qF rfl <| qw rfl
theorem qw6 {x:Nat} (h:x < 18446744073709551616):V2 .u64 ((x:Nat):Int) 7=((x % 8:Nat):Int):=by
 refine (u64_and_nat x 7 h (by omega)).trans ?_
 rw [show (7:Nat)=2 ^ 3 - 1 from rfl,Nat.and_two_pow_sub_one_eq_mod]
def Ql (b:List UInt8):qi×Int×Bool:=match rdS b with
 | some (s,n)=>(s,(n:Int),true)
 | none=>(zSt,0,false)
theorem qvv {b:List UInt8} (hb:b.length≤1000000000000000):KH N b=some (Ql b):=by
 unfold KH qae Ql rdS
 refine qn (YH (N:=N) hb) ?_
 unfold qgl
 cases hr:rdN 0 0 b with
 | none=>exact qF (by omega) <| qF (by decide) <| qF (by decide) <| w_t rfl <| qw rfl
 | some p=>
  obtain ⟨x,u⟩:=p
  have hx:x < 18446744073709551616:=(Qv.forth b x u hr).1
  have e1:Qd ((x:Nat):Int) 3=((x / 8:Nat):Int):=qbl x 3
  have e2:=qw6 hx
  rw [Option.bind_some]
  refine qF (by omega) <| qF (show qx (Qd ((x:Nat):Int) 3) by rw [e1]; unfold qx; omega) <| qF (show qx (V2 .u64 ((x:Nat):Int) 7) by rw [e2]; unfold qx; omega) <| w_f rfl ?_
  show (Tree.bind (JK (Qd ((x:Nat):Int) 3,V2 .u64 ((x:Nat):Int) 7)) fun r2=>Tree.cond (!r2) (.ret ((0,0),0,false)) (.ret ((Qd ((x:Nat):Int) 3,V2 .u64 ((x:Nat):Int) 7),((u:Nat):Int),true))).run some=_
  rw [e1,e2]
  refine qn (qfV _) ?_
  cases stB (((x / 8:Nat):Int),((x % 8:Nat):Int)) with
  | false=>exact w_t rfl <| qw rfl
  | true=>exact w_f rfl <| qw rfl
theorem qvA {l : List qb} (hl : l.length ≤ 60) (hv : ∀ p ∈ l, JG p) {o : List UInt8} (ho : o.length ≤ 10) :
    Xo N l ((l.length:Nat):Int) o 0=some (o++(l.map zU).flatten,((l.length:Nat):Int),false):=by
 have hN:=big N
 have e0:Xo N l ((l.length:Nat):Int) o 0=zG (ZD N l ((l.length:Nat):Int)) some N (o++((l.take 0).map zU).flatten,((0:Nat):Int)):=by rw [List.take_zero,List.map_nil,List.flatten_nil,List.append_nil]; rfl
 refine e0.trans (WO (σ:=Unit) (B:=ZD N l ((l.length:Nat):Int)) (g:=some) (at_:=fun k _=>(o++((l.take k).map zU).flatten,(k:Int))) (I:=fun _ _=>True) (f:=fun _ s=>s) (n:=l.length)
  (fin:=fun _=>(o++(l.map zU).flatten,((l.length:Nat):Int),false)) (fun k s hk _=>⟨?_,trivial⟩) (fun s _=>?_) N 0 () trivial (Nat.zero_le _) (by omega))
 ·have hm:l.getD k zP∈l:=by rw [List.getD_eq_getElem?_getD,List.getElem?_eq_getElem hk]; exact List.getElem_mem hk
  have hp:=hv _ hm
  have hlen:((l.take k).map zU).flatten.length≤211 * k:=by
   have:=qni (l:=l.take k) fun q hq=>hv q (List.mem_of_mem_take hq)
   rw [List.length_take,Nat.min_eq_left (Nat.le_of_lt hk)] at this
   exact this
  have hpl:=qik hp
  have nxt:∀ a:List (List UInt8),a.flatten=zU (l.getD k zP)→o++((l.take (k + 1)).map zU).flatten=((o++((l.take k).map zU).flatten)::a).flatten:=fun a ha=>by
   rw [qb3 (d:=zP) hk,List.map_append,List.flatten_append,List.flatten_cons,ha,List.append_assoc]; simp
  have conc:∀ a:List (List UInt8),a.length≤5→a.flatten=zU (l.getD k zP)→zg N ((o++((l.take k).map zU).flatten)::a)=some (o++((l.take (k + 1)).map zU).flatten):=fun a h5 ha=>by
   rw [nxt a ha]
   refine qjU (by rw [List.length_cons]; omega) ?_ (by rw [List.length_cons]; omega)
   rw [← qd8,List.flatten_cons,ha,List.length_append,List.length_append]; omega
  unfold ZD
  refine w_t (dec_lt hk) <| qn (XZ (d:=zP) hk) ?_
  unfold JG at hp
  cases hc:(l.getD k zP).JV with
  | true=>
   rw [if_pos hc] at hp
   have e1:Qp N (IntKind.u64.wrap (l.getD k zP).jK)=some (zw (l.getD k zP).jK.toNat):=by
    obtain ⟨z,hz⟩:∃ z:Nat,(l.getD k zP).jK=(z:Int):=⟨(l.getD k zP).jK.toNat,by omega⟩
    rw [hz,Qa (by omega),qlT (by omega),Int.toNat_natCast]
   have e2:Qp N (IntKind.u64.wrap (l.getD k zP).Len)=some (zw (l.getD k zP).Len.toNat):=by
    obtain ⟨z,hz⟩:∃ z:Nat,(l.getD k zP).Len=(z:Int):=⟨(l.getD k zP).Len.toNat,by omega⟩
    rw [hz,Qa (by omega),qlT (by omega),Int.toNat_natCast]
   refine w_t rfl <| qn e1 <| qn e2 <| qn (conc [[UInt8.ofNat 1],zw (l.getD k zP).jK.toNat,zw (l.getD k zP).Len.toNat] (by simp) ?_) <| qF (Vc (by omega)) <| qw (by rw [Q6])
   unfold zU
   rw [if_pos hc]; simp
  | false=>
   rw [if_neg (by rw [hc]; simp)] at hp
   refine w_f rfl <| qn (qmE (by show (l.getD k zP).Lit.length≤_; omega)) <| qn (conc [[UInt8.ofNat 0],vu (l.getD k zP).Lit] (by simp) ?_) <| qF (Vc (by omega)) <| qw (by rw [Q6])
   unfold zU
   rw [if_neg (by rw [hc]; simp)]; simp
 ·unfold ZD
  exact w_f (vF (Nat.lt_irrefl _)) (qw (by rw [vF (Nat.lt_irrefl _),List.take_of_length_le (Nat.le_refl _)]))
theorem qvr {l:List qb} (hl:l.length < N) (hl2:l.length≤1000000000000000):WZ N l=some (if vh l=true then (jq l,true) else ([],false)):=by
 unfold WZ qaA
 refine qn (qd0 hl hl2) ?_
 cases h:vh l with
 | false=>exact w_t rfl <| qw rfl
 | true=>
  obtain ⟨h1,h2,_⟩:=XP.1 h
  refine w_f rfl <| qn (show Qp N (IntKind.u64.wrap ((l.length:Nat):Int))=some (zw l.length) by rw [Qa (by omega)]; exact qlT (by omega)) <| qn (qvA h2 (fun p hp=>qgv (h1 p hp)) (VY (by omega)).2) <| qw rfl
theorem qsA {b:List UInt8} (hb:b.length≤1000000000000):∃ r,Vy N b=some r∧match rdP b with | some (p,n)=>r=(p,(n:Int),true) | none=>r.2.2=false:=by
 unfold Vy Yd
 cases b with
 | nil=>exact ⟨_,w_t rfl <| qw rfl,rfl⟩
 | cons c b=>
  rw [qgj]
  rw [List.length_cons] at hb
  have hg:zu (c::b) 0=some c:=rfl
  have hd:decide ((((c::b).length:Nat):Int)=0)=false:=decide_eq_false (by rw [List.length_cons]; omega)
  have hc1:(0:Int)≤(1:Int)∧(1:Int)≤(((c::b).length:Nat):Int):=⟨by omega,by rw [List.length_cons]; omega⟩
  by_cases h1:1 < c.toNat
  ·rw [if_pos h1]
   exact ⟨_,w_f hd <| qn hg <| w_t (decide_eq_true (by omega)) <| qw rfl,rfl⟩
  rw [if_neg h1]
  have d1:decide ((1:Int) < ((c.toNat:Nat):Int))=false:=decide_eq_false (by omega)
  by_cases h0:c.toNat=0
  ·rw [if_pos h0]
   have rd:=qmD (N:=N) (most:=200) (b:=b) (by omega) (by omega)
   unfold Js at rd
   cases ht:rdT 200 b with
   | none=>
    rw [ht] at rd
    exact ⟨_,w_f hd <| qn hg <| w_f d1 <| qn hg <| w_t (decide_eq_true (by omega)) <| qF hc1 <| qn rd <| qF (by decide) <| qw rfl,rfl⟩
   | some p=>
    obtain ⟨s,n⟩:=p
    rw [ht] at rd
    have:=((Wm (most:=200) (by omega)).forth b s n ht).2.1
    exact ⟨_,w_f hd <| qn hg <| w_f d1 <| qn hg <| w_t (decide_eq_true (by omega)) <| qF hc1 <| qn rd <| qF (Vc (by omega)) <| qw rfl,rfl⟩
  ·rw [if_neg h0]
   have rd:=YH (N:=N) (b:=b) (by omega)
   unfold qgl at rd
   have d0:decide (((c.toNat:Nat):Int)=0)=false:=decide_eq_false (by omega)
   cases hf:rdN 0 0 b with
   | none=>
    rw [hf] at rd
    have rd2:=YH (N:=N) (b:=b) (by omega)
    have hl:(0:Int)≤(1:Int) + 0∧(1:Int) + 0≤(((c::b).length:Nat):Int):=⟨by omega,by rw [List.length_cons]; omega⟩
    exact ⟨_,w_f hd <| qn hg <| w_f d1 <| qn hg <| w_f d0 <| qF hc1 <| qn rd <| qF (by decide) <| qF hl <| qn rd2 <| w_t rfl <| qw rfl,rfl⟩
   | some p=>
    obtain ⟨f,n⟩:=p
    rw [hf] at rd
    obtain ⟨_,n2,n3⟩:=qa5 hf
    have hf64:f < 18446744073709551616:=(Qv.forth b f n hf).1
    have rd2:=YH (N:=N) (b:=b.drop n) (by rw [List.length_drop]; omega)
    have en:(c::b).drop (((1:Int) + ((n:Nat):Int)).toNat)=b.drop n:=by rw [show ((1:Int) + ((n:Nat):Int)).toNat=n + 1 by omega]; rfl
    rw [← en] at rd2
    have hl:(0:Int)≤(1:Int) + ((n:Nat):Int)∧(1:Int) + ((n:Nat):Int)≤(((c::b).length:Nat):Int):=⟨by omega,by rw [List.length_cons]; omega⟩
    have c64:qx ((1:Int) + ((n:Nat):Int)):=by unfold qx; omega
    rw [Option.bind_some]
    show ∃ r:qb×Int×Bool,_∧match ((rdN 0 0 (b.drop n)).bind fun q=>if f≤200∧q.1≤200 then some (qb.mk true (f:Int) (q.1:Int) [],1 + n + q.2) else none) with | some (p,n)=>r=(p,(n:Int),true) | none=>r.2.2=false
    rw [← en]
    unfold qgl at rd2
    cases h2:rdN 0 0 ((c::b).drop (((1:Int) + ((n:Nat):Int)).toNat)) with
    | none=>
     rw [h2] at rd2
     exact ⟨_,w_f hd <| qn hg <| w_f d1 <| qn hg <| w_f d0 <| qF hc1 <| qn rd <| qF c64 <| qF hl <| qn rd2 <| w_f rfl <| w_t rfl <| qw rfl,rfl⟩
    | some q=>
     obtain ⟨z,j⟩:=q
     rw [h2] at rd2
     obtain ⟨_,j2,j3⟩:=qa5 h2
     rw [en,List.length_drop] at j3
     rw [Option.bind_some]
     show ∃ r:qb×Int×Bool,_∧match (if f≤200∧z≤200 then some (qb.mk true (f:Int) (z:Int) [],1 + n + j) else none) with | some (p,n)=>r=(p,(n:Int),true) | none=>r.2.2=false
     by_cases hf2:f≤200
     ·by_cases hz2:z≤200
      ·rw [if_pos ⟨hf2,hz2⟩]
       refine ⟨(qb.mk true (f:Int) (z:Int) [],((1 + n + j:Nat):Int),true),w_f hd <| qn hg <| w_f d1 <| qn hg <| w_f d0 <| qF hc1 <| qn rd <| qF c64 <| qF hl <| qn rd2 <| w_f rfl <| w_f rfl <| w_f (decide_eq_false (by show ¬ (200:Int) < (f:Int); omega)) <| w_f (decide_eq_false (by show ¬ (200:Int) < (z:Int); omega)) <| qF (qpH (n:=f) (by omega)) <| qF (qpH (n:=z) (by omega)) <| qF c64 <| qF (show qx ((1:Int) + ((n:Nat):Int) + ((j:Nat):Int)) by unfold qx; omega) <| qw ?_,rfl⟩
       show some (qb.mk true (f:Int) (z:Int) [],(1:Int) + ((n:Nat):Int) + ((j:Nat):Int),true)=_
       rw [show (1:Int) + ((n:Nat):Int) + ((j:Nat):Int)=((1 + n + j:Nat):Int) by omega]
      ·rw [if_neg (fun h=>hz2 h.2)]
       exact ⟨_,w_f hd <| qn hg <| w_f d1 <| qn hg <| w_f d0 <| qF hc1 <| qn rd <| qF c64 <| qF hl <| qn rd2 <| w_f rfl <| w_f rfl <| w_f (decide_eq_false (by show ¬ (200:Int) < (f:Int); omega)) <| w_t (decide_eq_true (by show (200:Int) < (z:Int); omega)) <| qw rfl,rfl⟩
     ·rw [if_neg (fun h=>hf2 h.1)]
      exact ⟨_,w_f hd <| qn hg <| w_f d1 <| qn hg <| w_f d0 <| qF hc1 <| qn rd <| qF c64 <| qF hl <| qn rd2 <| w_f rfl <| w_f rfl <| w_t (decide_eq_true (by show (200:Int) < (f:Int); omega)) <| qw rfl,rfl⟩
end
end Go.Rx
end
set_option maxRecDepth 100000
noncomputable section
namespace Go.Rx
open Go.Proofs
def qwV (y:vH):Option (List qb×Int):=match y with
 | .inl _=>none
 | .inr z=>some (z.1,z.2.1)
def Qo (b:List UInt8):List qb×Int×Bool:=match rdD b with
 | some (l,n)=>(l,(n:Int),true)
 | none=>([],0,false)
abbrev RdS:=List UInt8×Bool
def sk (s:RdS) (n:Nat) (is:Bool):RdS×List UInt8:=if s.2=false∧is=true∧n≤s.1.length then ((s.1.drop n,false),s.1.take n) else ((s.1,true),List.replicate n 0)
def Xr (p:List UInt8):Nat:=(p.getD 0 0).toNat
theorem qed (s:RdS) (n:Nat) (is:Bool):(sk s n is).2.length=n:=by
 unfold sk
 split
 ·rename_i h; rw [List.length_take]; exact Nat.min_eq_left h.2.2
 ·simp
theorem Ws (s:RdS) (n:Nat) (is:Bool):(sk s n is).1.1.length≤s.1.length:=by
 unfold sk
 split
 ·rw [List.length_drop]; omega
 ·exact Nat.le_refl _
section
variable {N:Nat} [Vx N]
theorem qvj {b:List UInt8} (hb:b.length≤1000000000000) {m u:Nat} (hm:m≤60) (hu:u≤b.length):∃ y,Kh N b (m:Int) [] (u:Int) 0=some y∧qwV y=(rdM rdP m (b.drop u)).map fun p=>(p.1,((u + p.2:Nat):Int)):=by
 refine qb9 (B:=Zu N b (m:Int)) (g:=some) (I:=fun v=>∃ (j k:Nat) (l:List qb),v=(l,(k:Int),(j:Int))∧j≤m∧l.length=j∧k≤b.length∧(rdM rdP (m - j) (b.drop k)).map (fun p=>(l++p.1,((k + p.2:Nat):Int)))=(rdM rdP m (b.drop u)).map fun p=>(p.1,((u + p.2:Nat):Int))) (fun v=>m - v.2.2.toNat) ?_ N _
  ⟨0,u,[],rfl,Nat.zero_le _,rfl,hu,rfl⟩ (by have:=big N; simp; omega)
 rintro v ⟨j,k,l,rfl,hj,hl,hk,hr⟩
 by_cases h:j < m
 ·obtain ⟨m',hm'⟩:∃ m',m - j=m' + 1:=⟨m - j - 1,by omega⟩
  rw [hm'] at hr
  obtain ⟨r,er,hp⟩:=qsA (N:=N) (b:=b.drop k) (by rw [List.length_drop]; omega)
  have er:Vy N (b.drop ((k:Nat):Int).toNat)=some r:=er
  have c1:(0:Int)≤(k:Int)∧(k:Int)≤((b.length:Nat):Int):=by omega
  cases hq:rdP (b.drop k) with
  | none=>
   rw [hq] at hp
   right
   have e:rdM rdP (m' + 1) (b.drop k)=none:=by unfold rdM; rw [hq]; rfl
   rw [e] at hr
   exact ⟨_,_,by unfold Zu; exact w_t (dec_lt h) <| qF c1 <| qn er <| w_t (by rw [hp]; rfl) <| qw rfl,by rfl,by rw [← hr]; rfl⟩
  | some q=>
   obtain ⟨p,n⟩:=q
   rw [hq] at hp
   have hp:r=(p,(n:Int),true):=hp
   subst hp
   have hn:=(K2.forth _ p n hq).2.1
   rw [List.length_drop] at hn
   left
   have e:rdM rdP (m' + 1) (b.drop k)=(rdM rdP m' ((b.drop k).drop n)).map fun q=>(p::q.1,n + q.2):=by
    show (rdP (b.drop k)).bind _=_
    rw [hq]; rfl
   rw [e,List.drop_drop] at hr
   have ej:Vw .u64 ((j:Nat):Int) 1=((j + 1:Nat):Int):=by
    show IntKind.u64.wrap (((j:Nat):Int) + 1)=_
    rw [Q6,Qa (by omega)]
   refine ⟨(l++[p],((k + n:Nat):Int),((j + 1:Nat):Int)),?_,⟨j + 1,k + n,l++[p],rfl,h,by rw [List.length_append,hl]; rfl,by omega,?_⟩,?_⟩
   ·unfold Zu
    refine w_t (dec_lt h) <| qF c1 <| qn er <| w_f rfl <| qF ⟨rfl,by rw [List.length_append,hl]; show (j + 1) * 40≤qN; unfold qN; omega⟩ <| qF (show qx (((k:Nat):Int) + ((n:Nat):Int)) by unfold qx; omega) <| qw ?_
    show some (Sum.inl (l++[p],((k:Nat):Int) + ((n:Nat):Int),Vw .u64 ((j:Nat):Int) 1))=_
    rw [ej,show ((k + n:Nat):Int)=((k:Nat):Int) + ((n:Nat):Int) from Int.natCast_add k n]
   ·rw [show m - (j + 1)=m' by omega,← hr,Option.map_map]
    congr 1
    funext q
    show (l++[p]++q.1,((k + n + q.2:Nat):Int))=(l++(p::q.1),((k + (n + q.2):Nat):Int))
    rw [List.append_assoc,Nat.add_assoc]; rfl
   ·show m - ((j + 1:Nat):Int).toNat < m - ((j:Nat):Int).toNat
    omega
 ·obtain rfl:j=m:=by omega
  right
  rw [Nat.sub_self] at hr
  exact ⟨_,_,by unfold Zu; exact w_f (vF (Nat.lt_irrefl _)) (qw rfl),by rfl,by rw [← hr]; show some (l,((k:Nat):Int))=some (l++[],((k + 0:Nat):Int)); rw [List.append_nil,Nat.add_zero]⟩
theorem qvg {b:List UInt8} (hb:b.length≤1000000000000):W3 N b=some (Qo b):=by
 have hN:=big N
 unfold W3 qaD Qo rdD
 refine qn (YH (N:=N) (by omega)) ?_
 unfold qgl
 cases hr:rdN 0 0 b with
 | none=>exact w_t rfl <| qw rfl
 | some p=>
  obtain ⟨m,u⟩:=p
  obtain ⟨_,_,u3⟩:=qa5 hr
  rw [Option.bind_some]
  by_cases hm:m≤60
  ·obtain ⟨y,ey,hy⟩:=qvj (N:=N) hb hm u3
   show _=some (match (if m≤60 then (rdM rdP m (b.drop u)).bind fun q=>if vh q.1=true then some (q.1,u + q.2) else none else none) with | some (l,n)=>(l,(n:Int),true) | none=>([],0,false))
   rw [if_pos hm]
   refine w_f rfl <| w_f (decide_eq_false (by show ¬ (60:Int) < (m:Int); omega)) <| qn ((qjP rfl).trans ey) ?_
   cases hq:rdM rdP m (b.drop u) with
   | none=>
    rw [hq] at hy
    cases y with
    | inl z=>exact w_l rfl <| qw rfl
    | inr z=>cases hy
   | some q=>
    obtain ⟨l,k⟩:=q
    rw [hq] at hy
    cases y with
    | inl z=>cases hy
    | inr z=>
     obtain ⟨z1,z2,z3⟩:=z
     have hz:(z1,z2)=(l,((u + k:Nat):Int)):=Option.some.inj hy
     obtain ⟨rfl,rfl⟩:=Prod.mk.inj hz
     have hlen:=((YV K2 m).forth _ z1 k hq).1.1
     rw [Option.bind_some]
     refine w_r rfl <| qF rfl <| qn (qd0 (l:=z1) (by omega) (by omega)) ?_
     show _=some (match (if vh z1=true then some (z1,u + k) else none) with | some (l,n)=>(l,(n:Int),true) | none=>([],0,false))
     cases vh z1 with
     | false=>exact w_t rfl <| qw rfl
     | true=>exact w_f rfl <| qF rfl <| qw rfl
  ·show _=some (match (if m≤60 then (rdM rdP m (b.drop u)).bind fun q=>if vh q.1=true then some (q.1,u + q.2) else none else none) with | some (l,n)=>(l,(n:Int),true) | none=>([],0,false))
   rw [if_neg hm]
   exact w_f rfl <| w_t (decide_eq_true (by show (60:Int) < (m:Int); omega)) <| qw rfl
end
theorem qeC {s:RdS} (hs:s.1.length≤1000000000000) {n:Nat} (hn:n≤1000000000000) (is:Bool):zB s (n:Int) is=some (sk s n is):=by
 obtain ⟨b,bad⟩:=s
 have hs:b.length≤1000000000000:=hs
 have hm:Kp ((n:Nat):Int) ((n:Nat):Int) 1:=⟨rfl,by omega,by unfold qN; omega⟩
 unfold zB V4 sk
 cases bad with
 | true=>
  rw [if_neg (fun h=>by cases h.1)]
  exact w_t rfl <| w_t rfl <| qF hm <| qF rfl <| qw rfl
 | false=>
  refine w_f rfl ?_
  cases is with
  | false=>
   rw [if_neg (fun h=>by cases h.2.1)]
   exact w_t rfl <| w_t rfl <| qF hm <| qF rfl <| qw rfl
  | true=>
   refine w_f rfl ?_
   by_cases h:b.length < n
   ·rw [if_neg (fun h'=>by have:n≤b.length:=h'.2.2; omega)]
    have e:decide ((((qe.b (b,false)).length:Nat):Int) < ((n:Nat):Int))=true:=decide_eq_true (by show ((b.length:Nat):Int) < _; omega)
    exact w_t e <| qF hm <| qF rfl <| qw (by rw [e]; rfl)
   ·rw [if_pos ⟨rfl,rfl,by show n≤b.length; omega⟩]
    have e:decide ((((qe.b (b,false)).length:Nat):Int) < ((n:Nat):Int))=false:=decide_eq_false (by show ¬ ((b.length:Nat):Int) < _; omega)
    refine w_f e <| qF ⟨Int.le_refl _,by omega,by show ((n:Nat):Int)≤((b.length:Nat):Int); omega⟩ <| qF ⟨by omega,by show ((n:Nat):Int)≤((b.length:Nat):Int); omega⟩ <| qw ?_
    rw [e]; rfl
theorem qlz {s:RdS} (hs:s.1.length≤1000000000000):Qe s=some ((sk s 1 true).1,((Xr (sk s 1 true).2:Nat):Int)):=by
 unfold Qe XQ
 have h:=qed s 1 true
 have hg:zu (sk s 1 true).2 (0:Int)=some ((sk s 1 true).2.getD 0 0):=XZ (d:=(0:UInt8)) (k:=0) (by omega)
 have:=((sk s 1 true).2.getD 0 0).toNat_lt
 exact qn (qeC (n:=1) hs (by omega) true) <| qn hg <| qF (by unfold qx; omega) <| qw rfl
theorem qu4 {s:RdS} (hs:s.1.length≤1000000000000):Zn s=some ((sk s 16 true).1,ZZ 16 (sk s 16 true).2):=by
 unfold Zn Wp
 have h:=qed s 16 true
 exact qn (qeC (n:=16) hs (by omega) true) <| qF ⟨by omega,by omega⟩ <| qw rfl
theorem qjQ {s:RdS} (hs:s.1.length≤1000000000000):jL s=some ((sk s 32 true).1,ZZ 32 (sk s 32 true).2):=by
 unfold jL J4
 have h:=qed s 32 true
 exact qn (qeC (n:=32) hs (by omega) true) <| qF ⟨by omega,by omega⟩ <| qw rfl
end Go.Rx
end
set_option maxRecDepth 100000
noncomputable section
namespace Go.Rx
open Go.Proofs
abbrev zE (a:Int):UInt8:=UInt8.ofNat a.toNat
def opT (o:qa):List UInt8:=if o.Kind=1 then zE o.No::vu o.V else if o.Kind=2 then zE o.No::(o.jK.toList++(zE o.je::o.D.toList)) else if o.Kind=3 then zE o.No::(jq o.P++o.D.toList) else []
def opW (o:qa):List UInt8:=zE o.Kind::(o.ID.toList++(zN o.S++opT o))
theorem qaR {o:qa}:opB o=true↔(0≤o.Kind∧o.Kind < 4)∧o=KW o∧o.S≠zSt∧stB o.S=true∧(0≤o.No∧o.No < 8)∧(0≤o.je∧o.je < 8)∧o.V.length≤200∧vh o.P=true:=by
 unfold opB qm6
 simp only [Bool.and_eq_true,Bool.not_eq_true',decide_eq_false_iff_not,decide_eq_true_iff]
 constructor
 ·rintro ⟨⟨⟨⟨⟨⟨⟨⟨h1,h2⟩,h3⟩,h4⟩,h5⟩,h6⟩,h7⟩,h8⟩,h9⟩
  exact ⟨by omega,h3,h4,h5,h6,h7,by omega,h9⟩
 ·rintro ⟨h1,h3,h4,h5,h6,h7,h8,h9⟩
  exact ⟨⟨⟨⟨⟨⟨⟨⟨by omega,by omega⟩,h3⟩,h4⟩,h5⟩,h6⟩,h7⟩,by omega⟩,h9⟩
theorem qfG {l:List qb} (h:vh l=true):(jq l).length≤12670:=by
 obtain ⟨h1,h2,_⟩:=XP.1 h
 have h3:=qni (l:=l) fun p hp=>qgv (h1 p hp)
 have h4:=(VY (x:=l.length) (by omega)).2
 unfold jq
 rw [List.length_append]; omega
theorem qic {s:qi} (h:stB s=true):1≤(zN s).length∧(zN s).length≤10:=VY (qf0 h)
theorem qqR {a:Int} (h0:0≤a) (h1:a < 256):IntKind.u8.wrap a=a:=by
 have:IntKind.u8.wrap a=a % 256:=by simp [IntKind.wrap,IntKind.bits,IntKind.signed]
 rw [this]; omega
section
variable {N:Nat} [Vx N]
theorem qhm {a:List (List UInt8)} {r:List UInt8} (h5:a.length≤10) (h:a.flatten=r) (hr:r.length≤1000000):zg N a=some r:=by
 have:=big N
 rw [← h]
 exact qjU (by omega) (by rw [← qd8,h]; omega) (by omega)
theorem qph {o:qa} (hl:(qa.P o).length < N) (hl2:(qa.P o).length≤1000000000000000):XI N o=some (if opB o=true then (opW o,true) else ([],false)):=by
 unfold XI qgm
 refine qn (qgz hl hl2) ?_
 cases h:opB o with
 | false=>exact w_t rfl <| qw rfl
 | true=>
  obtain ⟨hk,_,_,hs,hn,hf,hv,hp⟩:=qaR.1 h
  have l1:=(qic hs).2
  have eID:(o.ID:Vector UInt8 16).toList.length=16:=Vector.length_toList
  have eFr:(o.jK:Vector UInt8 16).toList.length=16:=Vector.length_toList
  have eD:(o.D:Vector UInt8 32).toList.length=32:=Vector.length_toList
  have kb:[UInt8.ofNat (IntKind.u8.wrap (qa.Kind o)).toNat]=[zE o.Kind]:=by rw [qqR hk.1 (by omega)]
  have nb:[UInt8.ofNat (IntKind.u8.wrap (qa.No o)).toNat]=[zE o.No]:=by rw [qqR hn.1 (by omega)]
  have fb:[UInt8.ofNat (IntKind.u8.wrap (qa.je o)).toNat]=[zE o.je]:=by rw [qqR hf.1 (by omega)]
  have s1:WU N (qa.S o)=some (zN o.S,true):=by rw [qvT,if_pos hs]
  refine w_f rfl <| qn s1 <| qF (V9 _) <| qn (x:=zE o.Kind::(o.ID.toList++zN o.S)) ?_ ?_
  ·rw [kb]
   exact qhm (by simp) (by simp) (by rw [List.length_cons,List.length_append]; omega)
  ·unfold opW opT
   refine zT rfl (fun h1=>?_) fun h1=>?_
   ·have lt:=qdp (s:=o.V) (by omega)
    rw [if_pos (of_decide_eq_true h1)]
    refine qF (V9 _) <| qn (qmE (by show o.V.length≤_; omega)) <| qn (qhm (r:=zE o.Kind::(o.ID.toList++(zN o.S++zE o.No::vu o.V))) (by simp) ?_ ?_) <| qw rfl
    ·rw [nb]; simp
    ·simp only [List.length_cons,List.length_append]; omega
   rw [if_neg (of_decide_eq_false h1)]
   refine zT rfl (fun h2=>?_) fun h2=>?_
   ·rw [if_pos (of_decide_eq_true h2)]
    refine qF (V9 _) <| qF (V9 _) <| qn (qhm (r:=zE o.Kind::(o.ID.toList++(zN o.S++zE o.No::(o.jK.toList++zE o.je::o.D.toList)))) (by simp) ?_ ?_) <| qw rfl
    ·rw [nb,fb]; simp
    ·simp only [List.length_cons,List.length_append]; omega
   rw [if_neg (of_decide_eq_false h2)]
   refine zT rfl (fun h3=>?_) fun h3=>?_
   ·have lp:=qfG hp
    rw [if_pos (of_decide_eq_true h3)]
    refine qn (show WZ N (qa.P o)=some (jq o.P,true) by rw [qvr hl hl2,if_pos hp]) <| qF (V9 _) <| qn (qhm (r:=zE o.Kind::(o.ID.toList++(zN o.S++zE o.No::(jq o.P++o.D.toList)))) (by simp) ?_ ?_) <| qw rfl
    ·rw [nb]; simp
    ·simp only [List.length_cons,List.length_append]; omega
   rw [if_neg (of_decide_eq_false h3)]
   exact qw (by rw [List.append_nil]; rfl)
theorem qvy {o:qa} (h:opB o=true):18≤(opW o).length∧(opW o).length≤13000:=by
 obtain ⟨_,_,_,hs,_,_,hv,hp⟩:=qaR.1 h
 have l1:=qic hs
 have eID:(o.ID:Vector UInt8 16).toList.length=16:=Vector.length_toList
 have eFr:(o.jK:Vector UInt8 16).toList.length=16:=Vector.length_toList
 have eD:(o.D:Vector UInt8 32).toList.length=32:=Vector.length_toList
 have lt:=qdp (s:=o.V) (by omega)
 have lp:=qfG hp
 have:(opT o).length≤12800:=by
  unfold opT
  split
  ·rw [List.length_cons]; omega
  ·split
   ·simp only [List.length_cons,List.length_append]; omega
   ·split
    ·simp only [List.length_cons,List.length_append]; omega
    ·exact Nat.zero_le _
 unfold opW
 simp only [List.length_cons,List.length_append]; omega
abbrev zO:qa:=qa.mk 0 zI zSt 0 [] [] zI 0 zD
def Ki (b:List UInt8) (s:RdS) (o:qa):qa×Int×Bool:=if s.2=false∧opB o=true then (o,((b.length:Nat):Int) - ((s.1.length:Nat):Int),true) else (zO,0,false)
def qwd (N:Nat) (b:List UInt8) (s:RdS) (o:qa):Tree (qa×Int×Bool):=
 .cond (qe.bad s) (.ret (zO,0,false)) <| .bind (QX N o) fun r=>.cond (!r) (.ret (zO,0,false)) <| .chk (qx (((b.length:Nat):Int) - (((qe.b s).length:Nat):Int))) <| .ret (o,((b.length:Nat):Int) - (((qe.b s).length:Nat):Int),true)
theorem qd1 {b:List UInt8} {s:RdS} {o:qa} (hb:b.length≤1000000000000) (hs:s.1.length≤b.length) (hl:(qa.P o).length < N) (hl2:(qa.P o).length≤1000000000000000):(qwd N b s o).run some=some (Ki b s o):=by
 obtain ⟨r,bad⟩:=s
 have hs:r.length≤b.length:=hs
 unfold qwd Ki
 cases bad with
 | true=>exact w_t rfl <| qw (by rw [if_neg (fun h=>by cases h.1)])
 | false=>
  refine w_f rfl <| qn (qgz hl hl2) ?_
  cases h:opB o with
  | false=>exact w_t rfl <| qw (by rw [if_neg (fun h=>by cases h.2)])
  | true=>exact w_f rfl <| qF (show qx (((b.length:Nat):Int) - ((r.length:Nat):Int)) by unfold qx; omega) <| qw (by rw [if_pos ⟨rfl,rfl⟩]; rfl)
abbrev skI (s:RdS) (r:Int×Bool):RdS×List UInt8:=sk s r.1.toNat r.2
def qqY (b:List UInt8) (k:Int) (id:Vector UInt8 16) (S:qi) (no:Int) (s:RdS):qa×Int×Bool:=
 if k=1 then Ki b (skI s (Js 200 s.1).2).1 (qa.mk k id S no (Js 200 s.1).1 [] zI 0 zD)
 else if k=2 then Ki b (sk (sk (sk s 16 true).1 1 true).1 32 true).1 (qa.mk k id S no [] [] (ZZ 16 (sk s 16 true).2) ((Xr (sk (sk s 16 true).1 1 true).2:Nat):Int) (ZZ 32 (sk (sk (sk s 16 true).1 1 true).1 32 true).2))
 else if k=3 then Ki b (sk (skI s (Qo s.1).2).1 32 true).1 (qa.mk k id S no [] (Qo s.1).1 zI 0 (ZZ 32 (sk (skI s (Qo s.1).2).1 32 true).2))
 else Ki b s (qa.mk k id S no [] [] zI 0 zD)
def qmz (b:List UInt8) (k:Int) (id:Vector UInt8 16) (S:qi) (s:RdS):qa×Int×Bool:=
 if k=0 then Ki b s (qa.mk k id S 0 [] [] zI 0 zD) else qqY b k id S ((Xr (sk s 1 true).2:Nat):Int) (sk s 1 true).1
def opG (b:List UInt8):qa×Int×Bool:=
 qmz b ((Xr (sk (b,false) 1 true).2:Nat):Int) (ZZ 16 (sk (sk (b,false) 1 true).1 16 true).2) (Ql (sk (sk (b,false) 1 true).1 16 true).1.1).1 (skI (sk (sk (b,false) 1 true).1 16 true).1 (Ql (sk (sk (b,false) 1 true).1 16 true).1.1).2).1
theorem qgn {s:RdS} (hs:s.1.length≤1000000000000) {r:Int×Bool} (h0:0≤r.1) (hn:r.1≤1000000000000):zB s r.1 r.2=some (skI s r):=by
 obtain ⟨n,is⟩:=r
 obtain ⟨m,rfl⟩:∃ m:Nat,n=(m:Int):=⟨n.toNat,by have:0≤n:=h0; omega⟩
 have hn:(m:Int)≤1000000000000:=hn
 exact qeC hs (by omega) is
theorem qv7 (b:List UInt8):0≤(Ql b).2.1∧(Ql b).2.1≤((b.length:Nat):Int):=by
 unfold Ql
 cases h:rdS b with
 | none=>exact ⟨Int.le_refl _,by show (0:Int)≤_; omega⟩
 | some p=>have:=(qda.forth b p.1 p.2 h).2.1; exact ⟨by show (0:Int)≤(p.2:Int); omega,by show (p.2:Int)≤_; omega⟩
theorem qv1 (b:List UInt8):0≤(Js 200 b).2.1∧(Js 200 b).2.1≤((b.length:Nat):Int):=by
 unfold Js
 cases h:rdT 200 b with
 | none=>exact ⟨Int.le_refl _,by show (0:Int)≤_; omega⟩
 | some p=>have:=((Wm (most:=200) (by omega)).forth b p.1 p.2 h).2.1; exact ⟨by show (0:Int)≤(p.2:Int); omega,by show (p.2:Int)≤_; omega⟩
theorem qvl (b:List UInt8):(0≤(Qo b).2.1∧(Qo b).2.1≤((b.length:Nat):Int))∧(Qo b).1.length≤60:=by
 unfold Qo
 cases h:rdD b with
 | none=>exact ⟨⟨Int.le_refl _,by show (0:Int)≤_; omega⟩,Nat.zero_le _⟩
 | some p=>
  have:=qbT.forth b p.1 p.2 h
  have h2:=(XP.1 this.1).2.1
  exact ⟨⟨by show (0:Int)≤(p.2:Int); omega,by show (p.2:Int)≤_; omega⟩,h2⟩
theorem qoW {b:List UInt8} (hb:b.length≤1000000000000):WS N b=some (opG b):=by
 have hN:=big N
 have h1:=Ws (b,false) 1 true
 have h1:(sk (b,false) 1 true).1.1.length≤b.length:=h1
 have h2:=Ws (sk (b,false) 1 true).1 16 true
 unfold WS qf9 opG
 refine qn (qlz (s:=(b,false)) hb) <| qn (qu4 (s:=(sk (b,false) 1 true).1) (by omega)) ?_
 generalize hs2:(sk (sk (b,false) 1 true).1 16 true).1=s2 at h2
 generalize ZZ 16 (sk (sk (b,false) 1 true).1 16 true).2=id
 generalize ((Xr (sk (b,false) 1 true).2:Nat):Int)=k
 have g3:=qv7 s2.1
 have h4:(skI s2 (Ql s2.1).2).1.1.length≤s2.1.length:=Ws _ _ _
 refine qn (qvv (N:=N) (b:=s2.1) (by omega)) <| qn (qgn (s:=s2) (r:=(Ql s2.1).2) (by omega) g3.1 (by omega)) ?_
 generalize (skI s2 (Ql s2.1).2).1=s4 at h4
 generalize (Ql s2.1).1=S
 unfold qmz
 refine zT (c:=!decide (k=0)) rfl (fun h0=>?_) fun h0=>?_
 ·rw [Bool.not_eq_true'] at h0
  rw [if_neg (of_decide_eq_false h0)]
  have h5:=Ws s4 1 true
  refine qn (qlz (s:=s4) (by omega)) ?_
  generalize (sk s4 1 true).1=s5 at h5
  generalize ((Xr (sk s4 1 true).2:Nat):Int)=no
  unfold qqY
  refine zT rfl (fun hk=>?_) fun hk=>?_
  ·rw [if_pos (of_decide_eq_true hk)]
   have g:=qv1 s5.1
   have h6:(skI s5 (Js 200 s5.1).2).1.1.length≤s5.1.length:=Ws _ _ _
   exact qn (qmD (N:=N) (most:=200) (b:=s5.1) (by omega) (by omega)) <| qn (qgn (s:=s5) (r:=(Js 200 s5.1).2) (by omega) g.1 (by omega)) <| qd1 hb (by omega) (by show 0 < N; omega) (Nat.zero_le _)
  rw [if_neg (of_decide_eq_false hk)]
  refine zT rfl (fun hk=>?_) fun hk=>?_
  ·rw [if_pos (of_decide_eq_true hk)]
   have h6:=Ws s5 16 true
   have h7:=Ws (sk s5 16 true).1 1 true
   have h8:=Ws (sk (sk s5 16 true).1 1 true).1 32 true
   exact qn (qu4 (s:=s5) (by omega)) <| qn (qlz (s:=(sk s5 16 true).1) (by omega)) <| qn (qjQ (s:=(sk (sk s5 16 true).1 1 true).1) (by omega)) <| qd1 (s:=(sk (sk (sk s5 16 true).1 1 true).1 32 true).1) hb (by omega) (by show 0 < N; omega) (Nat.zero_le _)
  rw [if_neg (of_decide_eq_false hk)]
  refine zT rfl (fun hk=>?_) fun hk=>?_
  ·rw [if_pos (of_decide_eq_true hk)]
   have g:=qvl s5.1
   have h6:(skI s5 (Qo s5.1).2).1.1.length≤s5.1.length:=Ws _ _ _
   have h7:=Ws (skI s5 (Qo s5.1).2).1 32 true
   exact qn (qvg (N:=N) (b:=s5.1) (by omega)) <| qn (qgn (s:=s5) (r:=(Qo s5.1).2) (by omega) g.1.1 (by omega)) <| qn (qjQ (s:=(skI s5 (Qo s5.1).2).1) (by omega)) <| qd1 (s:=(sk (skI s5 (Qo s5.1).2).1 32 true).1) hb (by omega) (by show (Qo s5.1).1.length < N; omega) (by show (Qo s5.1).1.length≤_; omega)
  rw [if_neg (of_decide_eq_false hk)]
  exact qd1 hb (by omega) (by show 0 < N; omega) (Nat.zero_le _)
 ·rw [Bool.not_eq_false'] at h0
  have h0:=of_decide_eq_true h0
  rw [if_pos h0]
  exact w_f (decide_eq_false (by omega)) <| w_f (decide_eq_false (by omega)) <| w_f (decide_eq_false (by omega)) <| qd1 hb (by omega) (by show 0 < N; omega) (Nat.zero_le _)
end
end Go.Rx
end
set_option maxRecDepth 100000
noncomputable section
namespace Go.Rx
open Go.Proofs
theorem qka {n:Nat} {p:List UInt8} (h:p.length=n):(ZZ n p).toList=p:=by
 apply List.ext_getElem
 ·rw [Vector.length_toList,h]
 ·intro i h1 h2
  rw [Vector.getElem_toList]
  unfold ZZ
  rw [Vector.getElem_ofFn,List.getD_eq_getElem?_getD,List.getElem?_eq_getElem h2]; rfl
theorem K7 {n:Nat} (v:Vector UInt8 n):ZZ n v.toList=v:=by
 apply Vector.toList_inj.1
 exact qka Vector.length_toList
theorem qaS {a:Int} (h0:0≤a) (h1:a < 256):((Xr [zE a]:Nat):Int)=a:=by
 show (((UInt8.ofNat a.toNat).toNat:Nat):Int)=a
 rw [UInt8.toNat_ofNat_of_lt' (show a.toNat < UInt8.size by unfold UInt8.size; omega)]
 omega
theorem qv0 {p:List UInt8} (h:p.length=1):p=[zE ((Xr p:Nat):Int)]:=by
 match p,h with
 | [c],_=>show [c]=[UInt8.ofNat ((c.toNat:Nat):Int).toNat]; rw [Int.toNat_natCast,UInt8.ofNat_toNat]
theorem WB {p r:List UInt8} {n:Nat} (h:p.length=n):sk (p++r,false) n true=((r,false),p):=by
 subst h
 unfold sk
 rw [if_pos ⟨rfl,rfl,by show p.length≤(p++r).length; rw [List.length_append]; omega⟩]
 show (((p++r).drop p.length,false),(p++r).take p.length)=_
 rw [List.drop_left,List.take_left]
theorem qbm {s:RdS} {n:Nat} {is:Bool} (h:(sk s n is).1.2=false):s.2=false∧is=true∧n≤s.1.length∧(sk s n is).2=s.1.take n∧s.1=(sk s n is).2++(sk s n is).1.1:=by
 unfold sk at h ⊢
 split
 ·rename_i hc
  exact ⟨hc.1,hc.2.1,hc.2.2,rfl,(List.take_append_drop _ _).symm⟩
 ·rename_i hc
  rw [if_neg hc] at h; cases h
theorem qhj {s:RdS} (h:(sk s 1 true).1.2=false):s.2=false∧s.1=zE ((Xr (sk s 1 true).2:Nat):Int)::(sk s 1 true).1.1:=by
 obtain ⟨h1,_,_,_,h2⟩:=qbm h
 refine ⟨h1,?_⟩
 rw [qv0 (qed s 1 true)] at h2
 exact h2
theorem qqM {s:RdS} {n:Nat} (h:(sk s n true).1.2=false):s.2=false∧s.1=(ZZ n (sk s n true).2).toList++(sk s n true).1.1:=by
 obtain ⟨h1,_,_,_,h2⟩:=qbm h
 exact ⟨h1,by rw [qka (qed s n true)]; exact h2⟩
theorem qw1 {s:RdS} (h:(skI s (Ql s.1).2).1.2=false):s.2=false∧s.1=zN (Ql s.1).1++(skI s (Ql s.1).2).1.1:=by
 obtain ⟨h1,h2,_,h3,h4⟩:=qbm h
 refine ⟨h1,?_⟩
 have:zN (Ql s.1).1=(skI s (Ql s.1).2).2:=by
  rw [h3]
  unfold Ql at h2 ⊢
  cases e:rdS s.1 with
  | none=>rw [e] at h2; cases h2
  | some p=>exact (qda.forth s.1 p.1 p.2 e).2.2.symm
 rw [this]; exact h4
theorem qw5 {s:RdS} (h:(skI s (Js 200 s.1).2).1.2=false):s.2=false∧s.1=vu (Js 200 s.1).1++(skI s (Js 200 s.1).2).1.1:=by
 obtain ⟨h1,h2,_,h3,h4⟩:=qbm h
 refine ⟨h1,?_⟩
 have:vu (Js 200 s.1).1=(skI s (Js 200 s.1).2).2:=by
  rw [h3]
  unfold Js at h2 ⊢
  cases e:rdT 200 s.1 with
  | none=>rw [e] at h2; cases h2
  | some p=>exact ((Wm (most:=200) (by omega)).forth s.1 p.1 p.2 e).2.2.symm
 rw [this]; exact h4
theorem qw7 {s:RdS} (h:(skI s (Qo s.1).2).1.2=false):s.2=false∧s.1=jq (Qo s.1).1++(skI s (Qo s.1).2).1.1:=by
 obtain ⟨h1,h2,_,h3,h4⟩:=qbm h
 refine ⟨h1,?_⟩
 have:jq (Qo s.1).1=(skI s (Qo s.1).2).2:=by
  rw [h3]
  unfold Qo at h2 ⊢
  cases e:rdD s.1 with
  | none=>rw [e] at h2; cases h2
  | some p=>exact (qbT.forth s.1 p.1 p.2 e).2.2.symm
 rw [this]; exact h4
theorem qa7 {b r:List UInt8} {o:qa} (h:opB o=true) (hb:b=opW o++r):Ki b (r,false) o=(o,(((opW o).length:Nat):Int),true):=by
 unfold Ki
 rw [if_pos ⟨rfl,h⟩,hb,List.length_append]
 refine Prod.ext rfl (Prod.ext ?_ rfl)
 show (((opW o).length + r.length:Nat):Int) - ((r.length:Nat):Int)=(((opW o).length:Nat):Int)
 omega
theorem qwL {o:qa} (h:o.Kind=0):opT o=[]:=by
 unfold opT
 rw [if_neg (by omega),if_neg (by omega),if_neg (by omega)]
theorem qu1 {o:qa} (h:o.Kind=1):opT o=zE o.No::vu o.V:=if_pos h
theorem qu7 {o:qa} (h:o.Kind=2):opT o=zE o.No::(o.jK.toList++(zE o.je::o.D.toList)):=by
 unfold opT
 rw [if_neg (by omega),if_pos h]
theorem qvc {o:qa} (h:o.Kind=3):opT o=zE o.No::(jq o.P++o.D.toList):=by
 unfold opT
 rw [if_neg (by omega),if_neg (by omega),if_pos h]
theorem qvi {o:qa} (h:opB o=true) (r:List UInt8):opG (opW o++r)=(o,(((opW o).length:Nat):Int),true):=by
 obtain ⟨hk,ho,_,hs,hn,hf,hv,hp⟩:=qaR.1 h
 have e1:sk (opW o++r,false) 1 true=((o.ID.toList++(zN o.S++(opT o++r)),false),[zE o.Kind]):=by
  rw [show opW o++r=[zE o.Kind]++(o.ID.toList++(zN o.S++(opT o++r))) by unfold opW; simp]
  exact WB rfl
 have e2:sk (o.ID.toList++(zN o.S++(opT o++r)),false) 16 true=((zN o.S++(opT o++r),false),o.ID.toList):=WB Vector.length_toList
 have e3:Ql (zN o.S++(opT o++r))=(o.S,(((zN o.S).length:Nat):Int),true):=by
  unfold Ql
  rw [qda.back o.S _ hs]
 have e4:skI (zN o.S++(opT o++r),false) ((((zN o.S).length:Nat):Int),true)=((opT o++r,false),zN o.S):=WB rfl
 have e5:opG (opW o++r)=qmz (opW o++r) o.Kind o.ID o.S (opT o++r,false):=by
  unfold opG
  rw [e1]
  dsimp only
  rw [e2]
  dsimp only
  rw [e3]
  dsimp only
  rw [e4,qaS hk.1 (by omega),K7]
 rw [e5]
 unfold qmz
 by_cases h0:o.Kind=0
 ·have hT : opT o = [] := by
     unfold opT
     rw [if_neg (by omega),if_neg (by omega),if_neg (by omega)]
  have hO:qa.mk o.Kind o.ID o.S 0 [] [] zI 0 zD=o:=by
   have:=ho
   unfold KW at this
   rw [if_neg (by omega),if_neg (by omega),if_neg (by omega)] at this
   exact this.symm
  rw [if_pos h0,hT,hO,List.nil_append]
  exact qa7 h rfl
 rw [if_neg h0]
 have one:∀ t,opT o=zE o.No::t→sk (opT o++r,false) 1 true=((t++r,false),[zE o.No]):=fun t ht=>by
  rw [ht,show zE o.No::t++r=[zE o.No]++(t++r) from rfl]
  exact WB rfl
 unfold qqY
 by_cases h1:o.Kind=1
 ·have hO : qa.mk o.Kind o.ID o.S o.No o.V [] zI 0 zD = o := by
     have:=ho
     unfold KW at this
     rw [if_pos h1] at this
     exact this.symm
  have e6:Js 200 (vu o.V++r)=(o.V,(((vu o.V).length:Nat):Int),true):=by
   unfold Js
   rw [(Wm (most:=200) (by omega)).back o.V r hv]
  have e7:skI (vu o.V++r,false) ((((vu o.V).length:Nat):Int),true)=((r,false),vu o.V):=WB rfl
  rw [if_pos h1,one (vu o.V) (qu1 h1)]
  dsimp only
  rw [e6]
  dsimp only
  rw [e7,qaS hn.1 (by omega)]
  dsimp only
  rw [hO]
  exact qa7 h rfl
 rw [if_neg h1]
 by_cases h2:o.Kind=2
 ·have hO : qa.mk o.Kind o.ID o.S o.No [] [] o.jK o.je o.D = o := by
     have:=ho
     unfold KW at this
     rw [if_neg h1,if_pos h2] at this
     exact this.symm
  have e6:sk (o.jK.toList++(zE o.je::o.D.toList)++r,false) 16 true=(([zE o.je]++(o.D.toList++r),false),o.jK.toList):=by
   rw [List.append_assoc]; exact WB Vector.length_toList
  have e7:sk ([zE o.je]++(o.D.toList++r),false) 1 true=((o.D.toList++r,false),[zE o.je]):=WB rfl
  have e8:sk (o.D.toList++r,false) 32 true=((r,false),o.D.toList):=WB Vector.length_toList
  rw [if_pos h2,one (o.jK.toList++(zE o.je::o.D.toList)) (qu7 h2)]
  dsimp only
  rw [e6]
  dsimp only
  rw [e7]
  dsimp only
  rw [e8,qaS hn.1 (by omega),qaS hf.1 (by omega)]
  dsimp only
  rw [K7,K7,hO]
  exact qa7 h rfl
 rw [if_neg h2]
 have h3:o.Kind=3:=by omega
 have hO:qa.mk o.Kind o.ID o.S o.No [] o.P zI 0 o.D=o:=by
  have:=ho
  unfold KW at this
  rw [if_neg h1,if_neg h2,if_pos h3] at this
  exact this.symm
 have e6:Qo (jq o.P++o.D.toList++r)=(o.P,(((jq o.P).length:Nat):Int),true):=by
  unfold Qo
  rw [List.append_assoc,qbT.back o.P _ hp]
 have e7:skI (jq o.P++o.D.toList++r,false) ((((jq o.P).length:Nat):Int),true)=((o.D.toList++r,false),jq o.P):=by
  rw [List.append_assoc]; exact WB rfl
 have e8:sk (o.D.toList++r,false) 32 true=((r,false),o.D.toList):=WB Vector.length_toList
 rw [if_pos h3,one (jq o.P++o.D.toList) (qvc h3)]
 dsimp only
 rw [e6]
 dsimp only
 rw [e7]
 dsimp only
 rw [e8,qaS hn.1 (by omega)]
 dsimp only
 rw [K7,hO]
 exact qa7 h rfl
def qvb (b:List UInt8) (x:qa×Int×Bool):Prop:=x=(zO,0,false)∨∃ o r,x=(o,(((opW o).length:Nat):Int),true)∧opB o=true∧b=opW o++r
theorem qbn {b:List UInt8} {s:RdS} {o:qa} (h:s.2=false→opB o=true→b=opW o++s.1):qvb b (Ki b s o):=by
 by_cases hc:s.2=false∧opB o=true
 ·right
  have hb:=h hc.1 hc.2
  obtain ⟨r,bad⟩:=s
  obtain rfl:bad=false:=hc.1
  exact ⟨o,r,qa7 hc.2 hb,hc.2,hb⟩
 ·left
  unfold Ki
  rw [if_neg hc]
theorem qwh (b:List UInt8):qvb b (opG b):=by
 unfold opG
 have front : (skI (sk (sk (b, false) 1 true).1 16 true).1 (Ql (sk (sk (b, false) 1 true).1 16 true).1.1).2).1.2 = false →
     b=zE ((Xr (sk (b,false) 1 true).2:Nat):Int)::((ZZ 16 (sk (sk (b,false) 1 true).1 16 true).2).toList++(zN (Ql (sk (sk (b,false) 1 true).1 16 true).1.1).1++(skI (sk (sk (b,false) 1 true).1 16 true).1 (Ql (sk (sk (b,false) 1 true).1 16 true).1.1).2).1.1)):=fun h=>by
  obtain ⟨h1,h2⟩:=qw1 h
  obtain ⟨h3,h4⟩:=qqM h1
  obtain ⟨_,h5⟩:=qhj h3
  rw [h2] at h4
  rw [h4] at h5
  exact h5
 generalize ((Xr (sk (b,false) 1 true).2:Nat):Int)=k at front
 generalize ZZ 16 (sk (sk (b,false) 1 true).1 16 true).2=id at front
 generalize (Ql (sk (sk (b,false) 1 true).1 16 true).1.1).1=S at front
 generalize (skI (sk (sk (b,false) 1 true).1 16 true).1 (Ql (sk (sk (b,false) 1 true).1 16 true).1.1).2).1=s4 at front
 have whole:∀ (o:qa) (r:List UInt8),s4.2=false→o.Kind=k→o.ID=id→o.S=S→s4.1=opT o++r→b=opW o++r:=fun o r h0 h1 h2 h3 h4=>by
  rw [front h0,h4]
  unfold opW
  rw [h1,h2,h3]; simp
 unfold qmz
 split
 ·rename_i h0
  exact qbn fun hs _=>whole _ _ hs rfl rfl rfl (by rw [qwL (show qa.Kind (qa.mk k id S _ _ _ _ _ _)=0 from h0)]; rfl)
 rename_i h0
 unfold qqY
 split
 ·rename_i h1
  exact qbn fun hs _=>by
   obtain ⟨t1,t2⟩:=qw5 hs
   obtain ⟨t3,t4⟩:=qhj t1
   refine whole _ _ t3 rfl rfl rfl ?_
   rw [qu1 (show qa.Kind (qa.mk k id S _ _ _ _ _ _)=1 from h1),t4,List.cons_append]
   exact congrArg _ t2
 split
 ·rename_i h1 h2
  exact qbn fun hs _=>by
   obtain ⟨t1,t2⟩:=qqM hs
   obtain ⟨t3,t4⟩:=qhj t1
   obtain ⟨t5,t6⟩:=qqM t3
   obtain ⟨t7,t8⟩:=qhj t5
   refine whole _ _ t7 rfl rfl rfl ?_
   rw [qu7 (show qa.Kind (qa.mk k id S _ _ _ _ _ _)=2 from h2),t8,List.cons_append]
   refine congrArg _ (t6.trans ?_)
   rw [List.append_assoc,List.cons_append]
   refine congrArg _ (t4.trans ?_)
   exact congrArg _ t2
 split
 ·rename_i h1 h2 h3
  exact qbn fun hs _=>by
   obtain ⟨t1,t2⟩:=qqM hs
   obtain ⟨t3,t4⟩:=qw7 t1
   obtain ⟨t5,t6⟩:=qhj t3
   refine whole _ _ t5 rfl rfl rfl ?_
   rw [qvc (show qa.Kind (qa.mk k id S _ _ _ _ _ _)=3 from h3),t6,List.cons_append]
   refine congrArg _ (t4.trans ?_)
   rw [List.append_assoc]
   exact congrArg _ t2
 ·rename_i h1 h2 h3
  exact qbn fun _ ho=>by
   have:=(qaR.1 ho).1
   have hk:0≤k∧k < 4:=this
   omega
end Go.Rx
end
set_option maxRecDepth 100000
noncomputable section
namespace Go.Rx
open Go.Proofs
open Go.Lib (compareBytes)
end Go.Rx
end
set_option maxRecDepth 100000
noncomputable section
namespace Go.Rx
open Go.Proofs
end Go.Rx
end
set_option maxRecDepth 100000
noncomputable section
namespace Go.Rx
open Go.Proofs
end Go.Rx
end
set_option maxRecDepth 100000
noncomputable section
namespace Go.Rx
open Go.Proofs
open Go.Lib (compareBytes)
end Go.Rx
end
set_option maxRecDepth 100000
noncomputable section
namespace Go.Rx
open Go.Proofs
open Go.Lib (compareBytes)
end Go.Rx
end
set_option maxRecDepth 100000
noncomputable section
namespace Go.Rx
open Go.Proofs
open Go.Lib (compareBytes)
end Go.Rx
end
set_option maxRecDepth 100000
noncomputable section
namespace Go.Rx
open Go.Proofs
end Go.Rx
end
set_option maxRecDepth 100000
noncomputable section
namespace Go.Rx
open Go.Proofs
end Go.Rx
end
set_option maxRecDepth 100000
noncomputable section
namespace Go.Rx
open Go.Proofs
end Go.Rx
end
set_option maxRecDepth 100000
noncomputable section
namespace Go.Rx
open Go.Proofs
end Go.Rx
end
set_option maxRecDepth 100000
noncomputable section
namespace Go.Rx
open Go.Proofs
end Go.Rx
end
set_option maxRecDepth 100000
noncomputable section
namespace Go.Rx
open Go.Proofs
end Go.Rx
end
set_option maxRecDepth 100000
noncomputable section
namespace Go.Rx
open Go.Proofs
end Go.Rx
end
set_option maxRecDepth 100000
noncomputable section
namespace Go.Rx
open Go.Proofs
end Go.Rx
end
set_option maxRecDepth 100000
noncomputable section
namespace Go.Rx
open Go.Proofs
end Go.Rx
end
set_option maxRecDepth 100000
noncomputable section
namespace Go.Rx
open Go.Proofs
section
variable {N:Nat} [Vx N]
theorem qtH (o:qa):∃ x,vN N o=some x∧(x=true→(qa.P o).length≤80∧(qa.V o).length≤300∧∀ k,k < (qa.P o).length→((qa.P o).getD k zP).Lit.length≤300):=by
 have hN:=big N
 by_cases h1:(qa.P o).length≤80
 ·by_cases h2:(qa.V o).length≤300
  ·have hl : Jr N o 0 = some (if VZ (fun k => decide (((qa.P o).getD k zP).Lit.length ≤ 300)) (qa.P o).length then .inr (((qa.P o).length : Nat), false) else .inl ()) := by
      refine (qjz (B:=v_ N o) (g:=some) (q:=fun k=>decide (((qa.P o).getD k zP).Lit.length≤300)) (n:=(qa.P o).length) (hit:=()) (fun k hk=>?_) ?_ (by omega))
      ·unfold v_
       refine w_t (dec_lt hk) <| qn (XZ (d:=zP) hk) ?_
       by_cases h:((qa.P o).getD k zP).Lit.length≤300
       ·rw [decide_eq_true h]
        exact w_f (decide_eq_false (by show ¬ (300:Int) < ((((qa.P o).getD k zP).Lit.length:Nat):Int); omega)) <| qF (Vc (by omega)) <| qw (by rw [Q6]; rfl)
       ·rw [decide_eq_false h]
        exact w_t (decide_eq_true (by show (300:Int) < ((((qa.P o).getD k zP).Lit.length:Nat):Int); omega)) <| qw rfl
      ·unfold v_
       exact w_f (vF (Nat.lt_irrefl _)) (qw (by rw [vF (Nat.lt_irrefl _)]))
   refine ⟨VZ (fun k=>decide (((qa.P o).getD k zP).Lit.length≤300)) (qa.P o).length,?_,fun h=>⟨h1,h2,fun k hk=>of_decide_eq_true (JE.1 h k hk)⟩⟩
   unfold vN vY
   refine w_f (decide_eq_false (by omega)) <| w_f (decide_eq_false (by omega)) <| qn hl ?_
   cases VZ (fun k=>decide (((qa.P o).getD k zP).Lit.length≤300)) (qa.P o).length<;>rfl
  ·refine ⟨false,?_,fun h=>by cases h⟩
   unfold vN vY
   exact w_f (decide_eq_false (by omega)) <| w_t (decide_eq_true (by omega)) <| qw rfl
 ·refine ⟨false,?_,fun h=>by cases h⟩
  unfold vN vY
  exact w_t (decide_eq_true (by omega)) <| qw rfl
end
end Go.Rx
end
set_option maxRecDepth 100000
noncomputable section
namespace Go.Rx
open Go.Proofs
theorem qwN {o:qa} (h:opB o=true):(qa.P o).length≤60:=(XP.1 (qaR.1 h).2.2.2.2.2.2.2).2.1
section
variable {N:Nat} [Vx N]
theorem quM {o:qa} (h:opB o=true):XI N o=some (opW o,true):=by
 have:=qwN h; have:=big N
 rw [qph (by omega) (by omega),if_pos h]
def qu8 (N:Nat) (b:List UInt8):Tree Bool:=
 .bind (WS N b) fun r6=>.cond (!r6.2.2) (.cond (decide (r6.2.1=0)) (.cond (decide ((qa.V r6.1)=[])) (.ret (decide ((((qa.P r6.1).length:Nat):Int)=((0:Int))))) <| .ret false) <| .ret false) <|
 .bind (XI N r6.1) fun r7=>.cond r7.2 (.cond (decide (r6.2.1≤((b.length:Nat):Int))) (.chk (0≤(0:Int)∧(0:Int)≤r6.2.1∧r6.2.1≤((b.length:Nat):Int)) <| .ret (decide (r7.1=((b.take r6.2.1.toNat).drop 0)))) <| .ret false) <| .ret false
theorem qjK {b:List UInt8} (hb:b.length≤600):(qu8 N b).run some=some true:=by
 unfold qu8
 refine qn (qoW (by omega)) ?_
 rcases qwh b with e | ⟨o,r,e,ho,hr⟩
 ·rw [e]
  exact w_t rfl <| w_t rfl <| w_t rfl <| qw rfl
 ·rw [e]
  have hl:(opW o).length≤b.length:=by rw [hr,List.length_append]; omega
  refine w_f rfl <| qn (quM ho) <| w_t rfl <| w_t (decide_eq_true (by show (((opW o).length:Nat):Int)≤_; omega)) <| qF ⟨Int.le_refl _,by show (0:Int)≤(((opW o).length:Nat):Int); omega,by show (((opW o).length:Nat):Int)≤_; omega⟩ <| qw ?_
  refine congrArg some (decide_eq_true ?_)
  show opW o=(b.take (opW o).length).drop 0
  rw [List.drop_zero,hr,List.take_left]
theorem qsg (o:qa) (b:List UInt8):jB N o b=some true:=by
 have hN:=big N
 obtain ⟨y,ey,hy⟩:=qtH (N:=N) o
 unfold jB ZE
 refine qn (show qmR=some true from rfl) <| qn ey <| w_f rfl ?_
 cases y with
 | false=>rfl
 | true=>
 refine w_f rfl <| zT rfl (fun _=>rfl) fun hb=>?_
 have hb:=of_decide_eq_false hb
 have hP:=(hy rfl).1
 have hput:=qph (N:=N) (o:=o) (by omega) (by omega)
 have hmay:=qgz (N:=N) (o:=o) (by omega) (by omega)
 refine qn hput <| qn hmay ?_
 cases ho:opB o with
 | false=>
  rw [ho] at hput
  rw [if_neg (by simp)]
  rw [if_neg (by simp)] at hput
  have hsz:YB N o=some 0:=by
   unfold YB KY
   exact qn hput <| qw rfl
  exact w_f rfl <| qn hsz <| w_f rfl <| w_f rfl <| qjK (by omega)
 | true=>
  rw [ho] at hput
  rw [if_pos rfl] at hput ⊢
  have hl:=qvy ho
  have hsz:YB N o=some (((opW o).length:Nat):Int):=by
   unfold YB KY
   exact qn hput <| qw rfl
  have hget:WS N (opW o++b)=some (o,(((opW o).length:Nat):Int),true):=(qoW (by rw [List.length_append]; omega)).trans (congrArg some (qvi ho b))
  have hsame:YA N o o=some true:=(qke (by omega) (by omega)).trans (congrArg some (decide_eq_true rfl))
  refine w_f rfl <| qn hsz <| w_f (by show (!decide ((((opW o).length:Nat):Int)=(((opW o).length:Nat):Int)))=false; rw [decide_eq_true rfl]; rfl) <| w_t rfl <| qF (show qgy (opW o).length 1 by unfold qgy qN; omega) <| qF ⟨rfl,by show (opW o++b).length * 1≤qN; rw [List.length_append]; unfold qN; omega⟩ <| qF rfl <| qn hget <| w_f rfl <| qn hsame <| w_f rfl <|
   w_f (by show (!decide ((((opW o).length:Nat):Int)=(((opW o).length:Nat):Int)))=false; rw [decide_eq_true rfl]; rfl) <| qjK (by omega)
end
theorem qwG (o:qa) (b:List UInt8):∃ N:Nat,jB N o b=some true:=by
 have:Vx 100000:=Vx.of (by omega)
 exact ⟨100000,qsg o b⟩
end Go.Rx
end
