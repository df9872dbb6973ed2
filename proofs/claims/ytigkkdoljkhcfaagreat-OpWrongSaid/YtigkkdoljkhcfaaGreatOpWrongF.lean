/- A part of the proof of OpWrong: the law returns true for every input, and its arguments read as before. No condition. -/
import Derived.Test.YtigkkdoljkhcfaaGreatProg
import Derived.Laws.BitsAllLaws
import Derived.Test.YtigkkdoljkhcfaaGreatComE
set_option linter.unusedSimpArgs false
set_option linter.unusedVariables false
set_option linter.unusedSectionVars false
noncomputable section
namespace Go.Rx
theorem X_ {α R:Type} (n:α→Option R):∀ t:Tree α,t.run n=(t.run some).bind n
 | .ret a=>rfl
 | .no=>rfl
 | .cond b s t=>by
  simp only [Tree.run]
  cases b
  ·exact X_ n t
  ·exact X_ n s
 | @Tree.chk _ p d t=>by
  simp only [Tree.run,chk]
  split
  ·exact X_ n t
  ·rfl
 | .bind o k=>by
  simp only [Tree.run]
  cases o with
  | none=>rfl
  | some x=>exact X_ n (k x)
 | .opt o s k=>by
  simp only [Tree.run]
  cases o with
  | none=>exact X_ n s
  | some x=>exact X_ n (k x)
 | .sum x f g=>by
  cases x with
  | inl a=>exact X_ n (f a)
  | inr b=>exact X_ n (g b)
section r
variable {α R:Type} {n:α→Option R}
theorem qZ {a:α}:(Tree.ret a).run n=n a:=rfl
theorem qP {b:Bool} {s t:Tree α}:(Tree.cond b s t).run n=bif b then s.run n else t.run n:=rfl
theorem zE {p:Prop} [Decidable p] {t:Tree α}:(Tree.chk p t).run n=chk p (t.run n):=rfl
theorem run_bind {β:Type} {o:Option β} {k:β→Tree α}:(Tree.bind o k).run n=o.bind fun x=>(k x).run n:=rfl
theorem qFB {β γ:Type} {x:γ} {f:β→Tree α} {g:γ→Tree α}:(Tree.sum (.inr x) f g).run n=(g x).run n:=rfl
end r
theorem Ja {V W Y:Type} {B:V→Tree (V⊕W)} {g:W→Option Y} {v v':V} (h:(B v).run some=some (.inl v')) (N:Nat):q0 B g (N + 1) v=q0 B g N v':=by
 simp only [q0]
 rw [X_,h]; rfl
theorem zK {V W Y:Type} {B:V→Tree (V⊕W)} {g:W→Option Y} {v:V} {x:W} (h:(B v).run some=some (.inr x)) (N:Nat):q0 B g (N + 1) v=g x:=by
 simp only [q0]
 rw [X_,h]; rfl
theorem qhE {V W Y : Type} {B : V → Tree (V ⊕ W)} {g : W → Option Y} {I : V → Prop} {Q : Y → Prop} (m : V → Nat)
    (h:∀ v,I v→(∃ v',(B v).run some=some (.inl v')∧I v'∧m v' < m v)∨∃ x y,(B v).run some=some (.inr x)∧g x=some y∧Q y) :
    ∀ (N:Nat) (v:V),I v→m v < N→∃ y,q0 B g N v=some y∧Q y
 | 0,v,_,hm=>by omega
 | N + 1,v,hi,hm=>by
  rcases h v hi with ⟨v',h1,h2,h3⟩ | ⟨x,y,h1,h2,h3⟩
  ·rw [Ja h1]
   exact qhE m h N v' h2 (by omega)
  ·rw [zK h1]
   exact ⟨y,h2,h3⟩
theorem qe3 {W Y : Type} {B : Int → Tree (Int ⊕ W)} {g : W → Option Y} {p : Nat → Bool} {n : Nat} {hit : Nat → W} {fin : W}
    (h1:∀ k,k < n→(B (k:Int)).run some=some (if p k then .inr (hit k) else .inl ((k + 1:Nat):Int))) (h2:(B (n:Int)).run some=some (.inr fin)) :
    ∀ (N k:Nat),k≤n→n < N + k→q0 B g N (k:Int)=g (match jT p (n - k) k with | some j=>hit j | none=>fin)
 | 0,k,hk,hN=>by omega
 | N + 1,k,hk,hN=>by
  by_cases e:k=n
  ·subst e
   rw [zK h2,Nat.sub_self]; rfl
  ·obtain ⟨m,hm⟩:∃ m,n - k=m + 1:=⟨n - k - 1,by omega⟩
   have h3:=h1 k (by omega)
   rw [hm]
   unfold jT
   cases hp:p k with
   | true=>
    rw [hp,if_pos rfl] at h3
    rw [zK h3,if_pos rfl]
   | false=>
    rw [hp,if_neg (by simp)] at h3
    rw [Ja h3,qe3 h1 h2 N (k + 1) (by omega) (by omega),if_neg (by simp),show n - (k + 1)=m by omega]
def Z6 {σ:Type} (f:Nat→σ→σ):Nat→Nat→σ→σ
 | 0,_,s=>s
 | m + 1,k,s=>Z6 f m (k + 1) (f k s)
theorem QX {σ W Y : Type} {V : Type} {B : V → Tree (V ⊕ W)} {g : W → Option Y} {at_ : Nat → σ → V} {I : Nat → σ → Prop} {f : Nat → σ → σ} {n : Nat} {fin : σ → W}
    (h1:∀ k s,k < n→I k s→(B (at_ k s)).run some=some (.inl (at_ (k + 1) (f k s)))∧I (k + 1) (f k s)) (h2:∀ s,I n s→(B (at_ n s)).run some=some (.inr (fin s))) :
    ∀ (N k:Nat) (s:σ),I k s→k≤n→n < N + k→q0 B g N (at_ k s)=g (fin (Z6 f (n - k) k s))
 | 0,k,s,_,hk,hN=>by omega
 | N + 1,k,s,hi,hk,hN=>by
  by_cases e:k=n
  ·subst e
   rw [zK (h2 s hi),Nat.sub_self]; rfl
  ·obtain ⟨m,hm⟩:∃ m,n - k=m + 1:=⟨n - k - 1,by omega⟩
   obtain ⟨h3,h4⟩:=h1 k s (by omega) hi
   rw [Ja h3,QX h1 h2 N (k + 1) _ h4 (by omega) (by omega),hm,show n - (k + 1)=m by omega]
   rfl
theorem qHn {α:Type} {l:List α} {k n:Nat} {d:α} (hn:l.length=n) (h:k < l.length):YT l n k=some (l.getD k d):=by
 unfold YT; rw [if_pos hn,List.getElem?_eq_getElem h]; simp [List.getD,List.getElem?_eq_getElem h]
theorem ql {α:Type} {p:Prop} [Decidable p] {x:Option α} (h:p):chk p x=x:=if_pos h
theorem qDi {Z:Type} (o:Option Z):jN [] o=o:=rfl
theorem jA {Z:Type} {a b:Nat} {ps:List (Nat×Nat)} {o:Option Z} (h:a=b):jN ((a,b)::ps) o=jN ps o:=if_pos h
end Go.Rx
end
noncomputable section
namespace Go.Rx
section
variable {α R:Type} {n:α→Option R} {y:Option R}
theorem qD {a:α} (h:n a=y):(Tree.ret a).run n=y:=h
theorem qY {p:Prop} [Decidable p] {t:Tree α} (h:p) (ht:t.run n=y):(Tree.chk p t).run n=y:=(ql h).trans ht
theorem qz {β:Type} {o:Option β} {k:β→Tree α} {x:β} (h:o=some x) (ht:(k x).run n=y):(Tree.bind o k).run n=y:=by subst h; exact ht
theorem w_t {b:Bool} {s t:Tree α} (h:b=true) (hs:s.run n=y):(Tree.cond b s t).run n=y:=by subst h; exact hs
theorem w_f {b:Bool} {s t:Tree α} (h:b=false) (ht:t.run n=y):(Tree.cond b s t).run n=y:=by subst h; exact ht
theorem quB {β:Type} {o:Option β} {s:Tree α} {k:β→Tree α} (h:o=none) (hs:s.run n=y):(Tree.opt o s k).run n=y:=by subst h; exact hs
theorem qqt {β:Type} {o:Option β} {s:Tree α} {k:β→Tree α} {x:β} (h:o=some x) (hk:(k x).run n=y):(Tree.opt o s k).run n=y:=by subst h; exact hk
theorem w_l {β γ:Type} {z:β⊕γ} {f:β→Tree α} {g:γ→Tree α} {x:β} (h:z=.inl x) (hk:(f x).run n=y):(Tree.sum z f g).run n=y:=by subst h; exact hk
theorem w_r {β γ:Type} {z:β⊕γ} {f:β→Tree α} {g:γ→Tree α} {x:γ} (h:z=.inr x) (hk:(g x).run n=y):(Tree.sum z f g).run n=y:=by subst h; exact hk
theorem jW {b:Bool} {s t:Tree α} {c:Bool} (h:b=c) (hs:c=true→s.run n=y) (ht:c=false→t.run n=y):(Tree.cond b s t).run n=y:=by
 subst h; cases b
 ·exact ht rfl
 ·exact hs rfl
end
theorem QU {k:Nat} (h:k≤4611686018427387904):qy ((k:Int) + 1):=by unfold qy; omega
end Go.Rx
end
noncomputable section
namespace Go.Rx
def qn:Ty:=.ag [.i .i64,.i .i64]
abbrev qe:=Int×Int
def qe.N (x:qe):Int:=x.1
def qe.Rep (x:qe):Int:=x.2
def qe.mk (x0:Int) (x1:Int):qe:=(x0,x1)
instance qe.dec:DecidableEq qe:=Z2 qn
def qo:Ty:=.ag [qn,.s]
abbrev qd:=qe×List UInt8
def qd.S (x:qd):qe:=x.1
def qd.V (x:qd):List UInt8:=x.2
def qd.mk (x0:qe) (x1:List UInt8):qd:=(x0,x1)
instance qd.dec:DecidableEq qd:=Z2 qo
def qC:Ty:=.ag [.i .i64,qo]
abbrev qb:=Int×qd
def qb.No (x:qb):Int:=x.1
def qb.C (x:qb):qd:=x.2
def qb.mk (x0:Int) (x1:qd):qb:=(x0,x1)
instance qb.dec:DecidableEq qb:=Z2 qC
def qi:Ty:=.ag [.ba 16,qn,.sl 4 qC]
abbrev qa:=Vector UInt8 16×qe×List qb
def qa.ID (x:qa):Vector UInt8 16:=x.1
def qa.zq (x:qa):qe:=x.2.1
def qa.F (x:qa):List qb:=x.2.2
def qa.mk (x0:Vector UInt8 16) (x1:qe) (x2:List qb):qa:=(x0,x1,x2)
instance qa.dec:DecidableEq qa:=Z2 qi
def qQ:Ty:=.ag [.sl 19 qi]
abbrev qc:=List qa
def qc.R (x:qc):List qa:=x
def qc.mk (x0:List qa):qc:=(x0)
instance qc.dec:DecidableEq qc:=Z2 qQ
def qK:Ty:=.ag [.b,.i .i64,.i .i64,.s]
abbrev qq:=Bool×Int×Int×List UInt8
def qq.qz6 (x:qq):Bool:=x.1
def qq.WS (x:qq):Int:=x.2.1
def qq.Len (x:qq):Int:=x.2.2.1
def qq.Lit (x:qq):List UInt8:=x.2.2.2
def qq.mk (x0:Bool) (x1:Int) (x2:Int) (x3:List UInt8):qq:=(x0,x1,x2,x3)
instance qq.dec:DecidableEq qq:=Z2 qK
def vh:Ty:=.ag [.i .i64,.ba 16,qn,.i .i64,.s,.sl 4 qK,.ba 16,.i .i64,.ba 32]
abbrev qg:=Int×Vector UInt8 16×qe×Int×List UInt8×List qq×Vector UInt8 16×Int×Vector UInt8 32
def qg.Kind (x:qg):Int:=x.1
def qg.ID (x:qg):Vector UInt8 16:=x.2.1
def qg.S (x:qg):qe:=x.2.2.1
def qg.No (x:qg):Int:=x.2.2.2.1
def qg.V (x:qg):List UInt8:=x.2.2.2.2.1
def qg.P (x:qg):List qq:=x.2.2.2.2.2.1
def qg.WS (x:qg):Vector UInt8 16:=x.2.2.2.2.2.2.1
def qg.Jt (x:qg):Int:=x.2.2.2.2.2.2.2.1
def qg.D (x:qg):Vector UInt8 32:=x.2.2.2.2.2.2.2.2
def qg.mk (x0:Int) (x1:Vector UInt8 16) (x2:qe) (x3:Int) (x4:List UInt8) (x5:List qq) (x6:Vector UInt8 16) (x7:Int) (x8:Vector UInt8 32):qg:=(x0,x1,x2,x3,x4,x5,x6,x7,x8)
instance qg.dec:DecidableEq qg:=Z2 vh
def jl:Ty:=.ag [qQ,vh]
abbrev qV:=qc×qg
def qV.b (x:qV):qc:=x.1
def qV.o (x:qV):qg:=x.2
def qV.mk (x0:qc) (x1:qg):qV:=(x0,x1)
instance qV.dec:DecidableEq qV:=Z2 jl
end Go.Rx
end
set_option maxRecDepth 100000
noncomputable section
namespace Go.Rx
open Go.Proofs
theorem qj:Tryz.prog.follows .mixedOrders=true:=by kernel_rfl
noncomputable instance qH_:CT:=⟨ctF Tryz.prog⟩
def qpj:Ent:=qHB 128
theorem qxY:zd Tryz.prog qpj:=qFW (fn:=Tryz.f128) (by kernel_rfl) (by kernel_rfl) (by kernel_rfl) (by kernel_rfl) (by kernel_rfl)
noncomputable def qBJ:Code:=Tryz.f104.body.getD .skip
theorem qjS:FnF Tryz.prog 104 Tryz.f104 qBJ:=⟨qj,by kernel_rfl,by kernel_rfl,by kernel_rfl⟩
def qsS:TH:={ live:=[(0,[0]),(1,[0,4]),(2,[2]),(3,[2])],vecs:=[5],esc:=true }
def qsG (N:Nat):List Ent:=[]
theorem qoE (N:Nat):qT Tryz.prog (qsG N):=trivial
def qiz (a0:List UInt8) (z:Unit):TV×THp:=(.v 100050 (((([]:List UInt8))++a0).length),[(100050,.vec false 1 .bl ((([]:List UInt8))++a0:List UInt8))])
def qcM (a0:List UInt8):Tree (Unit):=
 .chk (List.isEmpty a0=false) <|
 .chk (Vc ((([]:List UInt8)).length) 0 (((([]:List UInt8))++a0).length) 1) <|
 .ret ()
def qgc (a0:List UInt8):Option (Unit):=(qcM a0).run some
def qs5:List (Nat×qI):=[]
theorem qpe:qdn Tryz.prog ⟨104,[],[.x .bl],[],[]⟩ [.bl] (fun x=>qcM x.1) (fun x=>qiz x.1):=
 qa2 (H:=qsS) (L:=qR (qs5)) 0 qjS (qoE 0) (qu (by kernel_rfl) trivial) (rg0 (by kernel_rfl)) fun x=>by kernel_rfl
def qpn:TH:={ live:=[(0,[0]),(1,[0,4]),(2,[2]),(3,[2])],vecs:=[5],esc:=true }
def qqb (N:Nat):List Ent:=[]
theorem qmc (N:Nat):qT Tryz.prog (qqb N):=trivial
def qpE (z:Unit):TV×THp:=(.v 100050 0,[(100050,.vec false 1 .bl ([]:List UInt8))])
def qeK:Tree (Unit):=
 .chk (0=0) <|
 .ret ()
def qsY:Option (Unit):=(qeK).run some
def qpx:List (Nat×qI):=[]
theorem ql2:qdn Tryz.prog ⟨104,[],[.k (.es 0)],[],[]⟩ [] (fun x=>qeK) (fun _=>qpE):=
 qa2 (H:=qpn) (L:=qR (qpx)) 0 qjS (qmc 0) (qu (by kernel_rfl) trivial) (rg0 (by kernel_rfl)) fun x=>by kernel_rfl
def qqg:TH:={ live:=[(0,[0]),(1,[0,4]),(2,[2]),(3,[2])],vecs:=[5],esc:=true }
def qpp (N:Nat):List Ent:=[]
theorem qma (N:Nat):qT Tryz.prog (qpp N):=trivial
def qoQ (z:Unit):TV×THp:=(.nils,[])
def qeV:Tree (Unit):=
 .ret ()
def qsF:Option (Unit):=(qeV).run some
def qoP:List (Nat×qI):=[]
theorem qmp:qdn Tryz.prog ⟨104,[],[.k (.es 1)],[],[]⟩ [] (fun x=>qeV) (fun _=>qoQ):=
 qa2 (H:=qqg) (L:=qR (qoP)) 0 qjS (qma 0) (qu (by kernel_rfl) trivial) (rg0 (by kernel_rfl)) fun x=>by kernel_rfl
def qeD (z:Unit):Unit:=()
def qpC (z:Unit):Unit:=()
def VG (a0:List UInt8):Option (Unit):=
 bif a0.isEmpty then
  (qsY).bind fun z0=>(qsF).bind fun z1=>chk (qeD z0=qpC z1) (some (qeD z0))
 else qgc a0
def qgT:Ent:=smF ⟨104,[],[.x .bl],[],[]⟩ [.bl] (Unit) (fun x=>VG x.1) cs1 fun x=>qiz x.1
theorem qqj:zd Tryz.prog (qgT):=qgW fun x z h l=>by
 obtain ⟨a0,_⟩:=x
 replace h:VG a0=some z:=h
 unfold VG at h
 rcases qkr h with ⟨e,h2⟩ | ⟨_,h2⟩<;>clear h
 ·have e:=List.isEmpty_iff.1 e
  subst e
  obtain ⟨z0,c0,h2⟩:=bind_some h2
  obtain ⟨z1,c1,h2⟩:=bind_some h2
  obtain ⟨hE,h2⟩:=qh8 h2
  obtain rfl:=Option.some.inj h2
  refine qjI (t:=.bl) (x:=[]) rfl (TV.ers []) (TV.ers []) (by exact ql2 (()) _ c0 l) ?_
  rw [hE]
  exact (qGt (n:=100050) (sz:=1) (x:=qx .bl ([]:List UInt8)) rfl (by kernel_rfl) (by kernel_rfl) (qmp (()) _ c1 l))
 ·exact qpe (a0,()) z h2 l
noncomputable def qDk:Code:=Tryz.f105.body.getD .skip
theorem qCw:FnF Tryz.prog 105 Tryz.f105 qDk:=⟨qj,by kernel_rfl,by kernel_rfl,by kernel_rfl⟩
def qxR:TH:={ live:=[(0,[0]),(1,[0])] }
def qxD (N:Nat):List Ent:=[]
theorem qs3 (N:Nat):qT Tryz.prog (qxD N):=trivial
def qxA (z:Unit):TV×THp:=(.tv (.wa 8) ((((((((((Vector.replicate 8 0)).setIfInBounds 0 ((UInt32.ofNat 1779033703))).setIfInBounds 1 ((UInt32.ofNat 3144134277))).setIfInBounds 2 ((UInt32.ofNat 1013904242))).setIfInBounds 3 ((UInt32.ofNat 2773480762))).setIfInBounds 4 ((UInt32.ofNat 1359893119))).setIfInBounds 5 ((UInt32.ofNat 2600822924))).setIfInBounds 6 ((UInt32.ofNat 528734635))).setIfInBounds 7 ((UInt32.ofNat 1541459225)):Vector UInt32 8),[])
def qmC:Tree (Unit):=
 .chk (0 < 8) <|
 .chk (1 < 8) <|
 .chk (2 < 8) <|
 .chk (3 < 8) <|
 .chk (4 < 8) <|
 .chk (5 < 8) <|
 .chk (6 < 8) <|
 .chk (7 < 8) <|
 .ret ()
def qkD:Option (Unit):=(qmC).run some
def qwD:List (Nat×qI):=[]
def qmX:Ent:=smF ⟨105,[],[],[],[]⟩ [] (Unit) (fun x=>qkD) cs1 fun _=>qxA
theorem qug:zd Tryz.prog (qmX):=
 q9 (H:=qxR) (L:=qR (qwD)) (ts:=[]) (T:=fun x=>qmC) 0 qCw (qs3 0) (qu (by kernel_rfl) trivial) (rg0 (by kernel_rfl)) fun x=>by kernel_rfl
noncomputable def qCQ:Code:=Tryz.f106.body.getD .skip
theorem qBa:FnF Tryz.prog 106 Tryz.f106 qCQ:=⟨qj,by kernel_rfl,by kernel_rfl,by kernel_rfl⟩
def qwQ:TH:={ live:=[(0,[0]),(1,[0])] }
def qxm (N:Nat):List Ent:=[]
theorem qtf (N:Nat):qT Tryz.prog (qxm N):=trivial
def qxE (z:Unit):TV×THp:=(.tv (.wa 64) ((((((((((((((((((((((((((((((((((((((((((((((((((((((((((((((((((Vector.replicate 64 0)).setIfInBounds 0 ((UInt32.ofNat 1116352408))).setIfInBounds 1 ((UInt32.ofNat 1899447441))).setIfInBounds 2 ((UInt32.ofNat 3049323471))).setIfInBounds 3 ((UInt32.ofNat 3921009573))).setIfInBounds 4 ((UInt32.ofNat 961987163))).setIfInBounds 5 ((UInt32.ofNat 1508970993))).setIfInBounds 6 ((UInt32.ofNat 2453635748))).setIfInBounds 7 ((UInt32.ofNat 2870763221))).setIfInBounds 8 ((UInt32.ofNat 3624381080))).setIfInBounds 9 ((UInt32.ofNat 310598401))).setIfInBounds 10 ((UInt32.ofNat 607225278))).setIfInBounds 11 ((UInt32.ofNat 1426881987))).setIfInBounds 12 ((UInt32.ofNat 1925078388))).setIfInBounds 13 ((UInt32.ofNat 2162078206))).setIfInBounds 14 ((UInt32.ofNat 2614888103))).setIfInBounds 15 ((UInt32.ofNat 3248222580))).setIfInBounds 16 ((UInt32.ofNat 3835390401))).setIfInBounds 17 ((UInt32.ofNat 4022224774))).setIfInBounds 18 ((UInt32.ofNat 264347078))).setIfInBounds 19 ((UInt32.ofNat 604807628))).setIfInBounds 20 ((UInt32.ofNat 770255983))).setIfInBounds 21 ((UInt32.ofNat 1249150122))).setIfInBounds 22 ((UInt32.ofNat 1555081692))).setIfInBounds 23 ((UInt32.ofNat 1996064986))).setIfInBounds 24 ((UInt32.ofNat 2554220882))).setIfInBounds 25 ((UInt32.ofNat 2821834349))).setIfInBounds 26 ((UInt32.ofNat 2952996808))).setIfInBounds 27 ((UInt32.ofNat 3210313671))).setIfInBounds 28 ((UInt32.ofNat 3336571891))).setIfInBounds 29 ((UInt32.ofNat 3584528711))).setIfInBounds 30 ((UInt32.ofNat 113926993))).setIfInBounds 31 ((UInt32.ofNat 338241895))).setIfInBounds 32 ((UInt32.ofNat 666307205))).setIfInBounds 33 ((UInt32.ofNat 773529912))).setIfInBounds 34 ((UInt32.ofNat 1294757372))).setIfInBounds 35 ((UInt32.ofNat 1396182291))).setIfInBounds 36 ((UInt32.ofNat 1695183700))).setIfInBounds 37 ((UInt32.ofNat 1986661051))).setIfInBounds 38 ((UInt32.ofNat 2177026350))).setIfInBounds 39 ((UInt32.ofNat 2456956037))).setIfInBounds 40 ((UInt32.ofNat 2730485921))).setIfInBounds 41 ((UInt32.ofNat 2820302411))).setIfInBounds 42 ((UInt32.ofNat 3259730800))).setIfInBounds 43 ((UInt32.ofNat 3345764771))).setIfInBounds 44 ((UInt32.ofNat 3516065817))).setIfInBounds 45 ((UInt32.ofNat 3600352804))).setIfInBounds 46 ((UInt32.ofNat 4094571909))).setIfInBounds 47 ((UInt32.ofNat 275423344))).setIfInBounds 48 ((UInt32.ofNat 430227734))).setIfInBounds 49 ((UInt32.ofNat 506948616))).setIfInBounds 50 ((UInt32.ofNat 659060556))).setIfInBounds 51 ((UInt32.ofNat 883997877))).setIfInBounds 52 ((UInt32.ofNat 958139571))).setIfInBounds 53 ((UInt32.ofNat 1322822218))).setIfInBounds 54 ((UInt32.ofNat 1537002063))).setIfInBounds 55 ((UInt32.ofNat 1747873779))).setIfInBounds 56 ((UInt32.ofNat 1955562222))).setIfInBounds 57 ((UInt32.ofNat 2024104815))).setIfInBounds 58 ((UInt32.ofNat 2227730452))).setIfInBounds 59 ((UInt32.ofNat 2361852424))).setIfInBounds 60 ((UInt32.ofNat 2428436474))).setIfInBounds 61 ((UInt32.ofNat 2756734187))).setIfInBounds 62 ((UInt32.ofNat 3204031479))).setIfInBounds 63 ((UInt32.ofNat 3329325298)):Vector UInt32 64),[])
def qmD:Tree (Unit):=
 .chk (0 < 64) <|
 .chk (1 < 64) <|
 .chk (2 < 64) <|
 .chk (3 < 64) <|
 .chk (4 < 64) <|
 .chk (5 < 64) <|
 .chk (6 < 64) <|
 .chk (7 < 64) <|
 .chk (8 < 64) <|
 .chk (9 < 64) <|
 .chk (10 < 64) <|
 .chk (11 < 64) <|
 .chk (12 < 64) <|
 .chk (13 < 64) <|
 .chk (14 < 64) <|
 .chk (15 < 64) <|
 .chk (16 < 64) <|
 .chk (17 < 64) <|
 .chk (18 < 64) <|
 .chk (19 < 64) <|
 .chk (20 < 64) <|
 .chk (21 < 64) <|
 .chk (22 < 64) <|
 .chk (23 < 64) <|
 .chk (24 < 64) <|
 .chk (25 < 64) <|
 .chk (26 < 64) <|
 .chk (27 < 64) <|
 .chk (28 < 64) <|
 .chk (29 < 64) <|
 .chk (30 < 64) <|
 .chk (31 < 64) <|
 .chk (32 < 64) <|
 .chk (33 < 64) <|
 .chk (34 < 64) <|
 .chk (35 < 64) <|
 .chk (36 < 64) <|
 .chk (37 < 64) <|
 .chk (38 < 64) <|
 .chk (39 < 64) <|
 .chk (40 < 64) <|
 .chk (41 < 64) <|
 .chk (42 < 64) <|
 .chk (43 < 64) <|
 .chk (44 < 64) <|
 .chk (45 < 64) <|
 .chk (46 < 64) <|
 .chk (47 < 64) <|
 .chk (48 < 64) <|
 .chk (49 < 64) <|
 .chk (50 < 64) <|
 .chk (51 < 64) <|
 .chk (52 < 64) <|
 .chk (53 < 64) <|
 .chk (54 < 64) <|
 .chk (55 < 64) <|
 .chk (56 < 64) <|
 .chk (57 < 64) <|
 .chk (58 < 64) <|
 .chk (59 < 64) <|
 .chk (60 < 64) <|
 .chk (61 < 64) <|
 .chk (62 < 64) <|
 .chk (63 < 64) <|
 .ret ()
def qjs:Option (Unit):=(qmD).run some
def qw9:List (Nat×qI):=[]
def qmU:Ent:=smF ⟨106,[],[],[],[]⟩ [] (Unit) (fun x=>qjs) cs1 fun _=>qxE
theorem qvl:zd Tryz.prog (qmU):=
 q9 (H:=qwQ) (L:=qR (qw9)) (ts:=[]) (T:=fun x=>qmD) 0 qBa (qtf 0) (qu (by kernel_rfl) trivial) (rg0 (by kernel_rfl)) fun x=>by kernel_rfl
noncomputable def qCh:Code:=Tryz.f142.body.getD .skip
theorem qBA:FnF Tryz.prog 142 Tryz.f142 qCh:=⟨qj,by kernel_rfl,by kernel_rfl,by kernel_rfl⟩
def qeh:TH:={ live:=[(0,[0,1]),(1,[0,5]),(2,[4])] }
def qeg (N:Nat):List Ent:=[]
theorem qcO (N:Nat):qT Tryz.prog (qeg N):=trivial
def qd6 (z:Int):TV×THp:=(.tv (.i .u32) z,[])
def Ju (a0:Int) (a1:Int):Tree (Int):=
 .chk (0≤(qd8 .u64 (IntKind.u64.wrap a1) 31)) <|
 let w1:Int:=qrh .u32 a0 (min (qd8 .u64 (IntKind.u64.wrap a1) 31).toNat 32)
 let w2:Int:=qHf .u64 ((32:Int)) (qd8 .u64 (IntKind.u64.wrap a1) 31)
 .chk (0≤w2) <|
 .ret (uOr .u32 w1 (Zv a0 (min w2.toNat 32)))
def Vg (a0:Int) (a1:Int):Option (Int):=(Ju a0 a1).run some
def qdB:List (Nat×qI):=[]
def W8:Ent:=smF ⟨142,[],[.x (.i .u32),.x (.i .i64)],[],[]⟩ [(.i .u32),(.i .i64)] (Int) (fun x=>Vg x.1 x.2.1) cs1 fun _=>qd6
theorem qc5:zd Tryz.prog (W8):=
 q9 (H:=qeh) (L:=qR (qdB)) (ts:=[(.i .u32),(.i .i64)]) (T:=fun x=>Ju x.1 x.2.1) 0 qBA (qcO 0) (qu (by kernel_rfl) trivial) (rg0 (by kernel_rfl)) fun x=>by kernel_rfl
noncomputable def qB7:Code:=Tryz.f125.body.getD .skip
theorem qC7:FnF Tryz.prog 125 Tryz.f125 qB7:=⟨qj,by kernel_rfl,by kernel_rfl,by kernel_rfl⟩
def qxC:TH:={ live:=[(0,[0,1]),(1,[4])] }
def qwC (N:Nat):List Ent:=[W8]
theorem qtq (N:Nat):qT Tryz.prog (qwC N):=⟨qc5,trivial⟩
def qxH (z:Int):TV×THp:=(.tv (.i .u32) z,[])
def qfr (a0:Int) (a1:Int):Tree (Int):=
 .chk (qy (0 - a1)) <|
 .bind (Vg a0 (0 - a1)) fun r1=>
 .ret r1
def zU (a0:Int) (a1:Int):Option (Int):=(qfr a0 a1).run some
def qxQ:List (Nat×qI):=[]
def qge:Ent:=smF ⟨125,[],[.x (.i .u32),.x (.i .i64)],[],[]⟩ [(.i .u32),(.i .i64)] (Int) (fun x=>zU x.1 x.2.1) cs1 fun _=>qxH
theorem qjL:zd Tryz.prog (qge):=
 q9 (H:=qxC) (L:=qR (qxQ)) (ts:=[(.i .u32),(.i .i64)]) (T:=fun x=>qfr x.1 x.2.1) 0 qC7 (qtq 0) (qu (by kernel_rfl) trivial) (rg0 (by kernel_rfl)) fun x=>by kernel_rfl
noncomputable def qk7:Code:=Tryz.f124.body.getD .skip
theorem qBg:FnF Tryz.prog 124 Tryz.f124 qk7:=⟨qj,by kernel_rfl,by kernel_rfl,by kernel_rfl⟩
def qbi:TH:={ live:=[(0,[0,2]),(1,[0,2,3]),(2,[0,2,3,7]),(3,[0,2,3,7,8]),(4,[0,2,3,4,7]),(5,[0,2,3,4,7,11]),(6,[0,2,3,7]),(7,[0,2,3,4,5,6,7]),(8,[0,2,3,7]),(9,[0,2,3,7]),(10,[2])] }
def qgV (N:Nat):List Ent:=[qge]
theorem qen (N:Nat):qT Tryz.prog (qgV N):=⟨qjL,trivial⟩
abbrev Vp:=Vector UInt32 64×List UInt8
abbrev QP:=Vector UInt32 64×Int×Bool
def ZY (f:Vp) (y:QP):Ex×TSt:=(.exit 0,⟨0,86,[],[(0,.tv .bl f.2),(2,.p 20 [] 0),(3,.p 30 [] 0),(7,xi y.2.1),(8,xb y.2.2)],[(20,.cell false (.tv (.wa 64) f.1)),(30,.cell false (.tv (.wa 64) (y.1:Vector UInt32 64)))],false,[]⟩)
def qmt (N:Nat):List (Nat×qI):=[]
abbrev ZZ:=Vector UInt32 64×Int
def qcU:SP:=⟨0,86,[],[(0,.x .bl),(2,.k (.p 20 [] 0)),(3,.k (.p 30 [] 0)),(7,.x (.i .i64))],[(20,.cell false (.x (.wa 64))),(30,.cell false (.x (.wa 64)))],false,[]⟩
def ql_ (f:Vp) (v:ZZ):TSt:=jn qcU [dv (.wa 64) f.1,dv (.wa 64) v.1,dv .bl f.2,dv (.i .i64) v.2]
def vQ (N:Nat) (o_3:Vector UInt32 64) (s0_3:List UInt8) (v:ZZ):Tree (ZZ⊕QP):=
 .cond (decide (v.2 < ((64:Int)))) (
 .cond (decide (v.2 < ((16:Int)))) (
 .chk (qy (((4:Int)) * v.2)) <|
 .bind (zi s0_3 (((4:Int)) * v.2)) fun e1=>
 let w2:Int:=IntKind.u32.wrap ((e1.toNat:Nat):Int)
 .chk (0≤(24:Int)) <|
 .chk (qy (((4:Int)) * v.2)) <|
 .chk (qy ((((4:Int)) * v.2) + 1)) <|
 .bind (zi s0_3 ((((4:Int)) * v.2) + 1)) fun e3=>
 let w4:Int:=IntKind.u32.wrap ((e3.toNat:Nat):Int)
 .chk (0≤(16:Int)) <|
 let w5:Int:=uOr .u32 (qrh .u32 w2 24) (qrh .u32 w4 16)
 .chk (qy (((4:Int)) * v.2)) <|
 .chk (qy ((((4:Int)) * v.2) + 2)) <|
 .bind (zi s0_3 ((((4:Int)) * v.2) + 2)) fun e6=>
 let w7:Int:=IntKind.u32.wrap ((e6.toNat:Nat):Int)
 .chk (0≤(8:Int)) <|
 .chk (qy (((4:Int)) * v.2)) <|
 .chk (qy ((((4:Int)) * v.2) + 3)) <|
 .bind (zi s0_3 ((((4:Int)) * v.2) + 3)) fun e8=>
 let w9:Int:=IntKind.u32.wrap ((e8.toNat:Nat):Int)
 let w10:Int:=uOr .u32 (uOr .u32 w5 (qrh .u32 w7 8)) w9
 .chk (0≤v.2∧v.2 < ((64:Nat):Int)) <|
 .chk (inW w10) <|
 .chk (v.2.toNat < 64) <|
 .chk (qy (v.2 + 1)) <|
 .ret (.inl (v.1.setIfInBounds v.2.toNat (UInt32.ofNat w10.toNat),v.2 + 1))) <|
 .chk (qy (v.2 - 15)) <|
 .chk (0≤(v.2 - 15)∧(v.2 - 15) < ((64:Nat):Int)) <|
 .chk ((v.2 - 15).toNat < 64) <|
 .chk (qy (v.2 - 2)) <|
 .chk (0≤(v.2 - 2)∧(v.2 - 2) < ((64:Nat):Int)) <|
 .chk ((v.2 - 2).toNat < 64) <|
 .chk (qy (v.2 - 16)) <|
 .chk (0≤(v.2 - 16)∧(v.2 - 16) < ((64:Nat):Int)) <|
 .chk ((v.2 - 16).toNat < 64) <|
 .chk (qy (v.2 - 7)) <|
 .chk (0≤(v.2 - 7)∧(v.2 - 7) < ((64:Nat):Int)) <|
 .chk ((v.2 - 7).toNat < 64) <|
 let w1:Int:=KH .u32 (((v.1.toList.getD ((v.2 - 16).toNat) 0).toNat:Nat):Int) (((v.1.toList.getD ((v.2 - 7).toNat) 0).toNat:Nat):Int)
 .bind (zU (((v.1.toList.getD ((v.2 - 15).toNat) 0).toNat:Nat):Int) 7) fun r2=>
 .bind (zU (((v.1.toList.getD ((v.2 - 15).toNat) 0).toNat:Nat):Int) 18) fun r3=>
 .chk (0≤(3:Int)) <|
 let w4:Int:=Zv (((v.1.toList.getD ((v.2 - 15).toNat) 0).toNat:Nat):Int) 3
 let w5:Int:=KH .u32 w1 (KP .u32 (KP .u32 r2 r3) w4)
 .bind (zU (((v.1.toList.getD ((v.2 - 2).toNat) 0).toNat:Nat):Int) 17) fun r6=>
 .bind (zU (((v.1.toList.getD ((v.2 - 2).toNat) 0).toNat:Nat):Int) 19) fun r7=>
 .chk (0≤(10:Int)) <|
 let w8:Int:=Zv (((v.1.toList.getD ((v.2 - 2).toNat) 0).toNat:Nat):Int) 10
 let w9:Int:=KH .u32 w5 (KP .u32 (KP .u32 r6 r7) w8)
 .chk (0≤v.2∧v.2 < ((64:Nat):Int)) <|
 .chk (inW w9) <|
 .chk (v.2.toNat < 64) <|
 .chk (qy (v.2 + 1)) <|
 .ret (.inl (v.1.setIfInBounds v.2.toNat (UInt32.ofNat w9.toNat),v.2 + 1))) <|
 .ret (.inr (v.1,v.2,decide (v.2 < ((64:Int)))))
def qc1 (N n:Nat) (f:Vp) (v:ZZ):Option QP:=q0 (vQ N f.1 f.2) some n v
theorem qme (N:Nat) (f:Vp) (n:Nat) (v:ZZ) (y:QP) (h:qc1 N n f v=some y):LG Tryz.prog qbi 124 (q_ qk7 3) (ql_ f v) (ZY f y):=
 zW qj (E:=qgV N) (L:=qR (qmt N)) (st:=ZY f) (g:=some) (R:=ZY f) (qen N) (qu (by kernel_rfl) trivial) (rg0 (by kernel_rfl)) (fun v=>by kernel_rfl) (zj (st:=ZY f) fun y=>by rfl) n v y h
def qar (N:Nat) (o_3:Vector UInt32 64) (s0_3:List UInt8) (o_3_2:Vector UInt32 64) (s7_3:Int):Option QP:=qc1 N N (o_3,s0_3) (o_3_2,s7_3)
def qcP (N:Nat):qI:=smL qcU [(.wa 64),(.wa 64),.bl,(.i .i64)] QP (fun x=>qar N x.1 x.2.2.1 x.2.1 x.2.2.2.1) cs1 fun x=>ZY (x.1,x.2.2.1)
theorem qkg (N:Nat):v3 Tryz.prog qbi 124 (q_ qk7 3) (qcP N):=js fun x z h=>qme N (x.1,x.2.2.1) N (x.2.1,x.2.2.2.1) z h
def qrA (z:Vector UInt32 64):TV×THp:=(.tv (.wa 64) z,[])
def qbt (N:Nat) (a0:List UInt8):Tree (Vector UInt32 64):=
 .bind (qar N ((Vector.replicate 64 0)) a0 ((Vector.replicate 64 0)) 0) fun z1=>
 .ret z1.1
def qav (N:Nat) (a0:List UInt8):Option (Vector UInt32 64):=(qbt N a0).run some
def qqG (N:Nat):List (Nat×qI):=[(3,qcP N)]
def qgS (N:Nat):Ent:=smF ⟨124,[],[.x .bl],[],[]⟩ [.bl] (Vector UInt32 64) (fun x=>qav N x.1) cs1 fun _=>qrA
theorem qpJ (N:Nat):zd Tryz.prog (qgS N):=
 q9 (H:=qbi) (L:=qR (qqG N)) (ts:=[.bl]) (T:=fun x=>qbt N x.1) 0 qBg (qen N) (qu (by kernel_rfl) ⟨qkg N,trivial⟩) (rg0 (by kernel_rfl)) fun x=>by kernel_rfl
noncomputable def qbQ:Code:=Tryz.f107.body.getD .skip
theorem qBR:FnF Tryz.prog 107 Tryz.f107 qbQ:=⟨qj,by kernel_rfl,by kernel_rfl,by kernel_rfl⟩
def Jx:TH:={ live:=[(0,[0,2,6]),(1,[0,2,6,7]),(2,[0,2,6,7,19]),(3,[0,2,6,7,19,20]),(4,[0,2,6,7,8,19]),(5,[0,2,6,7,8,9,10,19]),(6,[0,2,6,7,9,11,19]),(7,[0,2,6,7,11,12,19]),(8,[0,2,6,7,11,12,19]),(9,[0,2,6,7,11,19]),(10,[0,2,6,7,19]),(11,[0,2,6,7,19]),(12,[0,7,95]),(13,[0,7,95,96]),(14,[0,7,13,95]),(15,[0,7,95]),(16,[0,7,95])] }
def KL (N:Nat):List Ent:=[qgS N,qge]
theorem WA (N:Nat):qT Tryz.prog (KL N):=⟨qpJ N,qjL,trivial⟩
abbrev JD:=Vector UInt32 8×Vector UInt32 64×Vector UInt32 64
abbrev vY:=Vector UInt32 8×Int×Bool
def Q_ (f:JD) (y:vY):Ex×TSt:=(.exit 0,⟨1,110,[50,60],[(0,.p 50 [] 0),(2,.p 60 [] 0),(6,.p 100060 [] 0),(7,.p 100070 [] 0),(19,xi y.2.1),(20,xb y.2.2)],[(50,.cell false (.tv (.wa 8) f.1)),(60,.cell false (.tv (.wa 64) f.2.1)),(100060,.cell false (.tv (.wa 64) f.2.2)),(100070,.cell false (.tv (.wa 8) (y.1:Vector UInt32 8)))],false,[]⟩)
def qja (N:Nat):List (Nat×qI):=[]
abbrev Q6:=Vector UInt32 8×Int
def qa9:SP:=⟨1,110,[50,60],[(0,.k (.p 50 [] 0)),(2,.k (.p 60 [] 0)),(6,.k (.p 100060 [] 0)),(7,.k (.p 100070 [] 0)),(19,.x (.i .i64))],[(50,.cell false (.x (.wa 8))),(60,.cell false (.x (.wa 64))),(100060,.cell false (.x (.wa 64))),(100070,.cell false (.x (.wa 8)))],false,[]⟩
def qjp (f:JD) (v:Q6):TSt:=jn qa9 [dv (.wa 8) f.1,dv (.wa 64) f.2.1,dv (.wa 64) f.2.2,dv (.wa 8) v.1,dv (.i .i64) v.2]
def Q8 (N:Nat) (o_3:Vector UInt32 8) (o_3_2:Vector UInt32 64) (o_3_3:Vector UInt32 64) (v:Q6):Tree (Q6⊕vY):=
 .cond (decide (v.2 < ((64:Int)))) (
 .chk (0≤(0:Int)∧(0:Int) < ((8:Nat):Int)) <|
 .chk (0 < 8) <|
 .chk (0≤(4:Int)∧(4:Int) < ((8:Nat):Int)) <|
 .chk (4 < 8) <|
 .chk (0≤(7:Int)∧(7:Int) < ((8:Nat):Int)) <|
 .chk (7 < 8) <|
 .bind (zU (((v.1.toList.getD 4 0).toNat:Nat):Int) 6) fun r1=>
 .bind (zU (((v.1.toList.getD 4 0).toNat:Nat):Int) 11) fun r2=>
 .bind (zU (((v.1.toList.getD 4 0).toNat:Nat):Int) 25) fun r3=>
 let w4:Int:=KH .u32 (((v.1.toList.getD 7 0).toNat:Nat):Int) (KP .u32 (KP .u32 r1 r2) r3)
 .chk (0≤(5:Int)∧(5:Int) < ((8:Nat):Int)) <|
 .chk (5 < 8) <|
 let w5:Int:=qd8 .u32 (((v.1.toList.getD 4 0).toNat:Nat):Int) (((v.1.toList.getD 5 0).toNat:Nat):Int)
 let w6:Int:=KP .u32 (4294967295) (((v.1.toList.getD 4 0).toNat:Nat):Int)
 .chk (0≤(6:Int)∧(6:Int) < ((8:Nat):Int)) <|
 .chk (6 < 8) <|
 let w7:Int:=qd8 .u32 w6 (((v.1.toList.getD 6 0).toNat:Nat):Int)
 .chk (0≤v.2∧v.2 < ((64:Nat):Int)) <|
 .chk (v.2.toNat < 64) <|
 let w8:Int:=KH .u32 (KH .u32 w4 (KP .u32 w5 w7)) (((o_3_2.toList.getD v.2.toNat 0).toNat:Nat):Int)
 .chk (0≤v.2∧v.2 < ((64:Nat):Int)) <|
 .chk (v.2.toNat < 64) <|
 let w9:Int:=KH .u32 w8 (((o_3_3.toList.getD v.2.toNat 0).toNat:Nat):Int)
 .bind (zU (((v.1.toList.getD 0 0).toNat:Nat):Int) 2) fun r10=>
 .bind (zU (((v.1.toList.getD 0 0).toNat:Nat):Int) 13) fun r11=>
 .bind (zU (((v.1.toList.getD 0 0).toNat:Nat):Int) 22) fun r12=>
 .chk (0≤(1:Int)∧(1:Int) < ((8:Nat):Int)) <|
 .chk (1 < 8) <|
 let w13:Int:=qd8 .u32 (((v.1.toList.getD 0 0).toNat:Nat):Int) (((v.1.toList.getD 1 0).toNat:Nat):Int)
 .chk (0≤(2:Int)∧(2:Int) < ((8:Nat):Int)) <|
 .chk (2 < 8) <|
 let w14:Int:=qd8 .u32 (((v.1.toList.getD 0 0).toNat:Nat):Int) (((v.1.toList.getD 2 0).toNat:Nat):Int)
 .chk (0≤(1:Int)∧(1:Int) < ((8:Nat):Int)) <|
 .chk (1 < 8) <|
 .chk (0≤(2:Int)∧(2:Int) < ((8:Nat):Int)) <|
 .chk (2 < 8) <|
 let w15:Int:=qd8 .u32 (((v.1.toList.getD 1 0).toNat:Nat):Int) (((v.1.toList.getD 2 0).toNat:Nat):Int)
 let w16:Int:=KH .u32 (KP .u32 (KP .u32 r10 r11) r12) (KP .u32 (KP .u32 w13 w14) w15)
 .chk (0≤(0:Int)∧(0:Int) < ((8:Nat):Int)) <|
 .chk (inW (KH .u32 w9 w16)) <|
 .chk (0 < 8) <|
 .chk (0≤(4:Int)∧(4:Int) < ((8:Nat):Int)) <|
 .chk (4 < 8) <|
 let w17:Int:=KH .u32 (((((XI v.1 1 7).setIfInBounds 0 (UInt32.ofNat (KH .u32 w9 w16).toNat)).toList.getD 4 0).toNat:Nat):Int) w9
 .chk (0≤(4:Int)∧(4:Int) < ((8:Nat):Int)) <|
 .chk (inW w17) <|
 .chk (4 < 8) <|
 .chk (qy (v.2 + 1)) <|
 .ret (.inl (((XI v.1 1 7).setIfInBounds 0 (UInt32.ofNat (KH .u32 w9 w16).toNat)).setIfInBounds 4 (UInt32.ofNat w17.toNat),v.2 + 1))) <|
 .ret (.inr (v.1,v.2,decide (v.2 < ((64:Int)))))
def qbb (N n:Nat) (f:JD) (v:Q6):Option vY:=q0 (Q8 N f.1 f.2.1 f.2.2) some n v
theorem qi5 (N:Nat) (f:JD) (n:Nat) (v:Q6) (y:vY) (h:qbb N n f v=some y):LG Tryz.prog Jx 107 (q_ qbQ 3) (qjp f v) (Q_ f y):=
 zW qj (E:=KL N) (L:=qR (qja N)) (st:=Q_ f) (g:=some) (R:=Q_ f) (WA N) (qu (by kernel_rfl) trivial) (rg0 (by kernel_rfl)) (fun v=>by kernel_rfl) (zj (st:=Q_ f) fun y=>by rfl) n v y h
def YS (N:Nat) (o_3:Vector UInt32 8) (o_3_2:Vector UInt32 64) (o_3_3:Vector UInt32 64) (o_3_4:Vector UInt32 8) (s19_3:Int):Option vY:=qbb N N (o_3,o_3_2,o_3_3) (o_3_4,s19_3)
def qa6 (N:Nat):qI:=smL qa9 [(.wa 8),(.wa 64),(.wa 64),(.wa 8),(.i .i64)] vY (fun x=>YS N x.1 x.2.1 x.2.2.1 x.2.2.2.1 x.2.2.2.2.1) cs1 fun x=>Q_ (x.1,x.2.1,x.2.2.1)
theorem qhT (N:Nat):v3 Tryz.prog Jx 107 (q_ qbQ 3) (qa6 N):=js fun x z h=>qi5 N (x.1,x.2.1,x.2.2.1) N (x.2.2.2.1,x.2.2.2.2.1) z h
abbrev Z9:=Vector UInt32 64×Vector UInt32 8
abbrev vH:=Vector UInt32 8×Int×Bool
def QN (f:Z9) (y:vH):Ex×TSt:=(.exit 2,⟨1,110,[50,60],[(0,.p 50 [] 0),(7,.p 100070 [] 0),(95,xi y.2.1),(96,xb y.2.2)],[(50,.cell false (.tv (.wa 8) (y.1:Vector UInt32 8))),(60,.cell false (.tv (.wa 64) f.1)),(100070,.cell false (.tv (.wa 8) f.2))],false,[]⟩)
def qhf (N:Nat):List (Nat×qI):=[]
abbrev QI:=Vector UInt32 8×Int
def qak:SP:=⟨1,110,[50,60],[(0,.k (.p 50 [] 0)),(7,.k (.p 100070 [] 0)),(95,.x (.i .i64))],[(50,.cell false (.x (.wa 8))),(60,.cell false (.x (.wa 64))),(100070,.cell false (.x (.wa 8)))],false,[]⟩
def qhA (f:Z9) (v:QI):TSt:=jn qak [dv (.wa 8) v.1,dv (.wa 64) f.1,dv (.wa 8) f.2,dv (.i .i64) v.2]
def Z_ (N:Nat) (o_13_2:Vector UInt32 64) (o_13_3:Vector UInt32 8) (v:QI):Tree (QI⊕vH):=
 .cond (decide (v.2 < ((8:Int)))) (
 .chk (0≤v.2∧v.2 < ((8:Nat):Int)) <|
 .chk (v.2.toNat < 8) <|
 .chk (0≤v.2∧v.2 < ((8:Nat):Int)) <|
 .chk (v.2.toNat < 8) <|
 let w1:Int:=KH .u32 (((v.1.toList.getD v.2.toNat 0).toNat:Nat):Int) (((o_13_3.toList.getD v.2.toNat 0).toNat:Nat):Int)
 .chk (0≤v.2∧v.2 < ((8:Nat):Int)) <|
 .chk (inW w1) <|
 .chk (v.2.toNat < 8) <|
 .chk (qy (v.2 + 1)) <|
 .ret (.inl (v.1.setIfInBounds v.2.toNat (UInt32.ofNat w1.toNat),v.2 + 1))) <|
 .ret (.inr (v.1,v.2,decide (v.2 < ((8:Int)))))
def qaM (N n:Nat) (f:Z9) (v:QI):Option vH:=q0 (Z_ N f.1 f.2) some n v
theorem qip (N:Nat) (f:Z9) (n:Nat) (v:QI) (y:vH) (h:qaM N n f v=some y):LG Tryz.prog Jx 107 (q_ qbQ 13) (qhA f v) (QN f y):=
 zW qj (E:=KL N) (L:=qR (qhf N)) (st:=QN f) (g:=some) (R:=QN f) (WA N) (qu (by kernel_rfl) trivial) (rg0 (by kernel_rfl)) (fun v=>by kernel_rfl) (zj (st:=QN f) fun y=>by rfl) n v y h
def Wy (N:Nat) (o_13_2:Vector UInt32 64) (o_13_3:Vector UInt32 8) (o_13:Vector UInt32 8) (s95_13:Int):Option vH:=qaM N N (o_13_2,o_13_3) (o_13,s95_13)
def qax (N:Nat):qI:=smL qak [(.wa 8),(.wa 64),(.wa 8),(.i .i64)] vH (fun x=>Wy N x.2.1 x.2.2.1 x.1 x.2.2.2.1) cs1 fun x=>QN (x.2.1,x.2.2.1)
theorem qgQ (N:Nat):v3 Tryz.prog Jx 107 (q_ qbQ 13) (qax N):=js fun x z h=>qip N (x.2.1,x.2.2.1) N (x.1,x.2.2.2.1) z h
def qov (a1:Vector UInt32 64) (z:Vector UInt32 8):TV×THp:=(.tup [],[(50,.cell false (.tv (.wa 8) z)),(60,.cell false (.tv (.wa 64) a1))])
def KO (N:Nat) (a0:Vector UInt32 8) (a1:Vector UInt32 64) (a2:List UInt8):Tree (Vector UInt32 8):=
 .bind (qav N a2) fun r1=>
 .bind (YS N a0 a1 r1 a0 0) fun z2=>
 .bind (Wy N a1 z2.1 a0 0) fun z3=>
 .ret z3.1
def Vy (N:Nat) (a0:Vector UInt32 8) (a1:Vector UInt32 64) (a2:List UInt8):Option (Vector UInt32 8):=(KO N a0 a1 a2).run some
def qn2 (N:Nat):List (Nat×qI):=[(3,qa6 N),(13,qax N)]
def qdP (N:Nat):Ent:=smF ⟨107,[],[.k (.p 50 [] 0),.x .bl,.k (.p 60 [] 0)],[],[(50,.cell false (.x (.wa 8))),(60,.cell false (.x (.wa 64)))]⟩ [(.wa 8),(.wa 64),.bl] (Vector UInt32 8) (fun x=>Vy N x.1 x.2.1 x.2.2.1) cs1 fun x=>qov x.2.1
theorem ql3 (N:Nat):zd Tryz.prog (qdP N):=
 q9 (H:=Jx) (L:=qR (qn2 N)) (ts:=[(.wa 8),(.wa 64),.bl]) (T:=fun x=>KO N x.1 x.2.1 x.2.2.1) 0 qBR (WA N) (qu (by kernel_rfl) ⟨qhT N,qgQ N,trivial⟩) (rg0 (by kernel_rfl)) fun x=>by kernel_rfl
noncomputable def Va:Code:=Tryz.f78.body.getD .skip
theorem qFc:FnF Tryz.prog 78 Tryz.f78 Va:=⟨qj,by kernel_rfl,by kernel_rfl,by kernel_rfl⟩
def Jc:TH:={ live:=[(0,[0,2]),(1,[0,2,3]),(2,[0,2,3,16]),(3,[0,2,3]),(4,[0,2,3,20]),(5,[0,2,3,20,21]),(6,[0,2,3,4,20]),(7,[0,2,3,20]),(8,[0,2,3,20]),(9,[2,3,5,6]),(10,[2,3,5,6,40]),(11,[2,3,5,6]),(12,[2,3,5,6]),(13,[2,5,7]),(14,[2,5,7,46]),(15,[2,5,7,46,47]),(16,[2,5,7,8,46]),(17,[2,5,7,46]),(18,[2,5,7,46]),(19,[2])],fresh:=[10] }
def KR (N:Nat):List Ent:=[qgT,qmX,qmU,qdP N]
theorem Wa (N:Nat):qT Tryz.prog (KR N):=⟨qqj,qug,qvl,ql3 N,trivial⟩
abbrev qai:=Vector UInt8 32×List UInt8
abbrev VM:=List UInt8×Bool
def Ya (f:qai) (y:VM):Ex×TSt:=(.exit 0,⟨0,63,[],[(0,.tv .bl f.2),(2,.p 20 [] 0),(3,.v 100050 y.1.length),(16,xb y.2)],[(20,.cell false (.tv (.ba 32) f.1)),(100050,.vec false 1 .bl (y.1:List UInt8))],false,[]⟩)
def qvg (N:Nat):List (Nat×qI):=[]
abbrev WV:=List UInt8
def qjq:SP:=⟨0,63,[],[(0,.x .bl),(2,.k (.p 20 [] 0)),(3,.vs 100050)],[(20,.cell false (.x (.ba 32))),(100050,.vec false 1)],false,[]⟩
def qwx (f:qai) (v:WV):TSt:=jn qjq [dv .bl v,dv (.ba 32) f.1,dv .bl f.2]
def WZ (N:Nat) (o_2_2:Vector UInt8 32) (s0_2:List UInt8) (v:WV):Tree (WV⊕VM):=
 .chk ((64:Int)≠0) <|
 .cond (!decide ((((v.length:Nat):Int).tmod 64)=56)) (
 .chk (Vc v.length v.length ((v++[(UInt8.ofNat 0)]).length) 1) <|
 .ret (.inl (v++[(UInt8.ofNat 0)]))) <|
 .ret (.inr (v,!decide ((((v.length:Nat):Int).tmod 64)=56)))
def qkp (N n:Nat) (f:qai) (v:WV):Option VM:=q0 (WZ N f.1 f.2) some n v
theorem qv9 (N:Nat) (f:qai) (n:Nat) (v:WV) (y:VM) (h:qkp N n f v=some y):LG Tryz.prog Jc 78 (q_ Va 2) (qwx f v) (Ya f y):=
 zW qj (E:=KR N) (L:=qR (qvg N)) (st:=Ya f) (g:=some) (R:=Ya f) (Wa N) (qu (by kernel_rfl) trivial) (rg0 (by kernel_rfl)) (fun v=>by kernel_rfl) (zj (st:=Ya f) fun y=>by rfl) n v y h
def qc6 (N:Nat) (o_2_2:Vector UInt8 32) (s0_2:List UInt8) (o_2:List UInt8):Option VM:=qkp N N (o_2_2,s0_2) o_2
def qkz (N:Nat):qI:=smL qjq [.bl,(.ba 32),.bl] VM (fun x=>qc6 N x.2.1 x.2.2.1 x.1) cs1 fun x=>Ya (x.2.1,x.2.2.1)
theorem qs9 (N:Nat):v3 Tryz.prog Jc 78 (q_ Va 2) (qkz N):=js fun x z h=>qv9 N (x.2.1,x.2.2.1) N x.1 z h
abbrev qan:=Vector UInt8 32×List UInt8
abbrev VD:=List UInt8×Int×Bool
def WB (f:qan) (y:VD):Ex×TSt:=(.exit 2,⟨0,63,[],[(0,.tv .bl f.2),(2,.p 20 [] 0),(3,.v 100050 y.1.length),(20,xi y.2.1),(21,xb y.2.2)],[(20,.cell false (.tv (.ba 32) f.1)),(100050,.vec false 1 .bl (y.1:List UInt8))],false,[]⟩)
def quf (N:Nat):List (Nat×qI):=[]
abbrev W7:=List UInt8×Int
def qj_:SP:=⟨0,63,[],[(0,.x .bl),(2,.k (.p 20 [] 0)),(3,.vs 100050),(20,.x (.i .i64))],[(20,.cell false (.x (.ba 32))),(100050,.vec false 1)],false,[]⟩
def quh (f:qan) (v:W7):TSt:=jn qj_ [dv .bl v.1,dv (.ba 32) f.1,dv .bl f.2,dv (.i .i64) v.2]
def qaI (N:Nat) (o_5_2:Vector UInt8 32) (s0_5:List UInt8) (v:W7):Tree (W7⊕VD):=
 .cond (decide (v.2 < ((8:Int)))) (
 let w1:Int:=IntKind.u64.wrap ((s0_5.length:Nat):Int)
 .chk (qy (((7:Int)) - v.2)) <|
 .chk (qy (((8:Int)) * (((7:Int)) - v.2))) <|
 .chk (0≤(((8:Int)) * (((7:Int)) - v.2))) <|
 let w2:Int:=Zv (qGV .u64 w1 8) (min (((8:Int)) * (((7:Int)) - v.2)).toNat 64)
 .chk (inB (IntKind.u8.wrap w2)) <|
 .chk (Vc v.1.length v.1.length ((v.1++[UInt8.ofNat (IntKind.u8.wrap w2).toNat]).length) 1) <|
 .chk (qy (v.2 + 1)) <|
 .ret (.inl (v.1++[UInt8.ofNat (IntKind.u8.wrap w2).toNat],v.2 + 1))) <|
 .ret (.inr (v.1,v.2,decide (v.2 < ((8:Int)))))
def qk4 (N n:Nat) (f:qan) (v:W7):Option VD:=q0 (qaI N f.1 f.2) some n v
theorem quk (N:Nat) (f:qan) (n:Nat) (v:W7) (y:VD) (h:qk4 N n f v=some y):LG Tryz.prog Jc 78 (q_ Va 5) (quh f v) (WB f y):=
 zW qj (E:=KR N) (L:=qR (quf N)) (st:=WB f) (g:=some) (R:=WB f) (Wa N) (qu (by kernel_rfl) trivial) (rg0 (by kernel_rfl)) (fun v=>by kernel_rfl) (zj (st:=WB f) fun y=>by rfl) n v y h
def qio (N:Nat) (o_5_2:Vector UInt8 32) (s0_5:List UInt8) (o_5:List UInt8) (s20_5:Int):Option VD:=qk4 N N (o_5_2,s0_5) (o_5,s20_5)
def qlm (N:Nat):qI:=smL qj_ [.bl,(.ba 32),.bl,(.i .i64)] VD (fun x=>qio N x.2.1 x.2.2.1 x.1 x.2.2.2.1) cs1 fun x=>WB (x.2.1,x.2.2.1)
theorem qth (N:Nat):v3 Tryz.prog Jc 78 (q_ Va 5) (qlm N):=js fun x z h=>quk N (x.2.1,x.2.2.1) N (x.1,x.2.2.2.1) z h
abbrev Qe:=List UInt8×Vector UInt8 32×Vector UInt32 8×Vector UInt32 64
abbrev vD:=Unit⊕(Vector UInt32 8×List UInt8×Bool)
def Qf (f:Qe):vD→Ex×TSt
 | .inl y=>(.exit 4,⟨0,63,[],[(2,.p 20 [] 0),(3,.v 100050 f.1.length),(5,.p 50 [] 0),(6,.p 60 [] 0),(40,xb (decide (((0:Int)) < ((f.1.length:Nat):Int))))],[(20,.cell false (.tv (.ba 32) f.2.1)),(50,.cell false (.tv (.wa 8) f.2.2.1)),(60,.cell false (.tv (.wa 64) f.2.2.2)),(100050,.vec false 1 .bl f.1)],false,[]⟩)
 | .inr y=>(.exit 4,⟨0,63,[],[(2,.p 20 [] 0),(3,.tv .bl (y.2.1:List UInt8)),(5,.p 50 [] 0),(6,.p 60 [] 0),(40,xb y.2.2)],[(20,.cell false (.tv (.ba 32) f.2.1)),(50,.cell false (.tv (.wa 8) (y.1:Vector UInt32 8))),(60,.cell false (.tv (.wa 64) f.2.2.2))],false,[]⟩)
def qiY (N:Nat):List (Nat×qI):=[]
abbrev Zc:=Vector UInt32 8×List UInt8
def qnm:SP:=⟨0,63,[],[(2,.k (.p 20 [] 0)),(3,.x .bl),(5,.k (.p 50 [] 0)),(6,.k (.p 60 [] 0))],[(20,.cell false (.x (.ba 32))),(50,.cell false (.x (.wa 8))),(60,.cell false (.x (.wa 64)))],false,[]⟩
def qdN (f:Qe) (v:Zc):TSt:=jn qnm [dv (.ba 32) f.2.1,dv (.wa 8) v.1,dv (.wa 64) f.2.2.2,dv .bl v.2]
def XC (N:Nat) (o_10:List UInt8) (o_10_2:Vector UInt8 32) (o_10_3:Vector UInt32 8) (o_10_4:Vector UInt32 64) (v:Zc):Tree (Zc⊕vD):=
 .cond (decide (((0:Int)) < ((v.2.length:Nat):Int))) (
 .chk (0≤(0:Int)∧(0:Int)≤(64:Int)∧(64:Int)≤((v.2.length:Nat):Int)) <|
 .bind (Vy N v.1 o_10_4 ((v.2.take 64).drop 0)) fun r1=>
 .chk (0≤(64:Int)∧(64:Int)≤((v.2.length:Nat):Int)) <|
 .ret (.inl (r1,v.2.drop 64))) <|
 .ret (.inr (.inr ((v.1,v.2,decide (((0:Int)) < ((v.2.length:Nat):Int))))))
def qdW (N n:Nat) (f:Qe) (v:Zc):Option vD:=q0 (XC N f.1 f.2.1 f.2.2.1 f.2.2.2) some n v
theorem qnc (N:Nat) (f:Qe) (n:Nat) (v:Zc) (y:vD) (h:qdW N n f v=some y):LG Tryz.prog Jc 78 (q_ Va 10) (qdN f v) (Qf f y):=
 zW qj (E:=KR N) (L:=qR (qiY N)) (st:=Qf f) (g:=some) (R:=Qf f) (Wa N) (qu (by kernel_rfl) trivial) (rg0 (by kernel_rfl)) (fun v=>by kernel_rfl) (zj (st:=Qf f) fun y=>by rcases y with _ | _<;>rfl) n v y h
abbrev XV:=Unit
def qiJ:SP:=⟨0,63,[],[(2,.k (.p 20 [] 0)),(3,.vs 100050),(5,.k (.p 50 [] 0)),(6,.k (.p 60 [] 0))],[(20,.cell false (.x (.ba 32))),(50,.cell false (.x (.wa 8))),(60,.cell false (.x (.wa 64))),(100050,.vec false 1)],false,[]⟩
def qsD (f:Qe) (v:XV):TSt:=jn qiJ [dv .bl f.1,dv (.ba 32) f.2.1,dv (.wa 8) f.2.2.1,dv (.wa 64) f.2.2.2]
abbrev qco:=Zc⊕vD
def Ks (N:Nat) (o_10:List UInt8) (o_10_2:Vector UInt8 32) (o_10_3:Vector UInt32 8) (o_10_4:Vector UInt32 64) (v:XV):Tree (XV⊕qco):=
 .cond (decide (((0:Int)) < ((o_10.length:Nat):Int))) (
 .chk (0≤(0:Int)∧(0:Int)≤(64:Int)∧(64:Int)≤((o_10.length:Nat):Int)) <|
 .chk (o_10.length=o_10.length) <|
 .bind (Vy N o_10_3 o_10_4 ((o_10.take 64).drop 0)) fun r1=>
 .chk (0≤(64:Int)∧(64:Int)≤((o_10.length:Nat):Int)) <|
 .chk (o_10.length=o_10.length) <|
 .ret (.inr (.inl (r1,o_10.drop 64)))) <|
 .ret (.inr (.inr ((.inl ()))))
def qcp (N n:Nat) (f:Qe):qco→Option vD
 | .inl w=>qdW N n f w
 | .inr w=>some w
def qte (f:Qe):qco→Ex×TSt
 | .inl w=>(.normal,qdN f w)
 | .inr w=>Qf f w
def qiD (N n:Nat) (f:Qe) (v:XV):Option vD:=q0 (Ks N f.1 f.2.1 f.2.2.1 f.2.2.2) (qcp N n f) n v
theorem qtg (N:Nat) (f:Qe) (n:Nat) (v:XV) (y:vD) (h:qiD N n f v=some y):LG Tryz.prog Jc 78 (q_ Va 10) (qsD f v) (Qf f y):=
 zW qj (E:=KR N) (L:=qR (qiY N)) (st:=qte f) (g:=(qcp N n f)) (R:=Qf f) (Wa N) (qu (by kernel_rfl) trivial) (rg0 (by kernel_rfl)) (fun v=>by kernel_rfl) (fun w y h=>by
 rcases w with w | w
 ·exact qnc N f n w y h
 ·exact zj (st:=Qf f) (fun y=>by rcases y with _ | _<;>rfl) w y h
) n v y h
def Kh (N:Nat) (o_10:List UInt8) (o_10_2:Vector UInt8 32) (o_10_3:Vector UInt32 8) (o_10_4:Vector UInt32 64):Option vD:=qiD N N (o_10,o_10_2,o_10_3,o_10_4) ()
def qi1 (N:Nat):qI:=smL qiJ [.bl,(.ba 32),(.wa 8),(.wa 64)] vD (fun x=>Kh N x.1 x.2.1 x.2.2.1 x.2.2.2.1) (csS cs1) fun x=>Qf (x.1,x.2.1,x.2.2.1,x.2.2.2.1)
theorem qqQ (N:Nat):v3 Tryz.prog Jc 78 (q_ Va 10) (qi1 N):=js fun x z h=>qtg N (x.1,x.2.1,x.2.2.1,x.2.2.2.1) N () z h
abbrev Kk:=Vector UInt8 32×Vector UInt32 8
abbrev JJ:=Vector UInt8 32×Int×Bool
def X0 (f:Kk) (y:JJ):Ex×TSt:=(.exit 6,⟨0,63,[],[(2,.p 20 [] 0),(5,.p 50 [] 0),(7,.p 70 [] 0),(46,xi y.2.1),(47,xb y.2.2)],[(20,.cell false (.tv (.ba 32) f.1)),(50,.cell false (.tv (.wa 8) f.2)),(70,.cell false (.tv (.ba 32) (y.1:Vector UInt8 32)))],false,[]⟩)
def qtk (N:Nat):List (Nat×qI):=[]
abbrev X1:=Vector UInt8 32×Int
def qiT:SP:=⟨0,63,[],[(2,.k (.p 20 [] 0)),(5,.k (.p 50 [] 0)),(7,.k (.p 70 [] 0)),(46,.x (.i .i64))],[(20,.cell false (.x (.ba 32))),(50,.cell false (.x (.wa 8))),(70,.cell false (.x (.ba 32)))],false,[]⟩
def qty (f:Kk) (v:X1):TSt:=jn qiT [dv (.ba 32) f.1,dv (.wa 8) f.2,dv (.ba 32) v.1,dv (.i .i64) v.2]
def Kq (N:Nat) (o_15:Vector UInt8 32) (o_15_2:Vector UInt32 8) (v:X1):Tree (X1⊕JJ):=
 .cond (decide (v.2 < ((32:Int)))) (
 .chk ((4:Int)≠0) <|
 .chk (qy (v.2.tdiv 4)) <|
 .chk (0≤(v.2.tdiv 4)∧(v.2.tdiv 4) < ((8:Nat):Int)) <|
 .chk ((v.2.tdiv 4).toNat < 8) <|
 .chk ((4:Int)≠0) <|
 .chk (qy (((8:Int)) * (v.2.tmod 4))) <|
 .chk (qy (((24:Int)) - (((8:Int)) * (v.2.tmod 4)))) <|
 .chk (0≤(((24:Int)) - (((8:Int)) * (v.2.tmod 4)))) <|
 let w1:Int:=Zv (((o_15_2.toList.getD ((v.2.tdiv 4).toNat) 0).toNat:Nat):Int) (min (((24:Int)) - (((8:Int)) * (v.2.tmod 4))).toNat 32)
 .chk (0≤v.2∧v.2 < ((32:Nat):Int)) <|
 .chk (inB (IntKind.u8.wrap w1)) <|
 .chk (v.2.toNat < 32) <|
 .chk (qy (v.2 + 1)) <|
 .ret (.inl (v.1.setIfInBounds v.2.toNat (UInt8.ofNat (IntKind.u8.wrap w1).toNat),v.2 + 1))) <|
 .ret (.inr (v.1,v.2,decide (v.2 < ((32:Int)))))
def qiS (N n:Nat) (f:Kk) (v:X1):Option JJ:=q0 (Kq N f.1 f.2) some n v
theorem qsM (N:Nat) (f:Kk) (n:Nat) (v:X1) (y:JJ) (h:qiS N n f v=some y):LG Tryz.prog Jc 78 (q_ Va 15) (qty f v) (X0 f y):=
 zW qj (E:=KR N) (L:=qR (qtk N)) (st:=X0 f) (g:=some) (R:=X0 f) (Wa N) (qu (by kernel_rfl) trivial) (rg0 (by kernel_rfl)) (fun v=>by kernel_rfl) (zj (st:=X0 f) fun y=>by rfl) n v y h
def qbF (N:Nat) (o_15:Vector UInt8 32) (o_15_2:Vector UInt32 8) (o_15_3:Vector UInt8 32) (s46_15:Int):Option JJ:=qiS N N (o_15,o_15_2) (o_15_3,s46_15)
def qiE (N:Nat):qI:=smL qiT [(.ba 32),(.wa 8),(.ba 32),(.i .i64)] JJ (fun x=>qbF N x.1 x.2.1 x.2.2.1 x.2.2.2.1) cs1 fun x=>X0 (x.1,x.2.1)
theorem qqK (N:Nat):v3 Tryz.prog Jc 78 (q_ Va 15) (qiE N):=js fun x z h=>qsM N (x.1,x.2.1) N (x.2.2.1,x.2.2.2.1) z h
def qkc (z:Vector UInt8 32):TV×THp:=(.tv (.ba 32) z,[])
def qkP (N:Nat) (a0:List UInt8):Tree (Vector UInt8 32):=
 .bind (VG a0) fun r1=>
 .chk (Vc (((([]:List UInt8))++a0).length) (((([]:List UInt8))++a0).length) ((((([]:List UInt8))++a0)++[(UInt8.ofNat 128)]).length) 1) <|
 .bind (jN [((((([]:List UInt8))++a0)++[(UInt8.ofNat 128)]).length,(((([]:List UInt8))++a0)++[(UInt8.ofNat 128)]).length)] (qc6 N ((Vector.replicate 32 0)) a0 (((([]:List UInt8))++a0)++[(UInt8.ofNat 128)]))) fun z2=>
 .bind (jN [(z2.1.length,z2.1.length)] (qio N ((Vector.replicate 32 0)) a0 z2.1 0)) fun z3=>
 .bind (qkD) fun r4=>
 .bind (qjs) fun r5=>
 .bind (jN [(z3.1.length,z3.1.length)] (Kh N z3.1 ((Vector.replicate 32 0)) ((((((((((Vector.replicate 8 0)).setIfInBounds 0 ((UInt32.ofNat 1779033703))).setIfInBounds 1 ((UInt32.ofNat 3144134277))).setIfInBounds 2 ((UInt32.ofNat 1013904242))).setIfInBounds 3 ((UInt32.ofNat 2773480762))).setIfInBounds 4 ((UInt32.ofNat 1359893119))).setIfInBounds 5 ((UInt32.ofNat 2600822924))).setIfInBounds 6 ((UInt32.ofNat 528734635))).setIfInBounds 7 ((UInt32.ofNat 1541459225))) ((((((((((((((((((((((((((((((((((((((((((((((((((((((((((((((((((Vector.replicate 64 0)).setIfInBounds 0 ((UInt32.ofNat 1116352408))).setIfInBounds 1 ((UInt32.ofNat 1899447441))).setIfInBounds 2 ((UInt32.ofNat 3049323471))).setIfInBounds 3 ((UInt32.ofNat 3921009573))).setIfInBounds 4 ((UInt32.ofNat 961987163))).setIfInBounds 5 ((UInt32.ofNat 1508970993))).setIfInBounds 6 ((UInt32.ofNat 2453635748))).setIfInBounds 7 ((UInt32.ofNat 2870763221))).setIfInBounds 8 ((UInt32.ofNat 3624381080))).setIfInBounds 9 ((UInt32.ofNat 310598401))).setIfInBounds 10 ((UInt32.ofNat 607225278))).setIfInBounds 11 ((UInt32.ofNat 1426881987))).setIfInBounds 12 ((UInt32.ofNat 1925078388))).setIfInBounds 13 ((UInt32.ofNat 2162078206))).setIfInBounds 14 ((UInt32.ofNat 2614888103))).setIfInBounds 15 ((UInt32.ofNat 3248222580))).setIfInBounds 16 ((UInt32.ofNat 3835390401))).setIfInBounds 17 ((UInt32.ofNat 4022224774))).setIfInBounds 18 ((UInt32.ofNat 264347078))).setIfInBounds 19 ((UInt32.ofNat 604807628))).setIfInBounds 20 ((UInt32.ofNat 770255983))).setIfInBounds 21 ((UInt32.ofNat 1249150122))).setIfInBounds 22 ((UInt32.ofNat 1555081692))).setIfInBounds 23 ((UInt32.ofNat 1996064986))).setIfInBounds 24 ((UInt32.ofNat 2554220882))).setIfInBounds 25 ((UInt32.ofNat 2821834349))).setIfInBounds 26 ((UInt32.ofNat 2952996808))).setIfInBounds 27 ((UInt32.ofNat 3210313671))).setIfInBounds 28 ((UInt32.ofNat 3336571891))).setIfInBounds 29 ((UInt32.ofNat 3584528711))).setIfInBounds 30 ((UInt32.ofNat 113926993))).setIfInBounds 31 ((UInt32.ofNat 338241895))).setIfInBounds 32 ((UInt32.ofNat 666307205))).setIfInBounds 33 ((UInt32.ofNat 773529912))).setIfInBounds 34 ((UInt32.ofNat 1294757372))).setIfInBounds 35 ((UInt32.ofNat 1396182291))).setIfInBounds 36 ((UInt32.ofNat 1695183700))).setIfInBounds 37 ((UInt32.ofNat 1986661051))).setIfInBounds 38 ((UInt32.ofNat 2177026350))).setIfInBounds 39 ((UInt32.ofNat 2456956037))).setIfInBounds 40 ((UInt32.ofNat 2730485921))).setIfInBounds 41 ((UInt32.ofNat 2820302411))).setIfInBounds 42 ((UInt32.ofNat 3259730800))).setIfInBounds 43 ((UInt32.ofNat 3345764771))).setIfInBounds 44 ((UInt32.ofNat 3516065817))).setIfInBounds 45 ((UInt32.ofNat 3600352804))).setIfInBounds 46 ((UInt32.ofNat 4094571909))).setIfInBounds 47 ((UInt32.ofNat 275423344))).setIfInBounds 48 ((UInt32.ofNat 430227734))).setIfInBounds 49 ((UInt32.ofNat 506948616))).setIfInBounds 50 ((UInt32.ofNat 659060556))).setIfInBounds 51 ((UInt32.ofNat 883997877))).setIfInBounds 52 ((UInt32.ofNat 958139571))).setIfInBounds 53 ((UInt32.ofNat 1322822218))).setIfInBounds 54 ((UInt32.ofNat 1537002063))).setIfInBounds 55 ((UInt32.ofNat 1747873779))).setIfInBounds 56 ((UInt32.ofNat 1955562222))).setIfInBounds 57 ((UInt32.ofNat 2024104815))).setIfInBounds 58 ((UInt32.ofNat 2227730452))).setIfInBounds 59 ((UInt32.ofNat 2361852424))).setIfInBounds 60 ((UInt32.ofNat 2428436474))).setIfInBounds 61 ((UInt32.ofNat 2756734187))).setIfInBounds 62 ((UInt32.ofNat 3204031479))).setIfInBounds 63 ((UInt32.ofNat 3329325298))))) fun z6=>
 .sum z6 (fun z7=>
 .bind (qbF N ((Vector.replicate 32 0)) ((((((((((Vector.replicate 8 0)).setIfInBounds 0 ((UInt32.ofNat 1779033703))).setIfInBounds 1 ((UInt32.ofNat 3144134277))).setIfInBounds 2 ((UInt32.ofNat 1013904242))).setIfInBounds 3 ((UInt32.ofNat 2773480762))).setIfInBounds 4 ((UInt32.ofNat 1359893119))).setIfInBounds 5 ((UInt32.ofNat 2600822924))).setIfInBounds 6 ((UInt32.ofNat 528734635))).setIfInBounds 7 ((UInt32.ofNat 1541459225))) ((Vector.replicate 32 0)) 0) fun z8=>
 .ret z8.1) fun z7=>
 .bind (qbF N ((Vector.replicate 32 0)) z7.1 ((Vector.replicate 32 0)) 0) fun z8=>
 .ret z8.1
def qds (N:Nat) (a0:List UInt8):Option (Vector UInt8 32):=(qkP N a0).run some
def qBj (N:Nat):List (Nat×qI):=[(2,qkz N),(5,qlm N),(10,qi1 N),(15,qiE N)]
def qr2 (N:Nat):Ent:=smF ⟨78,[],[.x .bl],[],[]⟩ [.bl] (Vector UInt8 32) (fun x=>qds N x.1) cs1 fun _=>qkc
theorem qxx (N:Nat):qdn Tryz.prog ⟨78,[],[.x .bl],[],[]⟩ [.bl] (fun x=>qkP N x.1) (fun _=>qkc):=
 qa2 (H:=Jc) (L:=qR (qBj N)) 0 qFc (Wa N) (qu (by kernel_rfl) ⟨qs9 N,qth N,qqQ N,qqK N,trivial⟩) (rg0 (by kernel_rfl)) fun x=>by kernel_rfl
theorem qpw (N:Nat):zd Tryz.prog (qr2 N):=qgW (qxx N)
end Go.Rx
end
set_option maxRecDepth 100000
noncomputable section
namespace Go.Rx
open Go.Proofs
def dg0:Vector UInt8 32:=#v[227,176,196,66,152,252,28,20,154,251,244,200,153,111,185,36,39,174,65,228,100,155,147,76,164,149,153,27,120,82,184,85]
theorem qHK:qds 300 []=some dg0:=by kernel_rfl
def qG4:List (List UInt8×Vector UInt8 32):=[([],dg0)]
theorem qGu:qzO (qds 300) qG4:=⟨qHK,trivial⟩
def qvn:Ent:=smF ⟨78,[],[.x .bl],[],[]⟩ [.bl] (Vector UInt8 32) (fun x=>qwh qG4 x.1) cs1 fun _=>qkc
theorem qGd:zd Tryz.prog qvn:=qGX (qpw 300) fun x z h=>qyA qGu x.1 z h
end Go.Rx
end
set_option maxRecDepth 100000
noncomputable section
namespace Go.Rx
open Go.Proofs
def qFY:List (Nat×TH):=[(11,{ live:=[(1,[1]),(2,[1,2,3]),(3,[1,2,3,4,5,6]),(4,[1,2,3,4,5,6,7,8]),(5,[1,2,3,4,5,6,7,8,9]),(6,[1,2,3,4,5,6,7,8,9,10,11]),(7,[0])],dec:=[44,49,52,56,61,65,71,75,81,85],rd:=[(1,[1]),(3,[4]),(4,[7]),(5,[9]),(6,[10])] }),
 (13,{ live:=[(0,[1]),(1,[1,12]),(2,[2,3]),(3,[1,4]),(4,[1,6]),(5,[1,6,7]),(6,[1,6,7,32]),(7,[1,6,7,32,33]),(8,[6]),(9,[1,6,7,32,43]),(10,[6]),(11,[1,6,7,58]),(12,[1,6,7,8]),(13,[6]),(14,[2,3])],rd:=[(0,[1])] }),
 (15,{ live:=[(0,[0,2]),(1,[0,2,5]),(2,[0,2,5,6]),(3,[0,2,5,6,7,8,9]),(4,[0,2,5,6,7]),(5,[0,2,5,6]),(6,[0,2,5,6,41]),(7,[0,2,5,6]),(8,[0,2,5,6,46]),(9,[0,2,5,6,46,47]),(10,[0,2,5,6,10,11,12]),(11,[0,2,5,6,10]),(12,[0,2,5,6]),(13,[0,2,5,6,46,64]),(14,[0,2,5,6]),(15,[0,2,5,6,75]),(16,[0,2,5,6,13,14,15]),(17,[0,2,5,6,13]),(18,[0,2,5,6]),(19,[0,2,5,6,103]),(20,[2,3,4]),(21,[2,3,4])],dec:=[99],rd:=[(3,[7])] }),
 (19,{ live:=[(0,[1]),(1,[1,23]),(2,[2]),(3,[2])],dec:=[6,11,18,27,32,37,43] }),
 (20,{ live:=[(0,[2,3]),(1,[2,3,5]),(2,[4])],dec:=[11,18,25,33,40,47,54,61] }),
 (21,{ live:=[(0,[1]),(1,[3]),(2,[2])] }),
 (24,{ live:=[(0,[2,3,4]),(1,[2,3,4,17]),(2,[4,5]),(3,[2,3,4,6]),(4,[2,3,4,7]),(5,[2,3,4,7,25]),(6,[4,5]),(7,[2,3,4,8,9]),(8,[2,3,4,8,9,44]),(9,[4,5]),(10,[4,5])],dec:=[13,21],rd:=[(3,[6])] }),
 (27,{ live:=[(0,[2,3,4]),(1,[2,4,6]),(2,[2,4,6,12]),(3,[4,5]),(4,[4,5])] }),
 (28,{ live:=[(0,[2,3,4]),(1,[2,4,6]),(2,[2,4,6,12]),(3,[4,5]),(4,[4,5])] }),
 (29,{ live:=[(0,[0,2]),(1,[2])] }),
 (30,{ live:=[(0,[1]),(1,[1,6,7,8]),(2,[1,6,7,8,9]),(3,[1,3,4,6,7,8]),(4,[1,6,7,8,32]),(5,[2]),(6,[1,6,7,8]),(7,[2])],dec:=[16,19],rd:=[(3,[4])] }),
 (33,{ live:=[(0,[1]),(1,[1,6]),(2,[2,3]),(3,[2,3])],fresh:=[15],esc:=true }),
 (34,{ live:=[(0,[0]),(1,[0,3]),(2,[0,3,9,10,11]),(3,[0,3,9,10,11,12]),(4,[0,3,5,9,10,11]),(5,[0,3,9,10,11]),(6,[0,3,9,10,11,20]),(7,[0,3,9,10,11]),(8,[0,3,9,10,11]),(9,[0,6]),(10,[6,25,26,27]),(11,[6,25,26,27,28]),(12,[6,8,25,26,27]),(13,[6,25,26,27]),(14,[6,25,26,27]),(15,[2])],raw:=[85],fresh:=[24] }),
 (35,{ live:=[(0,[0]),(1,[2])],fresh:=[6],esc:=true }),
 (36,{ live:=[(0,[0]),(1,[0,9]),(2,[2,3]),(3,[0,4]),(4,[4,14,15,16]),(5,[4,14,15,16,17]),(6,[4,6,14,15,16]),(7,[4,6,14,15,16,21]),(8,[4,14,15,16]),(9,[4,14,15,16]),(10,[4,14,15,16]),(11,[2,3])],rd:=[(6,[6])] }),
 (42,{ live:=[(0,[0]),(1,[2])] }),
 (43,{ live:=[(0,[0,2]),(1,[2])] }),
 (44,{ live:=[(0,[0,2]),(1,[2,5,6,7]),(2,[2,6,7,8]),(3,[2,6,8,28]),(4,[2,3,4]),(5,[2,3,4])],dec:=[24],rd:=[(2,[8])] }),
 (45,{ live:=[(0,[0,1,2]),(1,[0,1]),(2,[0,1,31]),(3,[6]),(4,[0,1,7]),(5,[7]),(6,[6])],dec:=[13,17] }),
 (46,{ live:=[(0,[0,1]),(1,[0,1,7,8,9]),(2,[1,7,8,9,10]),(3,[7,8,10,33]),(4,[4,5,6]),(5,[4,5,6])],dec:=[21,25] }),
 (47,{ live:=[(0,[0,2]),(1,[2])] }),
 (48,{ live:=[(0,[0]),(1,[0,5,6,7]),(2,[0,5,6,23]),(3,[2,3,4]),(4,[0,5,6,8]),(5,[0,6,8,24,25]),(6,[0,6,8,24,25,26]),(7,[0,6,8,9,10,11,24,25]),(8,[0,6,8,9,10,24,25,36]),(9,[2,3,4]),(10,[0,6,8,10,24,25]),(11,[0,6,8,24,25]),(12,[0,6,8,24,25]),(13,[6,8,47]),(14,[2,3,4]),(15,[2,3,4])],dec:=[20],rd:=[(7,[9])] }),
 (59,{ live:=[(0,[1,2]),(1,[1,2,3]),(2,[1,2,3,12]),(3,[1,2,3,12,13]),(4,[2,3]),(5,[1,2,3,12,21]),(6,[2,3]),(7,[1,2,3,35]),(8,[2,3]),(9,[2])] }),
 (60,{ live:=[(0,[1]),(1,[2])],dec:=[6,10,15,20] }),
 (61,{ live:=[(0,[0]),(1,[2])],dec:=[5] }),
 (62,{ live:=[(0,[0]),(1,[0,3]),(2,[0,3,6,7,8]),(3,[0,3,6,7,8,9]),(4,[0,3,5,6,7,8]),(5,[0,3,5,6,7,8,14]),(6,[2]),(7,[0,3,6,7,8]),(8,[0,3,6,7,8]),(9,[2])],dec:=[27],rd:=[(4,[5])] }),
 (63,{ live:=[(0,[0,1]),(1,[4])] }),
 (65,{ live:=[(0,[1]),(1,[2,3])] }),
 (66,{ live:=[(0,[1]),(1,[2,3])] }),
 (67,{ live:=[(0,[1]),(1,[1,4,5]),(2,[1,4,5,20]),(3,[2,3]),(4,[1,6,7]),(5,[1,6,31]),(6,[2,3]),(7,[2,3])] }),
 (68,{ live:=[(0,[2,3,4]),(1,[2,3,4,6]),(2,[2,3,4,6,39]),(3,[4,5]),(4,[2,4,47,48,49]),(5,[2,4,47,48,49,50]),(6,[2,4,8,47,48,49]),(7,[2,4,8,47,48,49,54]),(8,[2,4,9,10,47,48,49]),(9,[2,4,9,10,47,48,49,64]),(10,[4,5]),(11,[2,4,47,48,49]),(12,[2,4,47,48,49]),(13,[4,5])],dec:=[19,23,29,34],rd:=[(1,[6]),(6,[8]),(8,[9])] }),
 (73,{ live:=[(0,[0,1]),(1,[0,1,7,8]),(2,[0,1,7,8,9]),(3,[0,1,5,7,8]),(4,[0,1,5,7,8,16]),(5,[4]),(6,[0,1,7,8]),(7,[4])] }),
 (74,{ live:=[(0,[1,2]),(1,[3])] }),
 (75,{ live:=[(0,[1,2]),(1,[1,2]),(2,[2])] }),
 (76,{ live:=[(0,[0,1]),(1,[0,1,7,8]),(2,[0,1,7,8,9]),(3,[0,1,5,7,8]),(4,[0,1,5,7,8,16]),(5,[4]),(6,[0,1,7,8]),(7,[4])] }),
 (77,{ live:=[(0,[1,2]),(1,[3])] }),
 (78,{ live:=[(0,[0,2]),(1,[0,2,3]),(2,[0,2,3,16]),(3,[0,2,3]),(4,[0,2,3,20]),(5,[0,2,3,20,21]),(6,[0,2,3,4,20]),(7,[0,2,3,20]),(8,[0,2,3,20]),(9,[2,3,5,6]),(10,[2,3,5,6,40]),(11,[2,3,5,6]),(12,[2,3,5,6]),(13,[2,5,7]),(14,[2,5,7,46]),(15,[2,5,7,46,47]),(16,[2,5,7,8,46]),(17,[2,5,7,46]),(18,[2,5,7,46]),(19,[2])],fresh:=[10] }),
 (79,{ live:=[(0,[1]),(1,[1,21]),(2,[2]),(3,[1,23,24,25]),(4,[1,23,24,25,26]),(5,[1,3,4,23,24,25]),(6,[1,4,5,23,24,25]),(7,[1,23,24,25,74]),(8,[2]),(9,[1,23,24,25]),(10,[2])],dec:=[10,15,32,37,40,55,60,66],rd:=[(5,[4])] }),
 (80,{ live:=[(0,[2,3]),(1,[4])],dec:=[8] }),
 (83,{ live:=[(0,[2,3,4]),(1,[2,3,4,22]),(2,[4,5]),(3,[2,3,4,6]),(4,[2,3,4,6,7]),(5,[4,6,7,30,31,32]),(6,[4,6,7,30,31,32,33]),(7,[4,6,7,9,30,31,32]),(8,[4,6,7,9,10,11,30,31,32]),(9,[4,6,7,9,10,30,31,32,44]),(10,[4,6,7,9,30,31,32]),(11,[4,6,7,30,31,32]),(12,[4,6,7,30,31,32]),(13,[4,6,7,30,31,32]),(14,[4,6,7,67]),(15,[4,5]),(16,[4,6,7]),(17,[4,6,7,12]),(18,[4,6,12,71,72,73]),(19,[4,6,12,71,72,73,74]),(20,[4,6,12,14,71,72,73]),(21,[4,6,12,71,72,73]),(22,[4,6,12,71,72,73]),(23,[4,5])],dec:=[18],rd:=[(7,[9]),(8,[10]),(20,[14])] }),
 (84,{ live:=[(0,[0]),(1,[0,3]),(2,[0,3,4]),(3,[0,3,4,10,11]),(4,[0,3,4,10,11,12]),(5,[0,3,4,5,10,11]),(6,[0,3,4,10,11]),(7,[0,3,4,10,11]),(8,[4]),(9,[2])],esc:=true }),
 (85,{ live:=[(0,[0,1]),(1,[0,1,6]),(2,[0,1]),(3,[0,1]),(4,[0,1,16]),(5,[0]),(6,[4])],esc:=true,nil:=[(5,[⟨.sl 0,900000850,.bl⟩])] }),
 (87,{ live:=[(0,[0]),(1,[0,5]),(2,[0,5,6]),(3,[5,6,9,10,11]),(4,[5,6,9,10,11,12]),(5,[5,6,7,8,9,10,11]),(6,[5,6,7,8,9,10,11,16]),(7,[5,6,7,8,9,10,11,16]),(8,[5,6,7,8,9,10,11,16]),(9,[5,6,7,8,9,10,11]),(10,[5,6,7,9,10,11,39]),(11,[5,6]),(12,[5,6,9,10,11]),(13,[5,6,44]),(14,[2,3,4]),(15,[2,3,4])],dec:=[21,28] }),
 (88,{ live:=[(0,[0,2]),(1,[0,2,5]),(2,[0,2,5,15]),(3,[2,3,4]),(4,[0,2,5,26]),(5,[2,6,7,8]),(6,[2,3,4]),(7,[0,2,5,9,10,11]),(8,[2,5,9,10,11,12,13,14]),(9,[2,5,9,10,12,13,72]),(10,[2,3,4]),(11,[2,3,4])],dec:=[19,61,65,69] }),
 (90,{ live:=[(0,[1]),(1,[1,4]),(2,[2]),(3,[2])],dec:=[8,13,23] }),
 (91,{ live:=[(0,[0,1]),(1,[0,1,10]),(2,[4]),(3,[0,1,12,13]),(4,[0,1,12,13,14]),(5,[0,1,5,12,13]),(6,[0,1,12,13,24]),(7,[4]),(8,[0,1,12,13]),(9,[4])] }),
 (92,{ live:=[(0,[1,2,3]),(1,[1,2,17]),(2,[6,7]),(3,[6,7])],dec:=[10] }),
 (93,{ live:=[(0,[2,3,4]),(1,[2,8]),(2,[10,11]),(3,[10,26]),(4,[6,7]),(5,[6,7])],rd:=[(1,[8]),(2,[10])] }),
 (94,{ live:=[(0,[0,1]),(1,[0,1,11]),(2,[4,5]),(3,[0,1,6]),(4,[0,6,12,13,14]),(5,[0,6,12,13,14,15]),(6,[0,6,8,12,13,14]),(7,[0,6,8,12,13,14,29]),(8,[4,5]),(9,[0,6,8,12,13,14]),(10,[0,6,8,12,13,14,34]),(11,[0,6,12,13,14]),(12,[0,6,12,13,14]),(13,[4,5])],dec:=[20],rd:=[(6,[8])] }),
 (95,{ live:=[(0,[1]),(1,[2])],dec:=[7] }),
 (103,{ live:=[(0,[0]),(1,[0,4]),(2,[2]),(3,[2])],vecs:=[5],esc:=true }),
 (104,{ live:=[(0,[0]),(1,[0,4]),(2,[2]),(3,[2])],vecs:=[5],esc:=true }),
 (105,{ live:=[(0,[0]),(1,[0])] }),
 (106,{ live:=[(0,[0]),(1,[0])] }),
 (107,{ live:=[(0,[0,2,6]),(1,[0,2,6,7]),(2,[0,2,6,7,19]),(3,[0,2,6,7,19,20]),(4,[0,2,6,7,8,19]),(5,[0,2,6,7,8,9,10,19]),(6,[0,2,6,7,9,11,19]),(7,[0,2,6,7,11,12,19]),(8,[0,2,6,7,11,12,19]),(9,[0,2,6,7,11,19]),(10,[0,2,6,7,19]),(11,[0,2,6,7,19]),(12,[0,7,95]),(13,[0,7,95,96]),(14,[0,7,13,95]),(15,[0,7,95]),(16,[0,7,95])],rd:=[(0,[6])] }),
 (108,{ live:=[(0,[1]),(1,[2])],dec:=[7,12] }),
 (109,{ live:=[(0,[2,3]),(1,[4])],dec:=[8] }),
 (110,{ live:=[(0,[0,1]),(1,[4])] }),
 (112,{ live:=[(0,[0]),(1,[0,3]),(2,[0,3,9,10,11]),(3,[0,3,9,10,11,12]),(4,[0,3,5,9,10,11]),(5,[0,3,9,10,11]),(6,[0,3,9,10,11,20]),(7,[0,3,9,10,11]),(8,[0,3,9,10,11]),(9,[0,6]),(10,[6,25,26,27]),(11,[6,25,26,27,28]),(12,[6,8,25,26,27]),(13,[6,25,26,27]),(14,[6,25,26,27]),(15,[2])],raw:=[129],fresh:=[24] }),
 (113,{ live:=[(0,[2,3,4]),(1,[2,3,4,23]),(2,[4,5]),(3,[2,3,4,6]),(4,[2,3,4,6]),(5,[2,3,4,6]),(6,[4,6,7]),(7,[4,7,43]),(8,[7,8]),(10,[4,5])],dec:=[12,17],fresh:=[43],rd:=[(8,[8])] }),
 (114,{ live:=[(0,[0,1,4])] }),
 (115,{ live:=[(0,[2,3]),(1,[4])] }),
 (116,{ live:=[(0,[0]),(1,[0,3]),(2,[0,3]),(3,[0,3,7]),(4,[0,3]),(5,[0,3]),(6,[2])] }),
 (117,{ live:=[(0,[0,1,2]),(1,[6])],dec:=[10] }),
 (118,{ live:=[(0,[0,1]),(1,[0,1]),(2,[1]),(3,[4,5])] }),
 (119,{ live:=[(0,[0]),(1,[2])] }),
 (124,{ live:=[(0,[0,2]),(1,[0,2,3]),(2,[0,2,3,7]),(3,[0,2,3,7,8]),(4,[0,2,3,4,7]),(5,[0,2,3,4,7,11]),(6,[0,2,3,7]),(7,[0,2,3,4,5,6,7]),(8,[0,2,3,7]),(9,[0,2,3,7]),(10,[2])] }),
 (125,{ live:=[(0,[0,1]),(1,[4])] }),
 (126,{ live:=[(0,[0]),(1,[0,3]),(2,[3,6,7,8]),(3,[3,6,7,8,9]),(4,[3,5,6,7,8]),(5,[3,5,6,7,8,14]),(6,[2]),(7,[3,6,7,8]),(8,[2])] }),
 (127,{ live:=[(0,[0,1]),(1,[0,1,5]),(2,[0,1,5,6]),(3,[0,1,6,11]),(4,[12]),(5,[4]),(6,[4]),(7,[0,1,13]),(8,[4]),(9,[0,1,16]),(10,[4]),(11,[19]),(12,[4]),(13,[4])] }),
 (129,{ live:=[(0,[0,1]),(1,[0,1,6]),(2,[0,1]),(3,[0,1]),(4,[0,1,16]),(5,[0]),(6,[4])],esc:=true,nil:=[(5,[⟨.sl 0,900001290,(.sl 19 (.ag [(.ba 16),(.ag [(.i .i64),(.i .i64)]),(.sl 4 (.ag [(.i .i64),(.ag [(.ag [(.i .i64),(.i .i64)]),.s])]))]))⟩])] }),
 (130,{ live:=[(0,[0,3]),(1,[0,9,10,11]),(2,[0,9,10,11,12]),(3,[0,5,9,10,11]),(4,[0,5,6,7,9,10,11]),(5,[0,5,6,9,10,11,22]),(6,[0,9,10,11]),(7,[0,9,10,11]),(8,[0,9,10,11])],rd:=[(3,[5]),(4,[6])] }),
 (131,{ live:=[(0,[2,3,4]),(1,[2,3,4,7]),(2,[4]),(3,[4])] }),
 (132,{ live:=[(0,[2,3]),(1,[4])],esc:=true }),
 (133,{ live:=[(0,[0,1,2,3,4,10]),(1,[0,1,2,3,4,10,11]),(2,[0,1,2,3,4,10,11,12]),(3,[0,1,2,3,4,10,11,12,25]),(5,[0,1,2,3,4,10,11,12,32]),(7,[0,1,2,3,4,10,11,12,39]),(8,[0,1,2,3,4,10,11,12]),(9,[0,1,2,3,4,10,11,12]),(10,[0,1,2,3,4,10,11,12,13,14]),(11,[0,1,2,3,4,10,11,12,13,14,56]),(12,[0,1,2,3,4,10,11,12,13]),(13,[0,1,2,3,4,10,11,12,13]),(14,[0,1,2,3,4,10,11,12,13,14]),(15,[0,1,2,3,4,10,11,12,13,75]),(16,[0,1,2,3,4,10,11,12,13,80]),(17,[0,1,2,3,4,10,11,12,13,97]),(18,[0,2,3,4,10,11,15]),(19,[0,1,2,3,4,10,11]),(20,[0,1,2,3,4,12,16,17]),(21,[0,1,2,3,4,11,12,16]),(22,[0,1,2,3,4,11,12,16,18,19]),(23,[0,1,2,3,4,11,16,18,19,20]),(24,[0,1,2,3,4,11,16,18,19,20,125]),(25,[0,1,2,3,4,10,11,16]),(26,[0,2,3,4,10,11,16]),(27,[0,1,2,3,4,10,11]),(28,[0,1,2,3,4,10,11,16]),(29,[0,1,3,4,10,11,16]),(30,[0,1,2,3,4,10,11])],dec:=[69,72,83] }),
 (134,{ live:=[(0,[0]),(1,[2]),(2,[2])] }),
 (135,{ live:=[(0,[0,6]),(2,[19])] }),
 (142,{ live:=[(0,[0,1]),(1,[0,5]),(2,[4])] }),
 (143,{ live:=[(0,[0]),(1,[2])] }),
 (144,{ live:=[(0,[2,3,4]),(1,[2,3,4,7]),(2,[4]),(3,[4])] }),
 (145,{ live:=[(0,[0,1,2,7]),(1,[0,1,2,7,8]),(2,[0,1,2,4,7]),(3,[0,1,2,4,5,6,7]),(4,[0,1,2,7,30]),(5,[0,1,2,7])],dec:=[17,23],rd:=[(3,[5])] }),
 (146,{ live:=[(0,[0,1,2,3,8]),(1,[0,1,2,3,8,14]),(2,[0,1,2,3,8]),(3,[0,1,2,3,8,9]),(4,[0,1,2,3,8,9,34]),(5,[0,1,2,3,8,9]),(6,[0,1,2,3,8,9])],dec:=[21] }),
 (147,{ live:=[(0,[0,1,2,3,8]),(1,[0,1,2,3,8,9]),(2,[0,3,8,9,10]),(3,[0,3,8,9,10,11]),(4,[0,3,8,9,10,11,21]),(5,[0,3,8,9,10,11]),(6,[0,3,8,9,10,11]),(7,[0,3,8,9,12]),(8,[0,3,8,9,12,33]),(9,[0,3,8,9,12]),(10,[0,3,8,9,12]),(11,[0,3,8,9,12])] }),
 (148,{ live:=[(0,[0,1,8]),(1,[0,1,8,17]),(2,[0,1,8,9]),(3,[0,1,8,9,10]),(4,[0,1,8,9,10,11]),(5,[0,1,8,9,10,11,35]),(6,[0,1,8,9,10,11]),(7,[0,1,8,9,10,11,12]),(8,[0,1,8,9,10,11,12,45]),(9,[0,1,8,9,10,11,12]),(10,[0,1,8,9,10,11])] }),
 (149,{ live:=[(0,[0,1,2,3]),(1,[0,1,3,10]),(2,[0,1,3,10,11]),(3,[0,1,3,10,11,12]),(4,[0,1,3,10,11,12,13]),(5,[0,3,10,11,12,13,14]),(6,[0,3,10,11,12,13,14,34]),(7,[0,3,11,12,13,14,36]),(8,[0,3,11,12,13,14]),(9,[0,3,11,12,13,14]),(10,[0,3,11,12,13,14]),(11,[11,13]),(12,[13,55]),(13,[8,9]),(14,[13,55,57]),(15,[8,9]),(16,[13,60]),(17,[8,9])] }),
 (150,{ live:=[(0,[0,2,8]),(1,[0,8,9]),(2,[0,8,9,15]),(3,[0,8,9]),(4,[0,8,9]),(5,[0,8,9])] }),
 (151,{ live:=[(0,[0,1,2,3]),(1,[0,1,2,3,9]),(2,[0,1,2,3,9,10]),(3,[0,1,2,3,9,10,16]),(4,[0,1,2,3,9,10]),(5,[0,1,2,3,9,10,36]),(6,[0,1,2,3,9,10]),(7,[0,1,2,3,9,10,41]),(8,[8]),(9,[0,1,2,3,9,10,45]),(10,[8]),(11,[0,1,2,3,9,10]),(12,[0,1,2,3,9,10,65]),(13,[0,1,2,3,9,10,11]),(14,[0,1,2,3,9,10,11,69]),(15,[0,1,2,3,9,10,11]),(16,[0,1,2,3,9,10,11,84]),(17,[0,1,2,3,9,10,11]),(18,[0,1,2,3,9,10,104]),(19,[0,1,2,3,9,10,12]),(20,[0,1,2,3,9,10,12,109]),(21,[0,1,2,3,9,10,12]),(22,[0,1,2,3,9,10,12,124]),(23,[0,1,2,3,9,10,12]),(24,[8])],dec:=[22] }),
 (152,{ live:=[(0,[0,1,2,3,4]),(1,[0,1,2,4]),(2,[0,1,4,11,12]),(3,[0,1,4,11,12,47]),(4,[0,1,4,11,12]),(5,[0,1,4,11,12,65]),(6,[0,1,4,11,12]),(7,[0,1,4,11,12,70]),(8,[0,1,4,11,12]),(9,[0,1,4,11,12]),(10,[0,1,4,11,12]),(11,[10])],dec:=[34,53] }),
 (153,{ live:=[(0,[0,1,2,3,4]),(1,[0,1,2,4]),(2,[0,1,4,12,13]),(3,[0,1,4,12,13,47]),(4,[0,1,4,12,13]),(5,[0,1,4,12,13,66]),(6,[0,1,4,12,13]),(7,[0,1,4,12,13,71]),(8,[13]),(9,[10,11]),(10,[0,1,4,12,13]),(11,[0,1,4,12,13]),(12,[0,1,4,12,13]),(13,[0,1,4,12,13,120]),(14,[0,1,4,12,13]),(15,[0,1,4,12,13,139]),(16,[0,1,4,12,13]),(17,[0,1,4,12,13,144]),(18,[0,1,4,12,13]),(19,[0,1,4,12,13]),(20,[0,1,4,12,13]),(21,[13]),(22,[10,11])],dec:=[35,53,108,126] }),
 (154,{ live:=[(0,[0,2]),(1,[0,2,4]),(2,[0]),(3,[0,2]),(4,[0,2,8]),(5,[0,2]),(6,[0,2]),(7,[2])] }),
 (155,{ live:=[(0,[0,2]),(1,[0,2,4]),(2,[0]),(3,[0,2]),(4,[0,2,8]),(5,[0,2]),(6,[0,2]),(7,[0,2,14]),(8,[0,2]),(9,[0,2]),(10,[2])] }),
 (159,{ live:=[(0,[2,3]),(1,[5]),(2,[13,14]),(3,[13,14,15]),(4,[7,13,14]),(5,[8,13,14]),(6,[8,13,14,20]),(7,[4]),(8,[13,14]),(9,[4])],rd:=[(1,[5])] }),
 (160,{ live:=[(0,[0,2,3,4,10]),(1,[0,2,3,4,10,11]),(2,[0,2,3,4,10,11,18]),(3,[0,2,3,4,10,11,40]),(4,[0,2,3,4,10,11]),(5,[0,2,3,4,10,11,58]),(6,[0,2,3,4,11]),(7,[0,2,3,4,10])],dec:=[23] }),
 (161,{ live:=[(0,[0]),(1,[2])] }),
 (162,{ live:=[(0,[0]),(1,[0]),(2,[0]),(3,[0]),(4,[2])] }),
 (163,{ live:=[(0,[0,1,2,3]),(1,[8])] }),
 (164,{ live:=[(0,[0,1,2,3,4,5]),(1,[0,1,2,3,4,5]),(2,[0,1,2,4,5]),(3,[2]),(4,[12])] }),
 (166,{ live:=[(0,[0,1]),(1,[2])] }),
 (167,{ live:=[(0,[2,3,4]),(1,[2,3,4,7]),(2,[6]),(3,[12]),(4,[6]),(5,[6])] }),
 (168,{ live:=[(0,[0,1]),(1,[2])] }),
 (169,{ live:=[(0,[2,3,4]),(1,[2,3,4,7]),(2,[6]),(3,[12]),(4,[6]),(5,[6])] }),
 (170,{ live:=[(0,[2,3]),(1,[4])],dec:=[8] }),
 (171,{ live:=[(0,[0,1]),(1,[2])] }),
 (172,{ live:=[(0,[0,1]),(1,[0,1,5]),(2,[0,1,5,6]),(3,[0,1,6,11]),(4,[12]),(5,[4]),(6,[4]),(7,[0,1,13]),(8,[4]),(9,[0,1,16]),(10,[4]),(11,[19]),(12,[4]),(13,[4])] }),
 (173,{ live:=[(0,[0,1,2,3,4]),(1,[1,2,3,22]),(2,[1,2]),(3,[10,11]),(4,[10,11])] }),
 (175,{ live:=[(0,[0]),(1,[2])] })]
def qGi (k:FuncId):TH:=(get qFY k).getD {}
theorem qGw:qkl Tryz.prog [113]:=⟨qDA (fn:=Tryz.f113) (c:=Tryz.f113.body.getD .skip) (by kernel_rfl) (by kernel_rfl) (by kernel_rfl),trivial⟩
def quX:Option Bool:=some true
theorem qAx:qAH Tryz.prog qGi [113] [qvn,qpj] 400 30 11=some (.pv (.b true),[]):=by kernel_rfl
def qu9:Ent:=smF ⟨11,[],[],[],[]⟩ [] Bool (fun _=>quX) cs1 fun _ z=>(xb z,[])
theorem qA1:zd Tryz.prog qu9:=qF2 Tryz.prog (fun _=>rfl) qj (base:=[qvn,qpj]) ⟨qGd,qxY,trivial⟩ qGw qAx
end Go.Rx
end
set_option maxRecDepth 100000
noncomputable section
namespace Go.Rx
open Go.Proofs
def qk9:List UInt8:=[0,1,2,2,3,3,3,3,4,4,4,4,4,4,4,4,5,5,5,5,5,5,5,5,5,5,5,5,5,5,5,5,6,6,6,6,6,6,6,6,6,6,6,6,6,6,6,6,6,6,6,6,6,6,6,6,6,6,6,6,6,6,6,6,7,7,7,7,7,7,7,7,7,7,7,7,7,7,7,7,7,7,7,7,7,7,7,7,7,7,7,7,7,7,7,7,7,7,7,7,7,7,7,7,7,7,7,7,7,7,7,7,7,7,7,7,7,7,7,7,7,7,7,7,7,7,7,7,8,8,8,8,8,8,8,8,8,8,8,8,8,8,8,8,8,8,8,8,8,8,8,8,8,8,8,8,8,8,8,8,8,8,8,8,8,8,8,8,8,8,8,8,8,8,8,8,8,8,8,8,8,8,8,8,8,8,8,8,8,8,8,8,8,8,8,8,8,8,8,8,8,8,8,8,8,8,8,8,8,8,8,8,8,8,8,8,8,8,8,8,8,8,8,8,8,8,8,8,8,8,8,8,8,8,8,8,8,8,8,8,8,8,8,8,8,8,8,8,8,8,8,8,8,8,8,8]
noncomputable def qos:Code:=Tryz.f64.body.getD .skip
theorem qDw:FnF Tryz.prog 64 Tryz.f64 qos:=⟨qj,by kernel_rfl,by kernel_rfl,by kernel_rfl⟩
def W2:TH:={ live:=[(0,[1]),(1,[1,7]),(2,[2]),(3,[1,3]),(4,[1,3,12]),(5,[1,3]),(6,[1,3,23]),(7,[2]),(8,[2])] }
def qcc (N:Nat):List Ent:=[]
theorem qab (N:Nat):qT Tryz.prog (qcc N):=trivial
abbrev ZJ:=qa
abbrev vr:=Unit⊕(Int×Bool)
def Qq (f:ZJ):vr→Ex×TSt
 | .inl y=>(.ret,⟨0,24,[],[(2,.bc false)],[],false,[]⟩)
 | .inr y=>(.exit 0,⟨0,24,[],[(1,.p 10 [] 0),(3,xi y.1),(12,xb y.2)],[(10,.cell false (.tv qi f))],false,[]⟩)
def qgX (N:Nat):List (Nat×qI):=[]
abbrev Qp:=Int
def KQ:SP:=⟨0,24,[],[(1,.k (.p 10 [] 0)),(3,.x (.i .i64))],[(10,.cell false (.x qi))],false,[]⟩
def qgl (f:ZJ) (v:Qp):TSt:=jn KQ [dv qi f,dv (.i .i64) v]
def ZN (N:Nat) (o_4:qa) (v:Qp):Tree (Qp⊕vr):=
 .cond (decide (v < (((qa.F o_4).length:Nat):Int))) (
 .bind (zi (qa.F o_4) v) fun e1=>
 .cond (decide (((300:Int)) < (((qd.V (qb.C e1)).length:Nat):Int))) (
 .ret (.inr (.inl ()))) <|
 .chk (qy (v + 1)) <|
 .ret (.inl (v + 1))) <|
 .ret (.inr (.inr ((v,decide (v < (((qa.F o_4).length:Nat):Int))))))
def K6 (N n:Nat) (f:ZJ) (v:Qp):Option vr:=q0 (ZN N f) some n v
theorem qgn (N:Nat) (f:ZJ) (n:Nat) (v:Qp) (y:vr) (h:K6 N n f v=some y):LG Tryz.prog W2 64 (q_ qos 4) (qgl f v) (Qq f y):=
 zW qj (E:=qcc N) (L:=qR (qgX N)) (st:=Qq f) (g:=some) (R:=Qq f) (qab N) (qu (by kernel_rfl) trivial) (rg0 (by kernel_rfl)) (fun v=>by kernel_rfl) (zj (st:=Qq f) fun y=>by rcases y with _ | _<;>rfl) n v y h
def Wh (N:Nat) (o_4:qa) (s3_4:Int):Option vr:=K6 N N o_4 s3_4
def KW (N:Nat):qI:=smL KQ [qi,(.i .i64)] vr (fun x=>Wh N x.1 x.2.1) (csS cs1) fun x=>Qq x.1
theorem qfC (N:Nat):v3 Tryz.prog W2 64 (q_ qos 4) (KW N):=js fun x z h=>qgn N x.1 N x.2.1 z h
def qjt (z:Bool):TV×THp:=(xb z,[])
def Yf (N:Nat) (a0:qa):Tree (Bool):=
 .cond (decide (((12:Int)) < (((qa.F a0).length:Nat):Int))) (
 .ret false) <|
 .bind (Wh N a0 0) fun z1=>
 .sum z1 (fun z2=>
 .ret false) fun z2=>
 .ret true
def Qi (N:Nat) (a0:qa):Option (Bool):=(Yf N a0).run some
def qjz (N:Nat):List (Nat×qI):=[(4,KW N)]
def qb9 (N:Nat):Ent:=smF ⟨64,[],[.x qi],[],[]⟩ [qi] (Bool) (fun x=>Qi N x.1) cs1 fun _=>qjt
theorem qjf (N:Nat):zd Tryz.prog (qb9 N):=
 q9 (H:=W2) (L:=qR (qjz N)) (ts:=[qi]) (T:=fun x=>Yf N x.1) 0 qDw (qab N) (qu (by kernel_rfl) ⟨qfC N,trivial⟩) (rg0 (by kernel_rfl)) fun x=>by kernel_rfl
noncomputable def qnJ:Code:=Tryz.f23.body.getD .skip
theorem qE8:FnF Tryz.prog 23 Tryz.f23 qnJ:=⟨qj,by kernel_rfl,by kernel_rfl,by kernel_rfl⟩
def Yh:TH:={ live:=[(0,[1]),(1,[1,8]),(2,[2]),(3,[1,3]),(4,[1,3,13]),(5,[1,3]),(6,[1,3,4]),(7,[1,3,23]),(8,[2]),(9,[2])] }
def qck (N:Nat):List Ent:=[qb9 N]
theorem qaj (N:Nat):qT Tryz.prog (qck N):=⟨qjf N,trivial⟩
abbrev ZB:=qc
abbrev vp:=Unit⊕(Int×Bool)
def Qs (f:ZB):vp→Ex×TSt
 | .inl y=>(.ret,⟨0,24,[],[(2,.bc false)],[],false,[]⟩)
 | .inr y=>(.exit 0,⟨0,24,[],[(1,.p 10 [] 0),(3,xi y.1),(13,xb y.2)],[(10,.cell false (.tv qQ f))],false,[]⟩)
def qgC (N:Nat):List (Nat×qI):=[]
abbrev Qm:=Int
def K7:SP:=⟨0,24,[],[(1,.k (.p 10 [] 0)),(3,.x (.i .i64))],[(10,.cell false (.x qQ))],false,[]⟩
def qgU (f:ZB) (v:Qm):TSt:=jn K7 [dv qQ f,dv (.i .i64) v]
def ZC (N:Nat) (o_4:qc) (v:Qm):Tree (Qm⊕vp):=
 .cond (decide (v < (((qc.R o_4).length:Nat):Int))) (
 .bind (zi (qc.R o_4) v) fun e1=>
 .bind (Qi N e1) fun r2=>
 .cond (!r2) (
 .ret (.inr (.inl ()))) <|
 .chk (qy (v + 1)) <|
 .ret (.inl (v + 1))) <|
 .ret (.inr (.inr ((v,decide (v < (((qc.R o_4).length:Nat):Int))))))
def KY (N n:Nat) (f:ZB) (v:Qm):Option vp:=q0 (ZC N f) some n v
theorem qgx (N:Nat) (f:ZB) (n:Nat) (v:Qm) (y:vp) (h:KY N n f v=some y):LG Tryz.prog Yh 23 (q_ qnJ 4) (qgU f v) (Qs f y):=
 zW qj (E:=qck N) (L:=qR (qgC N)) (st:=Qs f) (g:=some) (R:=Qs f) (qaj N) (qu (by kernel_rfl) trivial) (rg0 (by kernel_rfl)) (fun v=>by kernel_rfl) (zj (st:=Qs f) fun y=>by rcases y with _ | _<;>rfl) n v y h
def Wc (N:Nat) (o_4:qc) (s3_4:Int):Option vp:=KY N N o_4 s3_4
def KU (N:Nat):qI:=smL K7 [qQ,(.i .i64)] vp (fun x=>Wc N x.1 x.2.1) (csS cs1) fun x=>Qs x.1
theorem qfL (N:Nat):v3 Tryz.prog Yh 23 (q_ qnJ 4) (KU N):=js fun x z h=>qgx N x.1 N x.2.1 z h
def qkx (z:Bool):TV×THp:=(xb z,[])
def Yb (N:Nat) (a0:qc):Tree (Bool):=
 .cond (decide (((14:Int)) < (((qc.R a0).length:Nat):Int))) (
 .ret false) <|
 .bind (Wc N a0 0) fun z1=>
 .sum z1 (fun z2=>
 .ret false) fun z2=>
 .ret true
def Xg (N:Nat) (a0:qc):Option (Bool):=(Yb N a0).run some
def qj3 (N:Nat):List (Nat×qI):=[(4,KU N)]
def qb4 (N:Nat):Ent:=smF ⟨23,[],[.x qQ],[],[]⟩ [qQ] (Bool) (fun x=>Xg N x.1) cs1 fun _=>qkx
theorem qi7 (N:Nat):zd Tryz.prog (qb4 N):=
 q9 (H:=Yh) (L:=qR (qj3 N)) (ts:=[qQ]) (T:=fun x=>Yb N x.1) 0 qE8 (qaj N) (qu (by kernel_rfl) ⟨qfL N,trivial⟩) (rg0 (by kernel_rfl)) fun x=>by kernel_rfl
noncomputable def qD5:Code:=Tryz.f60.body.getD .skip
theorem qDD:FnF Tryz.prog 60 Tryz.f60 qD5:=⟨qj,by kernel_rfl,by kernel_rfl,by kernel_rfl⟩
def qwY:TH:={ live:=[(0,[1]),(1,[2])],dec:=[6,10,15,20] }
def qwO (N:Nat):List Ent:=[]
theorem qto (N:Nat):qT Tryz.prog (qwO N):=trivial
def qxK (z:Bool):TV×THp:=(xb z,[])
def qfW (a0:qe):Tree (Bool):=
 .cond (eqE qn a0 (qe.mk 0 0)) (
 .ret true) <|
 .cond (decide (((0:Int)) < (qe.N a0))) (
 .cond (decide ((qe.N a0)≤((1099511627776:Int)))) (
 .cond (decide (((0:Int))≤(qe.Rep a0))) (
 .ret (decide ((qe.Rep a0) < ((8:Int))))) <|
 .ret false) <|
 .ret false) <|
 .ret false
def WG (a0:qe):Option (Bool):=(qfW a0).run some
def qwL:List (Nat×qI):=[]
def Ke:Ent:=smF ⟨60,[],[.x qn],[],[]⟩ [qn] (Bool) (fun x=>WG x.1) cs1 fun _=>qxK
theorem qaF:zd Tryz.prog (Ke):=
 q9 (H:=qwY) (L:=qR (qwL)) (ts:=[qn]) (T:=fun x=>qfW x.1) 0 qDD (qto 0) (qu (by kernel_rfl) trivial) (rg0 (by kernel_rfl)) fun x=>by kernel_rfl
noncomputable def qCf:Code:=Tryz.f108.body.getD .skip
theorem qCI:FnF Tryz.prog 108 Tryz.f108 qCf:=⟨qj,by kernel_rfl,by kernel_rfl,by kernel_rfl⟩
def qz9:TH:={ live:=[(0,[1]),(1,[2])],dec:=[7,12] }
def qzQ (N:Nat):List Ent:=[Ke]
theorem qtT (N:Nat):qT Tryz.prog (qzQ N):=⟨qaF,trivial⟩
def qyV (z:Bool):TV×THp:=(xb z,[])
def qif (a0:qd):Tree (Bool):=
 .cond (!(eqE qn (qd.S a0) (qe.mk 0 0))) (
 .bind (WG (qd.S a0)) fun r1=>
 .cond r1 (
 .ret (decide ((((qd.V a0).length:Nat):Int)≤((200:Int))))) <|
 .ret false) <|
 .ret false
def KJ (a0:qd):Option (Bool):=(qif a0).run some
def qAl:List (Nat×qI):=[]
def qqk:Ent:=smF ⟨108,[],[.x qo],[],[]⟩ [qo] (Bool) (fun x=>KJ x.1) cs1 fun _=>qyV
theorem qwX:zd Tryz.prog (qqk):=
 q9 (H:=qz9) (L:=qR (qAl)) (ts:=[qo]) (T:=fun x=>qif x.1) 0 qCI (qtT 0) (qu (by kernel_rfl) trivial) (rg0 (by kernel_rfl)) fun x=>by kernel_rfl
noncomputable def qB3:Code:=Tryz.f143.body.getD .skip
theorem qCb:FnF Tryz.prog 143 Tryz.f143 qB3:=⟨qj,by kernel_rfl,by kernel_rfl,by kernel_rfl⟩
def qpI:TH:={ live:=[(0,[0]),(1,[2])] }
def qoF (N:Nat):List Ent:=[]
theorem qmn (N:Nat):qT Tryz.prog (qoF N):=trivial
def qpv (a0:Int) (z:Unit):TV×THp:=(xb (!decide (a0=a0)),[])
def qaR (a0:Int):Tree (Unit):=
 .ret ()
def Ky (a0:Int):Option (Unit):=(qaR a0).run some
def qpq:List (Nat×qI):=[]
def qeT:Ent:=smF ⟨143,[],[.x (.i .i64)],[],[]⟩ [(.i .i64)] (Unit) (fun x=>Ky x.1) cs1 fun x=>qpv x.1
theorem qnW:zd Tryz.prog (qeT):=
 q9 (H:=qpI) (L:=qR (qpq)) (ts:=[(.i .i64)]) (T:=fun x=>qaR x.1) 0 qCb (qmn 0) (qu (by kernel_rfl) trivial) (rg0 (by kernel_rfl)) fun x=>by kernel_rfl
noncomputable def qBB:Code:=Tryz.f127.body.getD .skip
theorem qCJ:FnF Tryz.prog 127 Tryz.f127 qBB:=⟨qj,by kernel_rfl,by kernel_rfl,by kernel_rfl⟩
def qmi:TH:={ live:=[(0,[0,1]),(1,[0,1,5]),(2,[0,1,5,6]),(3,[0,1,6,11]),(4,[12]),(5,[4]),(6,[4]),(7,[0,1,13]),(8,[4]),(9,[0,1,16]),(10,[4]),(11,[19]),(12,[4]),(13,[4])] }
def qmx (N:Nat):List Ent:=[qeT]
theorem qjd (N:Nat):qT Tryz.prog (qmx N):=⟨qnW,trivial⟩
def qmj (z:Int):TV×THp:=(xi z,[])
def YX (a0:Int) (a1:Int):Tree (Int):=
 .bind (Ky a0) fun r1=>
 .bind (Ky a1) fun r2=>
 .cond (!decide (a0=a0)) (
 .cond (!decide (a1=a1)) (
 .ret 0) <|
 .ret (-1)) <|
 .cond (!decide (a1=a1)) (
 .ret 1) <|
 .cond (decide (a0 < a1)) (
 .ret (-1)) <|
 .cond (decide (a1 < a0)) (
 .ret 1) <|
 .ret 0
def JQ (a0:Int) (a1:Int):Option (Int):=(YX a0 a1).run some
def ql5:List (Nat×qI):=[]
def qcR:Ent:=smF ⟨127,[],[.x (.i .i64),.x (.i .i64)],[],[]⟩ [(.i .i64),(.i .i64)] (Int) (fun x=>JQ x.1 x.2.1) cs1 fun _=>qmj
theorem qlo:zd Tryz.prog (qcR):=
 q9 (H:=qmi) (L:=qR (ql5)) (ts:=[(.i .i64),(.i .i64)]) (T:=fun x=>YX x.1 x.2.1) 0 qCJ (qjd 0) (qu (by kernel_rfl) trivial) (rg0 (by kernel_rfl)) fun x=>by kernel_rfl
noncomputable def qk2:Code:=Tryz.f126.body.getD .skip
theorem qBU:FnF Tryz.prog 126 Tryz.f126 qk2:=⟨qj,by kernel_rfl,by kernel_rfl,by kernel_rfl⟩
def qea:TH:={ live:=[(0,[0]),(1,[0,3]),(2,[3,6,7,8]),(3,[3,6,7,8,9]),(4,[3,5,6,7,8]),(5,[3,5,6,7,8,14]),(6,[2]),(7,[3,6,7,8]),(8,[2])] }
def qjF (N:Nat):List Ent:=[]
theorem qgK (N:Nat):qT Tryz.prog (qjF N):=trivial
abbrev Wq:=List Int×Int
abbrev Zy:=Int⊕(Int×Bool)
def JT (f:Wq):Zy→Ex×TSt
 | .inl y=>(.ret,⟨0,18,[],[(2,xi y)],[],false,[]⟩)
 | .inr y=>(.exit 0,⟨0,18,[],[(3,.ic .i64 0),(6,.tv (.sl 1 (.i .i64)) f.1),(7,xi f.2),(8,xi y.1),(9,xb y.2)],[],false,[]⟩)
def qpb (N:Nat):List (Nat×qI):=[]
abbrev JP:=Int
def qe6:SP:=⟨0,18,[],[(3,.k (.ic .i64 0)),(6,.x (.sl 1 (.i .i64))),(7,.x (.i .i64)),(8,.x (.i .i64))],[],false,[]⟩
def qpT (f:Wq) (v:JP):TSt:=jn qe6 [dv (.sl 1 (.i .i64)) f.1,dv (.i .i64) f.2,dv (.i .i64) v]
def QL (N:Nat) (s6_3:List Int) (s7_3:Int) (v:JP):Tree (JP⊕Zy):=
 .cond (decide (v < s7_3)) (
 .bind (zi s6_3 v) fun e1=>
 .cond (!decide (e1=((0:Int)))) (
 .ret (.inr (.inl e1))) <|
 .chk (qy (v + 1)) <|
 .ret (.inl (v + 1))) <|
 .ret (.inr (.inr ((v,decide (v < s7_3)))))
def qfc (N n:Nat) (f:Wq) (v:JP):Option Zy:=q0 (QL N f.1 f.2) some n v
theorem qoR (N:Nat) (f:Wq) (n:Nat) (v:JP) (y:Zy) (h:qfc N n f v=some y):LG Tryz.prog qea 126 (q_ qk2 3) (qpT f v) (JT f y):=
 zW qj (E:=qjF N) (L:=qR (qpb N)) (st:=JT f) (g:=some) (R:=JT f) (qgK N) (qu (by kernel_rfl) trivial) (rg0 (by kernel_rfl)) (fun v=>by kernel_rfl) (zj (st:=JT f) fun y=>by rcases y with _ | _<;>rfl) n v y h
def qcr (N:Nat) (s6_3:List Int) (s7_3:Int) (s8_3:Int):Option Zy:=qfc N N (s6_3,s7_3) s8_3
def qe7 (N:Nat):qI:=smL qe6 [(.sl 1 (.i .i64)),(.i .i64),(.i .i64)] Zy (fun x=>qcr N x.1 x.2.1 x.2.2.1) (csS cs1) fun x=>JT (x.1,x.2.1)
theorem qog (N:Nat):v3 Tryz.prog qea 126 (q_ qk2 3) (qe7 N):=js fun x z h=>qoR N (x.1,x.2.1) N x.2.2.1 z h
def quj (z:Int):TV×THp:=(xi z,[])
def qdZ (N:Nat) (a0:List Int):Tree (Int):=
 .bind (qcr N a0 ((a0.length:Nat):Int) 0) fun z1=>
 .sum z1 (fun z2=>
 .ret z2) fun z2=>
 .ret 0
def qaG (N:Nat) (a0:List Int):Option (Int):=(qdZ N a0).run some
def qvr (N:Nat):List (Nat×qI):=[(3,qe7 N)]
def qkf (N:Nat):Ent:=smF ⟨126,[],[.x (.sl 1 (.i .i64))],[],[]⟩ [(.sl 1 (.i .i64))] (Int) (fun x=>qaG N x.1) cs1 fun _=>quj
theorem qtA (N:Nat):zd Tryz.prog (qkf N):=
 q9 (H:=qea) (L:=qR (qvr N)) (ts:=[(.sl 1 (.i .i64))]) (T:=fun x=>qdZ N x.1) 0 qBU (qgK N) (qu (by kernel_rfl) ⟨qog N,trivial⟩) (rg0 (by kernel_rfl)) fun x=>by kernel_rfl
noncomputable def qAZ:Code:=Tryz.f109.body.getD .skip
theorem qBl:FnF Tryz.prog 109 Tryz.f109 qAZ:=⟨qj,by kernel_rfl,by kernel_rfl,by kernel_rfl⟩
def qv4:TH:={ live:=[(0,[2,3]),(1,[4])],dec:=[8] }
def quG (N:Nat):List Ent:=[qcR,qkf N]
theorem qqC (N:Nat):qT Tryz.prog (quG N):=⟨qlo,qtA N,trivial⟩
def qt7 (z:Bool):TV×THp:=(xb z,[])
def qdY (N:Nat) (a0:qe) (a1:qe):Tree (Bool):=
 .cond (!(eqE qn a0 a1)) (
 .bind (JQ (qe.N a0) (qe.N a1)) fun r1=>
 .bind (JQ (qe.Rep a0) (qe.Rep a1)) fun r2=>
 .bind (qaG N [r1,r2]) fun r3=>
 .ret (decide (r3 < ((0:Int))))) <|
 .ret false
def QE (N:Nat) (a0:qe) (a1:qe):Option (Bool):=(qdY N a0 a1).run some
def quR (N:Nat):List (Nat×qI):=[]
def WM (N:Nat):Ent:=smF ⟨109,[],[.x qn,.x qn],[],[]⟩ [qn,qn] (Bool) (fun x=>QE N x.1 x.2.1) cs1 fun _=>qt7
theorem Kt (N:Nat):zd Tryz.prog (WM N):=
 q9 (H:=qv4) (L:=qR (quR N)) (ts:=[qn,qn]) (T:=fun x=>qdY N x.1 x.2.1) 0 qBl (qqC N) (qu (by kernel_rfl) trivial) (rg0 (by kernel_rfl)) fun x=>by kernel_rfl
noncomputable def qnK:Code:=Tryz.f79.body.getD .skip
theorem qEB:FnF Tryz.prog 79 Tryz.f79 qnK:=⟨qj,by kernel_rfl,by kernel_rfl,by kernel_rfl⟩
def qkK:TH:={ live:=[(0,[1]),(1,[1,21]),(2,[2]),(3,[1,23,24,25]),(4,[1,23,24,25,26]),(5,[1,3,4,23,24,25]),(6,[1,4,5,23,24,25]),(7,[1,23,24,25,74]),(8,[2]),(9,[1,23,24,25]),(10,[2])],dec:=[10,15,32,37,40,55,60,66] }
def qsq (N:Nat):List Ent:=[Ke,qqk,WM N]
theorem qmy (N:Nat):qT Tryz.prog (qsq N):=⟨qaF,qwX,Kt N,trivial⟩
abbrev qac:=qa×List qb×Int
abbrev VS:=Unit⊕(Int×Bool)
def W4 (f:qac):VS→Ex×TSt
 | .inl y=>(.ret,⟨0,76,[],[(2,.bc false)],[],false,[]⟩)
 | .inr y=>(.exit 0,⟨0,76,[],[(1,.p 10 [] 0),(23,.tv (.sl 4 qC) f.2.1),(24,xi f.2.2),(25,xi y.1),(26,xb y.2)],[(10,.cell false (.tv qi f.1))],false,[]⟩)
def qww (N:Nat):List (Nat×qI):=[]
abbrev W0:=Int
def qlr:SP:=⟨0,76,[],[(1,.k (.p 10 [] 0)),(23,.x (.sl 4 qC)),(24,.x (.i .i64)),(25,.x (.i .i64))],[(10,.cell false (.x qi))],false,[]⟩
def qwf (f:qac) (v:W0):TSt:=jn qlr [dv qi f.1,dv (.sl 4 qC) f.2.1,dv (.i .i64) f.2.2,dv (.i .i64) v]
def qaJ (N:Nat) (o_4:qa) (s23_4:List qb) (s24_4:Int) (v:W0):Tree (W0⊕VS):=
 .cond (decide (v < s24_4)) (
 .bind (zi s23_4 v) fun e1=>
 .cond (decide (v=((0:Int)))) (
 .cond (decide (((0:Int))≤(qb.No e1))) (
 .cond (decide (((8:Int))≤(qb.No e1))) (
 .ret (.inr (.inl ()))) <|
 .bind (KJ (qb.C e1)) fun r2=>
 .cond (!r2) (
 .ret (.inr (.inl ()))) <|
 .bind (QE N (qa.zq o_4) (qd.S (qb.C e1))) fun r3=>
 .cond (!r3) (
 .ret (.inr (.inl ()))) <|
 .chk (qy (v + 1)) <|
 .ret (.inl (v + 1))) <|
 .cond (decide (((0:Int)) < v)) (
 .chk (qy (v - 1)) <|
 .bind (zi (qa.F o_4) (v - 1)) fun e2=>
 .cond (!(decide ((qb.No e2) < (qb.No e1)))) (
 .ret (.inr (.inl ()))) <|
 .cond (decide (((8:Int))≤(qb.No e1))) (
 .ret (.inr (.inl ()))) <|
 .bind (KJ (qb.C e1)) fun r3=>
 .cond (!r3) (
 .ret (.inr (.inl ()))) <|
 .bind (QE N (qa.zq o_4) (qd.S (qb.C e1))) fun r4=>
 .cond (!r4) (
 .ret (.inr (.inl ()))) <|
 .chk (qy (v + 1)) <|
 .ret (.inl (v + 1))) <|
 .ret (.inr (.inl ()))) <|
 .cond (decide (((0:Int)) < v)) (
 .chk (qy (v - 1)) <|
 .bind (zi (qa.F o_4) (v - 1)) fun e2=>
 .cond (!(decide ((qb.No e2) < (qb.No e1)))) (
 .ret (.inr (.inl ()))) <|
 .cond (decide (((8:Int))≤(qb.No e1))) (
 .ret (.inr (.inl ()))) <|
 .bind (KJ (qb.C e1)) fun r3=>
 .cond (!r3) (
 .ret (.inr (.inl ()))) <|
 .bind (QE N (qa.zq o_4) (qd.S (qb.C e1))) fun r4=>
 .cond (!r4) (
 .ret (.inr (.inl ()))) <|
 .chk (qy (v + 1)) <|
 .ret (.inl (v + 1))) <|
 .ret (.inr (.inl ()))) <|
 .ret (.inr (.inr ((v,decide (v < s24_4)))))
def qj0 (N n:Nat) (f:qac) (v:W0):Option VS:=q0 (qaJ N f.1 f.2.1 f.2.2) some n v
theorem qwr (N:Nat) (f:qac) (n:Nat) (v:W0) (y:VS) (h:qj0 N n f v=some y):LG Tryz.prog qkK 79 (q_ qnK 4) (qwf f v) (W4 f y):=
 zW qj (E:=qsq N) (L:=qR (qww N)) (st:=W4 f) (g:=some) (R:=W4 f) (qmy N) (qu (by kernel_rfl) trivial) (rg0 (by kernel_rfl)) (fun v=>by kernel_rfl) (zj (st:=W4 f) fun y=>by rcases y with _ | _<;>rfl) n v y h
def qc_ (N:Nat) (o_4:qa) (s23_4:List qb) (s24_4:Int) (s25_4:Int):Option VS:=qj0 N N (o_4,s23_4,s24_4) s25_4
def qkv (N:Nat):qI:=smL qlr [qi,(.sl 4 qC),(.i .i64),(.i .i64)] VS (fun x=>qc_ N x.1 x.2.1 x.2.2.1 x.2.2.2.1) (csS cs1) fun x=>W4 (x.1,x.2.1,x.2.2.1)
theorem qsR (N:Nat):v3 Tryz.prog qkK 79 (q_ qnK 4) (qkv N):=js fun x z h=>qwr N (x.1,x.2.1,x.2.2.1) N x.2.2.2.1 z h
def qB6 (z:Bool):TV×THp:=(xb z,[])
def qjA (N:Nat) (a0:qa):Tree (Bool):=
 .bind (WG (qa.zq a0)) fun r1=>
 .cond (!r1) (
 .ret false) <|
 .cond (decide ((((qa.F a0).length:Nat):Int)=((0:Int)))) (
 .cond (eqE qn (qa.zq a0) (qe.mk 0 0)) (
 .ret false) <|
 .bind (qc_ N a0 (qa.F a0) (((qa.F a0).length:Nat):Int) 0) fun z2=>
 .sum z2 (fun z3=>
 .ret false) fun z3=>
 .ret true) <|
 .bind (qc_ N a0 (qa.F a0) (((qa.F a0).length:Nat):Int) 0) fun z2=>
 .sum z2 (fun z3=>
 .ret false) fun z3=>
 .ret true
def qbv (N:Nat) (a0:qa):Option (Bool):=(qjA N a0).run some
def qCe (N:Nat):List (Nat×qI):=[(4,qkv N)]
def qeW (N:Nat):Ent:=smF ⟨79,[],[.x qi],[],[]⟩ [qi] (Bool) (fun x=>qbv N x.1) cs1 fun _=>qB6
theorem qhM (N:Nat):zd Tryz.prog (qeW N):=
 q9 (H:=qkK) (L:=qR (qCe N)) (ts:=[qi]) (T:=fun x=>qjA N x.1) 0 qEB (qmy N) (qu (by kernel_rfl) ⟨qsR N,trivial⟩) (rg0 (by kernel_rfl)) fun x=>by kernel_rfl
noncomputable def qBH:Code:=Tryz.f110.body.getD .skip
theorem qCj:FnF Tryz.prog 110 Tryz.f110 qBH:=⟨qj,by kernel_rfl,by kernel_rfl,by kernel_rfl⟩
def qql:TH:={ live:=[(0,[0,1]),(1,[4])] }
def qo8 (N:Nat):List Ent:=[qpj]
theorem qmf (N:Nat):qT Tryz.prog (qo8 N):=⟨qxY,trivial⟩
def qpQ (z:Int):TV×THp:=(xi z,[])
def qaA (a0:List UInt8) (a1:List UInt8):Tree (Int):=
 .bind (qEa a0 a1) fun r1=>
 .ret r1
def XR (a0:List UInt8) (a1:List UInt8):Option (Int):=(qaA a0 a1).run some
def qqf:List (Nat×qI):=[]
def Wk:Ent:=smF ⟨110,[],[.x .bl,.x .bl],[],[]⟩ [.bl,.bl] (Int) (fun x=>XR x.1 x.2.1) cs1 fun _=>qpQ
theorem KN:zd Tryz.prog (Wk):=
 q9 (H:=qql) (L:=qR (qqf)) (ts:=[.bl,.bl]) (T:=fun x=>qaA x.1 x.2.1) 0 qCj (qmf 0) (qu (by kernel_rfl) trivial) (rg0 (by kernel_rfl)) fun x=>by kernel_rfl
noncomputable def qDL:Code:=Tryz.f80.body.getD .skip
theorem qEw:FnF Tryz.prog 80 Tryz.f80 qDL:=⟨qj,by kernel_rfl,by kernel_rfl,by kernel_rfl⟩
def qxz:TH:={ live:=[(0,[2,3]),(1,[4])],dec:=[8] }
def qw6 (N:Nat):List Ent:=[Wk]
theorem qti (N:Nat):qT Tryz.prog (qw6 N):=⟨KN,trivial⟩
def qwP (z:Bool):TV×THp:=(xb z,[])
def qga (a0:Vector UInt8 16) (a1:Vector UInt8 16):Tree (Bool):=
 .cond (!(eqE (.ba 16) a0 a1)) (
 .bind (XR a0.toList a1.toList) fun r1=>
 .ret (decide (r1 < ((0:Int))))) <|
 .ret false
def qeR (a0:Vector UInt8 16) (a1:Vector UInt8 16):Option (Bool):=(qga a0 a1).run some
def qxr:List (Nat×qI):=[]
def qmA:Ent:=smF ⟨80,[],[.x (.ba 16),.x (.ba 16)],[],[]⟩ [(.ba 16),(.ba 16)] (Bool) (fun x=>qeR x.1 x.2.1) cs1 fun _=>qwP
theorem qvK:zd Tryz.prog (qmA):=
 q9 (H:=qxz) (L:=qR (qxr)) (ts:=[(.ba 16),(.ba 16)]) (T:=fun x=>qga x.1 x.2.1) 0 qEw (qti 0) (qu (by kernel_rfl) trivial) (rg0 (by kernel_rfl)) fun x=>by kernel_rfl
noncomputable def qoo:Code:=Tryz.f30.body.getD .skip
theorem qEr:FnF Tryz.prog 30 Tryz.f30 qoo:=⟨qj,by kernel_rfl,by kernel_rfl,by kernel_rfl⟩
def qhK:TH:={ live:=[(0,[1]),(1,[1,6,7,8]),(2,[1,6,7,8,9]),(3,[1,3,4,6,7,8]),(4,[1,6,7,8,32]),(5,[2]),(6,[1,6,7,8]),(7,[2])],dec:=[16,19] }
def qpm (N:Nat):List Ent:=[qeW N,qmA]
theorem qj6 (N:Nat):qT Tryz.prog (qpm N):=⟨qhM N,qvK,trivial⟩
abbrev Kr:=qc×List qa×Int
abbrev JK:=Unit⊕(Int×Bool)
def XN (f:Kr):JK→Ex×TSt
 | .inl y=>(.ret,⟨0,38,[],[(2,.bc false)],[],false,[]⟩)
 | .inr y=>(.exit 0,⟨0,38,[],[(1,.p 10 [] 0),(6,.tv (.sl 19 qi) f.2.1),(7,xi f.2.2),(8,xi y.1),(9,xb y.2)],[(10,.cell false (.tv qQ f.1))],false,[]⟩)
def qsU (N:Nat):List (Nat×qI):=[]
abbrev XU:=Int
def qiV:SP:=⟨0,38,[],[(1,.k (.p 10 [] 0)),(6,.x (.sl 19 qi)),(7,.x (.i .i64)),(8,.x (.i .i64))],[(10,.cell false (.x qQ))],false,[]⟩
def qsX (f:Kr) (v:XU):TSt:=jn qiV [dv qQ f.1,dv (.sl 19 qi) f.2.1,dv (.i .i64) f.2.2,dv (.i .i64) v]
def Ku (N:Nat) (o_2:qc) (s6_2:List qa) (s7_2:Int) (v:XU):Tree (XU⊕JK):=
 .cond (decide (v < s7_2)) (
 .bind (zi s6_2 v) fun e1=>
 .bind (qbv N e1) fun r2=>
 .cond (!r2) (
 .ret (.inr (.inl ()))) <|
 .cond (decide (((0:Int)) < v)) (
 .chk (qy (v - 1)) <|
 .bind (zi (qc.R o_2) (v - 1)) fun e3=>
 .bind (qeR (qa.ID e3) (qa.ID e1)) fun r4=>
 .cond (!r4) (
 .ret (.inr (.inl ()))) <|
 .chk (qy (v + 1)) <|
 .ret (.inl (v + 1))) <|
 .chk (qy (v + 1)) <|
 .ret (.inl (v + 1))) <|
 .ret (.inr (.inr ((v,decide (v < s7_2)))))
def qi2 (N n:Nat) (f:Kr) (v:XU):Option JK:=q0 (Ku N f.1 f.2.1 f.2.2) some n v
theorem qsN (N:Nat) (f:Kr) (n:Nat) (v:XU) (y:JK) (h:qi2 N n f v=some y):LG Tryz.prog qhK 30 (q_ qoo 2) (qsX f v) (XN f y):=
 zW qj (E:=qpm N) (L:=qR (qsU N)) (st:=XN f) (g:=some) (R:=XN f) (qj6 N) (qu (by kernel_rfl) trivial) (rg0 (by kernel_rfl)) (fun v=>by kernel_rfl) (zj (st:=XN f) fun y=>by rcases y with _ | _<;>rfl) n v y h
def qfx (N:Nat) (o_2:qc) (s6_2:List qa) (s7_2:Int) (s8_2:Int):Option JK:=qi2 N N (o_2,s6_2,s7_2) s8_2
def qiG (N:Nat):qI:=smL qiV [qQ,(.sl 19 qi),(.i .i64),(.i .i64)] JK (fun x=>qfx N x.1 x.2.1 x.2.2.1 x.2.2.2.1) (csS cs1) fun x=>XN (x.1,x.2.1,x.2.2.1)
theorem qrn (N:Nat):v3 Tryz.prog qhK 30 (q_ qoo 2) (qiG N):=js fun x z h=>qsN N (x.1,x.2.1,x.2.2.1) N x.2.2.2.1 z h
def qAJ (z:Bool):TV×THp:=(xb z,[])
def qhO (N:Nat) (a0:qc):Tree (Bool):=
 .bind (qfx N a0 (qc.R a0) (((qc.R a0).length:Nat):Int) 0) fun z1=>
 .sum z1 (fun z2=>
 .ret false) fun z2=>
 .ret (decide ((((qc.R a0).length:Nat):Int)≤((10:Int))))
def Xm (N:Nat) (a0:qc):Option (Bool):=(qhO N a0).run some
def qAz (N:Nat):List (Nat×qI):=[(2,qiG N)]
def qas (N:Nat):Ent:=smF ⟨30,[],[.x qQ],[],[]⟩ [qQ] (Bool) (fun x=>Xm N x.1) cs1 fun _=>qAJ
theorem qbH (N:Nat):zd Tryz.prog (qas N):=
 q9 (H:=qhK) (L:=qR (qAz N)) (ts:=[qQ]) (T:=fun x=>qhO N x.1) 0 qEr (qj6 N) (qu (by kernel_rfl) ⟨qrn N,trivial⟩) (rg0 (by kernel_rfl)) fun x=>by kernel_rfl
noncomputable def qEp:Code:=Tryz.f59.body.getD .skip
theorem qDt:FnF Tryz.prog 59 Tryz.f59 qEp:=⟨qj,by kernel_rfl,by kernel_rfl,by kernel_rfl⟩
def qDl:TH:={ live:=[(0,[1,2]),(1,[1,2,3]),(2,[1,2,3,12]),(3,[1,2,3,12,13]),(4,[2,3]),(5,[1,2,3,12,21]),(6,[2,3]),(7,[1,2,3,35]),(8,[2,3]),(9,[2])] }
def qC1 (N:Nat):List Ent:=[]
theorem qxc (N:Nat):qT Tryz.prog (qC1 N):=trivial
def qA_ (z:qg):TV×THp:=(.tv vh z,[])
def qkq (a0:qg):Tree (qg):=
 .cond (decide ((qg.Kind a0)=((1:Int)))) (
 .ret (qg.mk (qg.Kind a0) (qg.ID a0) (qg.S a0) (qg.No a0) (qg.V a0) [] ((Vector.replicate 16 0)) 0 ((Vector.replicate 32 0)))) <|
 .cond (decide ((qg.Kind a0)=((2:Int)))) (
 .ret (qg.mk (qg.Kind a0) (qg.ID a0) (qg.S a0) (qg.No a0) [] [] (qg.WS a0) (qg.Jt a0) (qg.D a0))) <|
 .cond (decide ((qg.Kind a0)=((3:Int)))) (
 .ret (qg.mk (qg.Kind a0) (qg.ID a0) (qg.S a0) (qg.No a0) [] (qg.P a0) ((Vector.replicate 16 0)) 0 (qg.D a0))) <|
 .ret (qg.mk (qg.Kind a0) (qg.ID a0) (qg.S a0) 0 [] [] ((Vector.replicate 16 0)) 0 ((Vector.replicate 32 0)))
def qlS (a0:qg):Option (qg):=(qkq a0).run some
def qBi:List (Nat×qI):=[]
def qrW:Ent:=smF ⟨59,[],[.x vh],[],[]⟩ [vh] (qg) (fun x=>qlS x.1) cs1 fun _=>qA_
theorem qzm:zd Tryz.prog (qrW):=
 q9 (H:=qDl) (L:=qR (qBi)) (ts:=[vh]) (T:=fun x=>qkq x.1) 0 qDt (qxc 0) (qu (by kernel_rfl) trivial) (rg0 (by kernel_rfl)) fun x=>by kernel_rfl
noncomputable def qnF:Code:=Tryz.f91.body.getD .skip
theorem qEc:FnF Tryz.prog 91 Tryz.f91 qnF:=⟨qj,by kernel_rfl,by kernel_rfl,by kernel_rfl⟩
def Xu:TH:={ live:=[(0,[0,1]),(1,[0,1,10]),(2,[4]),(3,[0,1,12,13]),(4,[0,1,12,13,14]),(5,[0,1,5,12,13]),(6,[0,1,12,13,24]),(7,[4]),(8,[0,1,12,13]),(9,[4])] }
def qal (N:Nat):List Ent:=[]
theorem Y9 (N:Nat):qT Tryz.prog (qal N):=trivial
abbrev Q2:=List qq×List qq×Int
abbrev jL:=Unit⊕(Int×Bool)
def vJ (f:Q2):jL→Ex×TSt
 | .inl y=>(.ret,⟨0,26,[],[(4,.bc false)],[],false,[]⟩)
 | .inr y=>(.exit 0,⟨0,26,[],[(0,.tv (.sl 4 qK) f.1),(1,.tv (.sl 4 qK) f.2.1),(12,xi f.2.2),(13,xi y.1),(14,xb y.2)],[],false,[]⟩)
def qet (N:Nat):List (Nat×qI):=[]
abbrev vN:=Int
def YO:SP:=⟨0,26,[],[(0,.x (.sl 4 qK)),(1,.x (.sl 4 qK)),(12,.x (.i .i64)),(13,.x (.i .i64))],[],false,[]⟩
def qer (f:Q2) (v:vN):TSt:=jn YO [dv (.sl 4 qK) f.1,dv (.sl 4 qK) f.2.1,dv (.i .i64) f.2.2,dv (.i .i64) v]
def Q3 (N:Nat) (s0_4:List qq) (s1_4:List qq) (s12_4:Int) (v:vN):Tree (vN⊕jL):=
 .cond (decide (v < s12_4)) (
 .bind (zi s0_4 v) fun e1=>
 .bind (zi s1_4 v) fun e2=>
 .cond (!(eqE qK e1 e2)) (
 .ret (.inr (.inl ()))) <|
 .chk (qy (v + 1)) <|
 .ret (.inl (v + 1))) <|
 .ret (.inr (.inr ((v,decide (v < s12_4)))))
def YM (N n:Nat) (f:Q2) (v:vN):Option jL:=q0 (Q3 N f.1 f.2.1 f.2.2) some n v
theorem qes (N:Nat) (f:Q2) (n:Nat) (v:vN) (y:jL) (h:YM N n f v=some y):LG Tryz.prog Xu 91 (q_ qnF 4) (qer f v) (vJ f y):=
 zW qj (E:=qal N) (L:=qR (qet N)) (st:=vJ f) (g:=some) (R:=vJ f) (Y9 N) (qu (by kernel_rfl) trivial) (rg0 (by kernel_rfl)) (fun v=>by kernel_rfl) (zj (st:=vJ f) fun y=>by rcases y with _ | _<;>rfl) n v y h
def Vx (N:Nat) (s0_4:List qq) (s1_4:List qq) (s12_4:Int) (s13_4:Int):Option jL:=YM N N (s0_4,s1_4,s12_4) s13_4
def YQ (N:Nat):qI:=smL YO [(.sl 4 qK),(.sl 4 qK),(.i .i64),(.i .i64)] jL (fun x=>Vx N x.1 x.2.1 x.2.2.1 x.2.2.2.1) (csS cs1) fun x=>vJ (x.1,x.2.1,x.2.2.1)
theorem qec (N:Nat):v3 Tryz.prog Xu 91 (q_ qnF 4) (YQ N):=js fun x z h=>qes N (x.1,x.2.1,x.2.2.1) N x.2.2.2.1 z h
def qhZ (z:Bool):TV×THp:=(xb z,[])
def V_ (N:Nat) (a0:List qq) (a1:List qq):Tree (Bool):=
 .cond (!decide (((a0.length:Nat):Int)=((a1.length:Nat):Int))) (
 .ret false) <|
 .bind (Vx N a0 a1 ((a0.length:Nat):Int) 0) fun z1=>
 .sum z1 (fun z2=>
 .ret false) fun z2=>
 .ret true
def J4 (N:Nat) (a0:List qq) (a1:List qq):Option (Bool):=(V_ N a0 a1).run some
def qiq (N:Nat):List (Nat×qI):=[(4,YQ N)]
def qag (N:Nat):Ent:=smF ⟨91,[],[.x (.sl 4 qK),.x (.sl 4 qK)],[],[]⟩ [(.sl 4 qK),(.sl 4 qK)] (Bool) (fun x=>J4 N x.1 x.2.1) cs1 fun _=>qhZ
theorem qgH (N:Nat):zd Tryz.prog (qag N):=
 q9 (H:=Xu) (L:=qR (qiq N)) (ts:=[(.sl 4 qK),(.sl 4 qK)]) (T:=fun x=>V_ N x.1 x.2.1) 0 qEc (Y9 N) (qu (by kernel_rfl) ⟨qec N,trivial⟩) (rg0 (by kernel_rfl)) fun x=>by kernel_rfl
noncomputable def qDS:Code:=Tryz.f63.body.getD .skip
theorem qDM:FnF Tryz.prog 63 Tryz.f63 qDS:=⟨qj,by kernel_rfl,by kernel_rfl,by kernel_rfl⟩
def qu3:TH:={ live:=[(0,[0,1]),(1,[4])] }
def qvd (N:Nat):List Ent:=[qag N]
theorem qrg (N:Nat):qT Tryz.prog (qvd N):=⟨qgH N,trivial⟩
def qu8 (z:Bool):TV×THp:=(xb z,[])
def qee (N:Nat) (a0:List qq) (a1:List qq):Tree (Bool):=
 .bind (J4 N a0 a1) fun r1=>
 .ret r1
def qdb (N:Nat) (a0:List qq) (a1:List qq):Option (Bool):=(qee N a0 a1).run some
def qu7 (N:Nat):List (Nat×qI):=[]
def qkh (N:Nat):Ent:=smF ⟨63,[],[.x (.sl 4 qK),.x (.sl 4 qK)],[],[]⟩ [(.sl 4 qK),(.sl 4 qK)] (Bool) (fun x=>qdb N x.1 x.2.1) cs1 fun _=>qu8
theorem qtv (N:Nat):zd Tryz.prog (qkh N):=
 q9 (H:=qu3) (L:=qR (qu7 N)) (ts:=[(.sl 4 qK),(.sl 4 qK)]) (T:=fun x=>qee N x.1 x.2.1) 0 qDM (qrg N) (qu (by kernel_rfl) trivial) (rg0 (by kernel_rfl)) fun x=>by kernel_rfl
noncomputable def qDC:Code:=Tryz.f20.body.getD .skip
theorem qFz:FnF Tryz.prog 20 Tryz.f20 qDC:=⟨qj,by kernel_rfl,by kernel_rfl,by kernel_rfl⟩
def qDg:TH:={ live:=[(0,[2,3]),(1,[2,3,5]),(2,[4])],dec:=[11,18,25,33,40,47,54,61] }
def qBn (N:Nat):List Ent:=[qkh N]
theorem qwF (N:Nat):qT Tryz.prog (qBn N):=⟨qtv N,trivial⟩
def qBm (z:Bool):TV×THp:=(xb z,[])
def qlq (N:Nat) (a0:qg) (a1:qg):Tree (Bool):=
 .cond (eqE (.ba 16) (qg.ID a0) (qg.ID a1)) (
 .cond (eqE (.ba 16) (qg.WS a0) (qg.WS a1)) (
 .cond (decide ((qg.No a0)=(qg.No a1))) (
 .cond (decide ((qg.Jt a0)=(qg.Jt a1))) (
 .cond (decide ((qg.Kind a0)=(qg.Kind a1))) (
 .cond (eqE qn (qg.S a0) (qg.S a1)) (
 .cond (decide ((qg.V a0)=(qg.V a1))) (
 .cond (eqE (.ba 32) (qg.D a0) (qg.D a1)) (
 .bind (qdb N (qg.P a0) (qg.P a1)) fun r1=>
 .ret r1) <|
 .ret false) <|
 .ret false) <|
 .ret false) <|
 .ret false) <|
 .ret false) <|
 .ret false) <|
 .ret false) <|
 .ret false
def qlv (N:Nat) (a0:qg) (a1:qg):Option (Bool):=(qlq N a0 a1).run some
def qAN (N:Nat):List (Nat×qI):=[]
def qsm (N:Nat):Ent:=smF ⟨20,[],[.x vh,.x vh],[],[]⟩ [vh,vh] (Bool) (fun x=>qlv N x.1 x.2.1) cs1 fun _=>qBm
theorem qz2 (N:Nat):zd Tryz.prog (qsm N):=
 q9 (H:=qDg) (L:=qR (qAN N)) (ts:=[vh,vh]) (T:=fun x=>qlq N x.1 x.2.1) 0 qFz (qwF N) (qu (by kernel_rfl) trivial) (rg0 (by kernel_rfl)) fun x=>by kernel_rfl
noncomputable def qEq:Code:=Tryz.f61.body.getD .skip
theorem qEU:FnF Tryz.prog 61 Tryz.f61 qEq:=⟨qj,by kernel_rfl,by kernel_rfl,by kernel_rfl⟩
def qxL:TH:={ live:=[(0,[0]),(1,[2])],dec:=[5] }
def qw8 (N:Nat):List Ent:=[]
theorem qtj (N:Nat):qT Tryz.prog (qw8 N):=trivial
def qxs (z:Bool):TV×THp:=(xb z,[])
def qfH (a0:Int):Tree (Bool):=
 .cond (decide (((0:Int))≤a0)) (
 .ret (decide (a0 < ((8:Int))))) <|
 .ret false
def qb6 (a0:Int):Option (Bool):=(qfH a0).run some
def qxJ:List (Nat×qI):=[]
def qmK:Ent:=smF ⟨61,[],[.x (.i .i64)],[],[]⟩ [(.i .i64)] (Bool) (fun x=>qb6 x.1) cs1 fun _=>qxs
theorem quJ:zd Tryz.prog (qmK):=
 q9 (H:=qxL) (L:=qR (qxJ)) (ts:=[(.i .i64)]) (T:=fun x=>qfH x.1) 0 qEU (qtj 0) (qu (by kernel_rfl) trivial) (rg0 (by kernel_rfl)) fun x=>by kernel_rfl
noncomputable def qA8:Code:=Tryz.f117.body.getD .skip
theorem qB0:FnF Tryz.prog 117 Tryz.f117 qA8:=⟨qj,by kernel_rfl,by kernel_rfl,by kernel_rfl⟩
def qzj:TH:={ live:=[(0,[0,1,2]),(1,[6])],dec:=[10] }
def qyS (N:Nat):List Ent:=[]
theorem qwu (N:Nat):qT Tryz.prog (qyS N):=trivial
def qz8 (z:Bool):TV×THp:=(xb z,[])
def qhB (a0:Int) (a1:Int) (a2:Int):Tree (Bool):=
 .cond (decide (a1≤a0)) (
 .ret (decide (a0≤a2))) <|
 .ret false
def qbf (a0:Int) (a1:Int) (a2:Int):Option (Bool):=(qhB a0 a1 a2).run some
def qAt:List (Nat×qI):=[]
def qoC:Ent:=smF ⟨117,[],[.x (.i .i64),.x (.i .i64),.x (.i .i64)],[],[]⟩ [(.i .i64),(.i .i64),(.i .i64)] (Bool) (fun x=>qbf x.1 x.2.1 x.2.2.1) cs1 fun _=>qz8
theorem qwS:zd Tryz.prog (qoC):=
 q9 (H:=qzj) (L:=qR (qAt)) (ts:=[(.i .i64),(.i .i64),(.i .i64)]) (T:=fun x=>qhB x.1 x.2.1 x.2.2.1) 0 qB0 (qwu 0) (qu (by kernel_rfl) trivial) (rg0 (by kernel_rfl)) fun x=>by kernel_rfl
noncomputable def qEk:Code:=Tryz.f90.body.getD .skip
theorem qEH:FnF Tryz.prog 90 Tryz.f90 qEk:=⟨qj,by kernel_rfl,by kernel_rfl,by kernel_rfl⟩
def qwz:TH:={ live:=[(0,[1]),(1,[1,4]),(2,[2]),(3,[2])],dec:=[8,13,23] }
def qxk (N:Nat):List Ent:=[qoC]
theorem qtl (N:Nat):qT Tryz.prog (qxk N):=⟨qwS,trivial⟩
def qwE (z:Bool):TV×THp:=(xb z,[])
def qfQ (a0:qq):Tree (Bool):=
 .cond (qq.qz6 a0) (
 .bind (qbf (qq.WS a0) 0 200) fun r1=>
 .cond r1 (
 .bind (qbf (qq.Len a0) 1 200) fun r2=>
 .cond r2 (
 .ret (decide ((qq.Lit a0)=[]))) <|
 .ret false) <|
 .ret false) <|
 .cond (eqE qK a0 (qq.mk false 0 0 (qq.Lit a0))) (
 .bind (qbf (((qq.Lit a0).length:Nat):Int) 1 200) fun r1=>
 .ret r1) <|
 .ret false
def qeE (a0:qq):Option (Bool):=(qfQ a0).run some
def qxn:List (Nat×qI):=[]
def qmz:Ent:=smF ⟨90,[],[.x qK],[],[]⟩ [qK] (Bool) (fun x=>qeE x.1) cs1 fun _=>qwE
theorem qwo:zd Tryz.prog (qmz):=
 q9 (H:=qwz) (L:=qR (qxn)) (ts:=[qK]) (T:=fun x=>qfQ x.1) 0 qEH (qtl 0) (qu (by kernel_rfl) trivial) (rg0 (by kernel_rfl)) fun x=>by kernel_rfl
noncomputable def qok:Code:=Tryz.f62.body.getD .skip
theorem qFN:FnF Tryz.prog 62 Tryz.f62 qok:=⟨qj,by kernel_rfl,by kernel_rfl,by kernel_rfl⟩
def qfD:TH:={ live:=[(0,[0]),(1,[0,3]),(2,[0,3,6,7,8]),(3,[0,3,6,7,8,9]),(4,[0,3,5,6,7,8]),(5,[0,3,5,6,7,8,14]),(6,[2]),(7,[0,3,6,7,8]),(8,[0,3,6,7,8]),(9,[2])],dec:=[27] }
def qmJ (N:Nat):List Ent:=[qmz]
theorem qiI (N:Nat):qT Tryz.prog (qmJ N):=⟨qwo,trivial⟩
abbrev YC:=List qq×List qq×Int
abbrev Jh:=Unit⊕(Int×Int×Bool)
def VR (f:YC):Jh→Ex×TSt
 | .inl y=>(.ret,⟨0,31,[],[(2,.bc false)],[],false,[]⟩)
 | .inr y=>(.exit 0,⟨0,31,[],[(0,.tv (.sl 4 qK) f.1),(3,xi y.1),(6,.tv (.sl 4 qK) f.2.1),(7,xi f.2.2),(8,xi y.2.1),(9,xb y.2.2)],[],false,[]⟩)
def qqA (N:Nat):List (Nat×qI):=[]
abbrev VX:=Int×Int
def qgs:SP:=⟨0,31,[],[(0,.x (.sl 4 qK)),(3,.x (.i .i64)),(6,.x (.sl 4 qK)),(7,.x (.i .i64)),(8,.x (.i .i64))],[],false,[]⟩
def qqD (f:YC) (v:VX):TSt:=jn qgs [dv (.sl 4 qK) f.1,dv (.i .i64) v.1,dv (.sl 4 qK) f.2.1,dv (.i .i64) f.2.2,dv (.i .i64) v.2]
def Yz (N:Nat) (s0_3:List qq) (s6_3:List qq) (s7_3:Int) (v:VX):Tree (VX⊕Jh):=
 .cond (decide (v.2 < s7_3)) (
 .bind (zi s6_3 v.2) fun e1=>
 .bind (qeE e1) fun r2=>
 .cond (!r2) (
 .ret (.inr (.inl ()))) <|
 .chk (qy ((qq.Len e1) + (((qq.Lit e1).length:Nat):Int))) <|
 .chk (qy (v.1 + ((qq.Len e1) + (((qq.Lit e1).length:Nat):Int)))) <|
 .chk (qy (v.2 + 1)) <|
 .ret (.inl (v.1 + ((qq.Len e1) + (((qq.Lit e1).length:Nat):Int)),v.2 + 1))) <|
 .ret (.inr (.inr ((v.1,v.2,decide (v.2 < s7_3)))))
def qgw (N n:Nat) (f:YC) (v:VX):Option Jh:=q0 (Yz N f.1 f.2.1 f.2.2) some n v
theorem qqT (N:Nat) (f:YC) (n:Nat) (v:VX) (y:Jh) (h:qgw N n f v=some y):LG Tryz.prog qfD 62 (q_ qok 3) (qqD f v) (VR f y):=
 zW qj (E:=qmJ N) (L:=qR (qqA N)) (st:=VR f) (g:=some) (R:=VR f) (qiI N) (qu (by kernel_rfl) trivial) (rg0 (by kernel_rfl)) (fun v=>by kernel_rfl) (zj (st:=VR f) fun y=>by rcases y with _ | _<;>rfl) n v y h
def qdK (N:Nat) (s0_3:List qq) (s6_3:List qq) (s7_3:Int) (s3_3:Int) (s8_3:Int):Option Jh:=qgw N N (s0_3,s6_3,s7_3) (s3_3,s8_3)
def qgE (N:Nat):qI:=smL qgs [(.sl 4 qK),(.i .i64),(.sl 4 qK),(.i .i64),(.i .i64)] Jh (fun x=>qdK N x.1 x.2.2.1 x.2.2.2.1 x.2.1 x.2.2.2.2.1) (csS cs1) fun x=>VR (x.1,x.2.2.1,x.2.2.2.1)
theorem qqo (N:Nat):v3 Tryz.prog qfD 62 (q_ qok 3) (qgE N):=js fun x z h=>qqT N (x.1,x.2.2.1,x.2.2.2.1) N (x.2.1,x.2.2.2.2.1) z h
def qwG (z:Bool):TV×THp:=(xb z,[])
def qfK (N:Nat) (a0:List qq):Tree (Bool):=
 .bind (qdK N a0 a0 ((a0.length:Nat):Int) 0 0) fun z1=>
 .sum z1 (fun z2=>
 .ret false) fun z2=>
 .cond (decide (((a0.length:Nat):Int)≤((60:Int)))) (
 .ret (decide (z2.1≤200))) <|
 .ret false
def qca (N:Nat) (a0:List qq):Option (Bool):=(qfK N a0).run some
def qwA (N:Nat):List (Nat×qI):=[(3,qgE N)]
def qfO (N:Nat):Ent:=smF ⟨62,[],[.x (.sl 4 qK)],[],[]⟩ [(.sl 4 qK)] (Bool) (fun x=>qca N x.1) cs1 fun _=>qwG
theorem qk3 (N:Nat):zd Tryz.prog (qfO N):=
 q9 (H:=qfD) (L:=qR (qwA N)) (ts:=[(.sl 4 qK)]) (T:=fun x=>qfK N x.1) 0 qFN (qiI N) (qu (by kernel_rfl) ⟨qqo N,trivial⟩) (rg0 (by kernel_rfl)) fun x=>by kernel_rfl
noncomputable def qFw:Code:=Tryz.f19.body.getD .skip
theorem qFI:FnF Tryz.prog 19 Tryz.f19 qFw:=⟨qj,by kernel_rfl,by kernel_rfl,by kernel_rfl⟩
def qE2:TH:={ live:=[(0,[1]),(1,[1,23]),(2,[2]),(3,[2])],dec:=[6,11,18,27,32,37,43] }
def qFh (N:Nat):List Ent:=[qrW,qsm N,Ke,qmK,qfO N]
theorem qzK (N:Nat):qT Tryz.prog (qFh N):=⟨qzm,qz2 N,qaF,quJ,qk3 N,trivial⟩
def qFg (z:Bool):TV×THp:=(xb z,[])
def qou (N:Nat) (a0:qg):Tree (Bool):=
 .cond (decide ((qg.Kind a0) < ((0:Int)))) (
 .ret false) <|
 .cond (decide (((4:Int))≤(qg.Kind a0))) (
 .ret false) <|
 .bind (qlS a0) fun r1=>
 .bind (qlv N a0 r1) fun r2=>
 .cond (!r2) (
 .ret false) <|
 .cond (eqE qn (qg.S a0) (qe.mk 0 0)) (
 .ret false) <|
 .bind (WG (qg.S a0)) fun r3=>
 .cond r3 (
 .bind (qb6 (qg.No a0)) fun r4=>
 .cond r4 (
 .bind (qb6 (qg.Jt a0)) fun r5=>
 .cond r5 (
 .cond (decide ((((qg.V a0).length:Nat):Int)≤((200:Int)))) (
 .bind (qca N (qg.P a0)) fun r6=>
 .ret r6) <|
 .ret false) <|
 .ret false) <|
 .ret false) <|
 .ret false
def qkX (N:Nat) (a0:qg):Option (Bool):=(qou N a0).run some
def qEb (N:Nat):List (Nat×qI):=[]
def qna (N:Nat):Ent:=smF ⟨19,[],[.x vh],[],[]⟩ [vh] (Bool) (fun x=>qkX N x.1) cs1 fun _=>qFg
theorem qsr (N:Nat):zd Tryz.prog (qna N):=
 q9 (H:=qE2) (L:=qR (qEb N)) (ts:=[vh]) (T:=fun x=>qou N x.1) 0 qFI (qzK N) (qu (by kernel_rfl) trivial) (rg0 (by kernel_rfl)) fun x=>by kernel_rfl
noncomputable def qEF:Code:=Tryz.f95.body.getD .skip
theorem qDY:FnF Tryz.prog 95 Tryz.f95 qEF:=⟨qj,by kernel_rfl,by kernel_rfl,by kernel_rfl⟩
def quE:TH:={ live:=[(0,[1]),(1,[2])],dec:=[7] }
def quv (N:Nat):List Ent:=[]
theorem qrl (N:Nat):qT Tryz.prog (quv N):=trivial
def qvD (z:Bool):TV×THp:=(xb z,[])
def qaO (a0:qa):Tree (Bool):=
 .cond (eqE qn (qa.zq a0) (qe.mk 0 0)) (
 .ret (decide ((((qa.F a0).length:Nat):Int)=((0:Int))))) <|
 .ret false
def Xp (a0:qa):Option (Bool):=(qaO a0).run some
def qv1:List (Nat×qI):=[]
def qkO:Ent:=smF ⟨95,[],[.x qi],[],[]⟩ [qi] (Bool) (fun x=>Xp x.1) cs1 fun _=>qvD
theorem qs6:zd Tryz.prog (qkO):=
 q9 (H:=quE) (L:=qR (qv1)) (ts:=[qi]) (T:=fun x=>qaO x.1) 0 qDY (qrl 0) (qu (by kernel_rfl) trivial) (rg0 (by kernel_rfl)) fun x=>by kernel_rfl
noncomputable def qCu:Code:=Tryz.f129.body.getD .skip
theorem qBQ:FnF Tryz.prog 129 Tryz.f129 qCu:=⟨qj,by kernel_rfl,by kernel_rfl,by kernel_rfl⟩
def qms:TH:={ live:=[(0,[0,1]),(1,[0,1,6]),(2,[0,1]),(3,[0,1]),(4,[0,1,16]),(5,[0]),(6,[4])],esc:=true,nil:=[(5,[⟨.sl 0,900001290,(.sl 19 qi)⟩])] }
def qmm (N:Nat):List Ent:=[]
theorem qji (N:Nat):qT Tryz.prog (qmm N):=trivial
def ql1:Unit⊕Unit→TV×THp
 | .inl z=>(.v 900001290 0,[(900001290,.vec false 19 (.sl 19 qi) ([]:List qa))])
 | .inr z=>(.nils,[])
def Vs (a0:Int):Tree (Unit⊕Unit):=
 .cond (decide (a0 < ((0:Int)))) (
 .no) <|
 .chk (qy a0) <|
 .cond (decide (((0:Int)) < a0)) (
 .chk (0 < a0∧a0.toNat * 56≤zh) <|
 .ret (.inl ())) <|
 .ret (.inr ())
def ZH (a0:Int):Option (Unit⊕Unit):=(Vs a0).run some
def qmd:List (Nat×qI):=[]
def qcY:Ent:=smF ⟨129,[],[.k .nils,.x (.i .i64)],[],[]⟩ [(.i .i64)] (Unit⊕Unit) (fun x=>ZH x.1) (csS cs1) fun _=>ql1
theorem qkI:zd Tryz.prog (qcY):=
 q9 (H:=qms) (L:=qR (qmd)) (ts:=[(.i .i64)]) (T:=fun x=>Vs x.1) 0 qBQ (qji 0) (qu (by kernel_rfl) trivial) (rg0 (by kernel_rfl)) fun x=>by kernel_rfl
noncomputable def qb5:Code:=Tryz.f112.body.getD .skip
theorem qA6:FnF Tryz.prog 112 Tryz.f112 qb5:=⟨qj,by kernel_rfl,by kernel_rfl,by kernel_rfl⟩
def Q9:TH:={ live:=[(0,[0]),(1,[0,3]),(2,[0,3,9,10,11]),(3,[0,3,9,10,11,12]),(4,[0,3,5,9,10,11]),(5,[0,3,9,10,11]),(6,[0,3,9,10,11,20]),(7,[0,3,9,10,11]),(8,[0,3,9,10,11]),(9,[0,6]),(10,[6,25,26,27]),(11,[6,25,26,27,28]),(12,[6,8,25,26,27]),(13,[6,25,26,27]),(14,[6,25,26,27]),(15,[2])],raw:=[129],fresh:=[24],nil:=[(9,[⟨.sl 6,900001290,(.sl 19 qi)⟩])] }
def Wd (N:Nat):List Ent:=[qcY]
theorem VK (N:Nat):qT Tryz.prog (Wd N):=⟨qkI,trivial⟩
abbrev Zt:=List (List qa)×List (List qa)×Int
abbrev jZ:=Int×Int×Bool
def v9 (f:Zt) (y:jZ):Ex×TSt:=(.exit 0,⟨0,36,[],[(0,.tv (.sl 1 (.sl 19 qi)) f.1),(3,xi y.1),(9,.tv (.sl 1 (.sl 19 qi)) f.2.1),(10,xi f.2.2),(11,xi y.2.1),(12,xb y.2.2)],[],false,[]⟩)
def qgg (N:Nat):List (Nat×qI):=[]
abbrev v5:=Int×Int
def Ka:SP:=⟨0,36,[],[(0,.x (.sl 1 (.sl 19 qi))),(3,.x (.i .i64)),(9,.x (.sl 1 (.sl 19 qi))),(10,.x (.i .i64)),(11,.x (.i .i64))],[],false,[]⟩
def qf2 (f:Zt) (v:v5):TSt:=jn Ka [dv (.sl 1 (.sl 19 qi)) f.1,dv (.i .i64) v.1,dv (.sl 1 (.sl 19 qi)) f.2.1,dv (.i .i64) f.2.2,dv (.i .i64) v.2]
def Zp (N:Nat) (s0_3:List (List qa)) (s9_3:List (List qa)) (s10_3:Int) (v:v5):Tree (v5⊕jZ):=
 .cond (decide (v.2 < s10_3)) (
 .bind (zi s9_3 v.2) fun e1=>
 .chk (qy (v.1 + ((e1.length:Nat):Int))) <|
 .cond (decide ((v.1 + ((e1.length:Nat):Int)) < 0)) (
 .no) <|
 .chk (qy (v.2 + 1)) <|
 .ret (.inl (v.1 + ((e1.length:Nat):Int),v.2 + 1))) <|
 .ret (.inr (v.1,v.2,decide (v.2 < s10_3)))
def Y4 (N n:Nat) (f:Zt) (v:v5):Option jZ:=q0 (Zp N f.1 f.2.1 f.2.2) some n v
theorem qf8 (N:Nat) (f:Zt) (n:Nat) (v:v5) (y:jZ) (h:Y4 N n f v=some y):LG Tryz.prog Q9 112 (q_ qb5 3) (qf2 f v) (v9 f y):=
 zW qj (E:=Wd N) (L:=qR (qgg N)) (st:=v9 f) (g:=some) (R:=v9 f) (VK N) (qu (by kernel_rfl) trivial) (rg0 (by kernel_rfl)) (fun v=>by kernel_rfl) (zj (st:=v9 f) fun y=>by rfl) n v y h
def Xx (N:Nat) (s0_3:List (List qa)) (s9_3:List (List qa)) (s10_3:Int) (s3_3:Int) (s11_3:Int):Option jZ:=Y4 N N (s0_3,s9_3,s10_3) (s3_3,s11_3)
def Kf (N:Nat):qI:=smL Ka [(.sl 1 (.sl 19 qi)),(.i .i64),(.sl 1 (.sl 19 qi)),(.i .i64),(.i .i64)] jZ (fun x=>Xx N x.1 x.2.2.1 x.2.2.2.1 x.2.1 x.2.2.2.2.1) cs1 fun x=>v9 (x.1,x.2.2.1,x.2.2.2.1)
theorem qep (N:Nat):v3 Tryz.prog Q9 112 (q_ qb5 3) (Kf N):=js fun x z h=>qf8 N (x.1,x.2.2.1,x.2.2.2.1) N (x.2.1,x.2.2.2.2.1) z h
abbrev Q0:=List (List qa)×Int
abbrev jM:=List qa×Int×Bool
def vK (f:Q0) (y:jM):Ex×TSt:=(.exit 2,⟨0,36,[],[(6,.v 900001290 y.1.length),(25,.tv (.sl 1 (.sl 19 qi)) f.1),(26,xi f.2),(27,xi y.2.1),(28,xb y.2.2)],[(900001290,.vec false 19 (.sl 19 qi) (y.1:List qa))],false,[]⟩)
def qez (N:Nat):List (Nat×qI):=[]
abbrev vL:=List qa×Int
def YP:SP:=⟨0,36,[],[(6,.vs 900001290),(25,.x (.sl 1 (.sl 19 qi))),(26,.x (.i .i64)),(27,.x (.i .i64))],[(900001290,.vec false 19)],false,[]⟩
def qey (f:Q0) (v:vL):TSt:=jn YP [dv (.sl 19 qi) v.1,dv (.sl 1 (.sl 19 qi)) f.1,dv (.i .i64) f.2,dv (.i .i64) v.2]
def Q1 (N:Nat) (s25_11:List (List qa)) (s26_11:Int) (v:vL):Tree (vL⊕jM):=
 .cond (decide (v.2 < s26_11)) (
 .bind (zi s25_11 v.2) fun e1=>
 .chk (Vc v.1.length v.1.length ((v.1++e1).length) 56) <|
 .chk (qy (v.2 + 1)) <|
 .ret (.inl (v.1++e1,v.2 + 1))) <|
 .ret (.inr (v.1,v.2,decide (v.2 < s26_11)))
def YJ (N n:Nat) (f:Q0) (v:vL):Option jM:=q0 (Q1 N f.1 f.2) some n v
theorem qev (N:Nat) (f:Q0) (n:Nat) (v:vL) (y:jM) (h:YJ N n f v=some y):LG Tryz.prog Q9 112 (q_ qb5 11) (qey f v) (vK f y):=
 zW qj (E:=Wd N) (L:=qR (qez N)) (st:=vK f) (g:=some) (R:=vK f) (VK N) (qu (by kernel_rfl) trivial) (rg0 (by kernel_rfl)) (fun v=>by kernel_rfl) (zj (st:=vK f) fun y=>by rfl) n v y h
def ZF (N:Nat) (s25_11:List (List qa)) (s26_11:Int) (o_11:List qa) (s27_11:Int):Option jM:=YJ N N (s25_11,s26_11) (o_11,s27_11)
def YN (N:Nat):qI:=smL YP [(.sl 19 qi),(.sl 1 (.sl 19 qi)),(.i .i64),(.i .i64)] jM (fun x=>ZF N x.2.1 x.2.2.1 x.1 x.2.2.2.1) cs1 fun x=>vK (x.2.1,x.2.2.1)
theorem qdH (N:Nat):v3 Tryz.prog Q9 112 (q_ qb5 11) (YN N):=js fun x z h=>qev N (x.2.1,x.2.2.1) N (x.1,x.2.2.2.1) z h
def qi3 (z:List qa):TV×THp:=(.tv (.sl 19 qi) z,[])
def We (N:Nat) (a0:List (List qa)):Tree (List qa):=
 .bind (Xx N a0 a0 ((a0.length:Nat):Int) 0 0) fun z1=>
 .bind (ZH z1.1) fun r2=>
 .sum r2 (fun r3=>
 .bind (jN [(([]:List qa).length,0)] (ZF N a0 ((a0.length:Nat):Int) [] 0)) fun z4=>
 .chk (z4.1.length=z4.1.length) <|
 .ret z4.1) fun r3=>
 .bind (jN [(([]:List qa).length,0)] (ZF N a0 ((a0.length:Nat):Int) [] 0)) fun z4=>
 .chk (z4.1.length=z4.1.length) <|
 .ret z4.1
def Vt (N:Nat) (a0:List (List qa)):Option (List qa):=(We N a0).run some
def qjc (N:Nat):List (Nat×qI):=[(3,Kf N),(11,YN N)]
def qa7 (N:Nat):Ent:=smF ⟨112,[],[.x (.sl 1 (.sl 19 qi))],[],[]⟩ [(.sl 1 (.sl 19 qi))] (List qa) (fun x=>Vt N x.1) cs1 fun _=>qi3
theorem qil (N:Nat):zd Tryz.prog (qa7 N):=
 q9 (H:=Q9) (L:=qR (qjc N)) (ts:=[(.sl 1 (.sl 19 qi))]) (T:=fun x=>We N x.1) 0 qA6 (VK N) (qu (by kernel_rfl) ⟨qep N,qdH N,trivial⟩) (rg0 (by kernel_rfl)) fun x=>by kernel_rfl
noncomputable def qC_:Code:=Tryz.f103.body.getD .skip
theorem qlg:FnF Tryz.prog 103 Tryz.f103 qC_:=⟨qj,by kernel_rfl,by kernel_rfl,by kernel_rfl⟩
def qhj:TH:={ live:=[(0,[0]),(1,[0,4]),(2,[2]),(3,[2])],vecs:=[5] }
def qh2 (N:Nat):List Ent:=[]
theorem qf0 (N:Nat):qT Tryz.prog (qh2 N):=trivial
def qat (a0:List qb) (z:Unit):TV×THp:=(.tv (.sl 4 qC) ((([]:List qb))++a0:List qb),[])
def Xd (a0:List qb):Tree (Unit):=
 .chk (List.isEmpty a0=false) <|
 .chk (Vc ((([]:List qb)).length) 0 (((([]:List qb))++a0).length) 40) <|
 .chk (((([]:List qb))++a0).length=((([]:List qb))++a0).length) <|
 .ret ()
def WI (a0:List qb):Option (Unit):=(Xd a0).run some
def qh1:List (Nat×qI):=[]
theorem qfs:qdn Tryz.prog ⟨103,[],[.x (.sl 4 qC)],[],[]⟩ [(.sl 4 qC)] (fun x=>Xd x.1) (fun x=>qat x.1):=
 qa2 (H:=qhj) (L:=qR (qh1)) 0 qlg (qf0 0) (qu (by kernel_rfl) trivial) (rg0 (by kernel_rfl)) fun x=>by kernel_rfl
def qfY:TH:={ live:=[(0,[0]),(1,[0,4]),(2,[2]),(3,[2])],vecs:=[5] }
def qfy (N:Nat):List Ent:=[]
theorem qdw (N:Nat):qT Tryz.prog (qfy N):=trivial
def qf7 (z:Unit):TV×THp:=(.tv (.sl 4 qC) ([]:List qb),[])
def Y8:Tree (Unit):=
 .chk (0=0) <|
 .chk (0=0) <|
 .ret ()
def qid:Option (Unit):=(Y8).run some
def qfV:List (Nat×qI):=[]
theorem qdV:qdn Tryz.prog ⟨103,[],[.k (.es 0)],[],[]⟩ [] (fun x=>Y8) (fun _=>qf7):=
 qa2 (H:=qfY) (L:=qR (qfV)) 0 qlg (qdw 0) (qu (by kernel_rfl) trivial) (rg0 (by kernel_rfl)) fun x=>by kernel_rfl
def qgd:TH:={ live:=[(0,[0]),(1,[0,4]),(2,[2]),(3,[2])],vecs:=[5] }
def qfn (N:Nat):List Ent:=[]
theorem qdO (N:Nat):qT Tryz.prog (qfn N):=trivial
def qfv (z:Unit):TV×THp:=(.tv (.sl 4 qC) ([]:List qb),[])
def Y1:Tree (Unit):=
 .ret ()
def qiw:Option (Unit):=(Y1).run some
def qfq:List (Nat×qI):=[]
theorem qei:qdn Tryz.prog ⟨103,[],[.k (.es 1)],[],[]⟩ [] (fun x=>Y1) (fun _=>qfv):=
 qa2 (H:=qgd) (L:=qR (qfq)) 0 qlg (qdO 0) (qu (by kernel_rfl) trivial) (rg0 (by kernel_rfl)) fun x=>by kernel_rfl
def Y5 (z:Unit):Unit:=()
def qf6 (z:Unit):Unit:=()
def vZ (a0:List qb):Option (Unit):=
 bif a0.isEmpty then
  (qid).bind fun z0=>(qiw).bind fun z1=>chk (Y5 z0=qf6 z1) (some (Y5 z0))
 else WI a0
def K4:Ent:=smF ⟨103,[],[.x (.sl 4 qC)],[],[]⟩ [(.sl 4 qC)] (Unit) (fun x=>vZ x.1) cs1 fun x=>qat x.1
theorem qgi:zd Tryz.prog (K4):=qgW fun x z h l=>by
 obtain ⟨a0,_⟩:=x
 replace h:vZ a0=some z:=h
 unfold vZ at h
 rcases qkr h with ⟨e,h2⟩ | ⟨_,h2⟩<;>clear h
 ·have e:=List.isEmpty_iff.1 e
  subst e
  obtain ⟨z0,c0,h2⟩:=bind_some h2
  obtain ⟨z1,c1,h2⟩:=bind_some h2
  obtain ⟨hE,h2⟩:=qh8 h2
  obtain rfl:=Option.some.inj h2
  refine qjI (t:=(.sl 4 qC)) (x:=[]) rfl (TV.ers []) (TV.ers []) (by exact qdV (()) _ c0 l) ?_
  rw [hE]
  exact (by exact qei (()) _ c1 l)
 ·exact qfs (a0,()) z h2 l
noncomputable def qEN:Code:=Tryz.f75.body.getD .skip
theorem qDR:FnF Tryz.prog 75 Tryz.f75 qEN:=⟨qj,by kernel_rfl,by kernel_rfl,by kernel_rfl⟩
def qy9:TH:={ live:=[(0,[1,2]),(1,[1,2]),(2,[2])],nil:=[(0,[⟨.ob 20 [2],25,(.sl 4 qC)⟩])] }
def qyU (N:Nat):List Ent:=[K4]
theorem qws (N:Nat):qT Tryz.prog (qyU N):=⟨qgi,trivial⟩
def qAh (a0:qa) (z:Unit):TV×THp:=(.tv qi (qa.mk (qa.ID a0) (qa.zq a0) ((([]:List qb))++(qa.F a0))),[])
def qdk (a0:qa):Tree (Unit):=
 .bind (vZ (qa.F a0)) fun r1=>
 .ret ()
def KM (a0:qa):Option (Unit):=(qdk a0).run some
def qzX:List (Nat×qI):=[]
def qim:Ent:=smF ⟨75,[],[.x qi],[],[]⟩ [qi] (Unit) (fun x=>KM x.1) cs1 fun x=>qAh x.1
theorem qmI:zd Tryz.prog (qim):=
 q9 (H:=qy9) (L:=qR (qzX)) (ts:=[qi]) (T:=fun x=>qdk x.1) 0 qDR (qws 0) (qu (by kernel_rfl) trivial) (rg0 (by kernel_rfl)) fun x=>by kernel_rfl
noncomputable def qB8:Code:=Tryz.f167.body.getD .skip
theorem qBK:FnF Tryz.prog 167 Tryz.f167 qB8:=⟨qj,by kernel_rfl,by kernel_rfl,by kernel_rfl⟩
def qjU:TH:={ live:=[(0,[2,3,4]),(1,[2,3,4,7]),(2,[6]),(3,[12]),(4,[6]),(5,[6])] }
def qlk (N:Nat):List Ent:=[WM N]
theorem qhd (N:Nat):qT Tryz.prog (qlk N):=⟨Kt N,trivial⟩
def qj2 (z:Int):TV×THp:=(xi z,[])
def Yc (N:Nat) (a0:qe) (a1:qe):Tree (Int):=
 .bind (QE N a0 a1) fun r1=>
 .cond r1 (
 .ret (-1)) <|
 .bind (QE N a1 a0) fun r2=>
 .cond r2 (
 .ret 1) <|
 .ret 0
def Xf (N:Nat) (a0:qe) (a1:qe):Option (Int):=(Yc N a0 a1).run some
def qjR (N:Nat):List (Nat×qI):=[]
def qb8 (N:Nat):Ent:=smF ⟨167,[],[.x qn,.x qn,.fn 109 [] []],[],[]⟩ [qn,qn] (Int) (fun x=>Xf N x.1 x.2.1) cs1 fun _=>qj2
theorem qjg (N:Nat):zd Tryz.prog (qb8 N):=
 q9 (H:=qjU) (L:=qR (qjR N)) (ts:=[qn,qn]) (T:=fun x=>Yc N x.1 x.2.1) 0 qBK (qhd N) (qu (by kernel_rfl) trivial) (rg0 (by kernel_rfl)) fun x=>by kernel_rfl
noncomputable def qBL:Code:=Tryz.f166.body.getD .skip
theorem qBP:FnF Tryz.prog 166 Tryz.f166 qBL:=⟨qj,by kernel_rfl,by kernel_rfl,by kernel_rfl⟩
def qsT:TH:={ live:=[(0,[0,1]),(1,[2])] }
def qta (N:Nat):List Ent:=[qb8 N]
theorem qpL (N:Nat):qT Tryz.prog (qta N):=⟨qjg N,trivial⟩
def qs_ (a0:qd) (a1:qd) (z:Int):TV×THp:=(xi z,[(20,.cell false (.tv qo a0)),(30,.cell false (.tv qo a1))])
def qcN (N:Nat) (a0:qd) (a1:qd):Tree (Int):=
 .bind (Xf N (qd.S a0) (qd.S a1)) fun r1=>
 .ret r1
def qbG (N:Nat) (a0:qd) (a1:qd):Option (Int):=(qcN N a0 a1).run some
def qtr (N:Nat):List (Nat×qI):=[]
def qiN (N:Nat):Ent:=smF ⟨166,[],[],[.k (.p 20 [] 0),.k (.p 30 [] 0)],[(20,.cell false (.x qo)),(30,.cell false (.x qo))]⟩ [qo,qo] (Int) (fun x=>qbG N x.1 x.2.1) cs1 fun x=>qs_ x.1 x.2.1
theorem qqR (N:Nat):zd Tryz.prog (qiN N):=
 q9 (H:=qsT) (L:=qR (qtr N)) (ts:=[qo,qo]) (T:=fun x=>qcN N x.1 x.2.1) 0 qBP (qpL N) (qu (by kernel_rfl) trivial) (rg0 (by kernel_rfl)) fun x=>by kernel_rfl
noncomputable def qDH:Code:=Tryz.f29.body.getD .skip
theorem qE1:FnF Tryz.prog 29 Tryz.f29 qDH:=⟨qj,by kernel_rfl,by kernel_rfl,by kernel_rfl⟩
def qES:TH:={ live:=[(0,[0,2]),(1,[2])] }
def qEX (N:Nat):List Ent:=[qr2 N]
theorem qzh (N:Nat):qT Tryz.prog (qEX N):=⟨qpw N,trivial⟩
def qD6 (z:Vector UInt8 32):TV×THp:=(.tv (.ba 32) z,[])
def qoe (N:Nat) (a0:List UInt8):Tree (Vector UInt8 32):=
 .chk (qlT (a0:List UInt8).length) <|
 .bind (qds N a0) fun r1=>
 .ret r1
def qaW (N:Nat) (a0:List UInt8):Option (Vector UInt8 32):=(qoe N a0).run some
def qFo (N:Nat):List (Nat×qI):=[]
def qis (N:Nat):Ent:=smF ⟨29,[],[.x .s],[],[]⟩ [.s] (Vector UInt8 32) (fun x=>qaW N x.1) cs1 fun _=>qD6
theorem qkY (N:Nat):zd Tryz.prog (qis N):=
 q9 (H:=qES) (L:=qR (qFo N)) (ts:=[.s]) (T:=fun x=>qoe N x.1) 0 qE1 (qzh N) (qu (by kernel_rfl) trivial) (rg0 (by kernel_rfl)) fun x=>by kernel_rfl
noncomputable def qBb:Code:=Tryz.f170.body.getD .skip
theorem qBq:FnF Tryz.prog 170 Tryz.f170 qBb:=⟨qj,by kernel_rfl,by kernel_rfl,by kernel_rfl⟩
def qzc:TH:={ live:=[(0,[2,3]),(1,[4])],dec:=[8] }
def qAg (N:Nat):List Ent:=[Wk]
theorem qun (N:Nat):qT Tryz.prog (qAg N):=⟨KN,trivial⟩
def qAd (z:Bool):TV×THp:=(xb z,[])
def qh6 (a0:Vector UInt8 32) (a1:Vector UInt8 32):Tree (Bool):=
 .cond (!(eqE (.ba 32) a0 a1)) (
 .bind (XR a0.toList a1.toList) fun r1=>
 .ret (decide (r1 < ((0:Int))))) <|
 .ret false
def qd7 (a0:Vector UInt8 32) (a1:Vector UInt8 32):Option (Bool):=(qh6 a0 a1).run some
def qAD:List (Nat×qI):=[]
def qoy:Ent:=smF ⟨170,[],[.x (.ba 32),.x (.ba 32)],[],[]⟩ [(.ba 32),(.ba 32)] (Bool) (fun x=>qd7 x.1 x.2.1) cs1 fun _=>qAd
theorem qw2:zd Tryz.prog (qoy):=
 q9 (H:=qzc) (L:=qR (qAD)) (ts:=[(.ba 32),(.ba 32)]) (T:=fun x=>qh6 x.1 x.2.1) 0 qBq (qun 0) (qu (by kernel_rfl) trivial) (rg0 (by kernel_rfl)) fun x=>by kernel_rfl
noncomputable def qCR:Code:=Tryz.f169.body.getD .skip
theorem qCM:FnF Tryz.prog 169 Tryz.f169 qCR:=⟨qj,by kernel_rfl,by kernel_rfl,by kernel_rfl⟩
def qjj:TH:={ live:=[(0,[2,3,4]),(1,[2,3,4,7]),(2,[6]),(3,[12]),(4,[6]),(5,[6])] }
def qjo (N:Nat):List Ent:=[qoy]
theorem qgr (N:Nat):qT Tryz.prog (qjo N):=⟨qw2,trivial⟩
def qjl (z:Int):TV×THp:=(xi z,[])
def Wf (a0:Vector UInt8 32) (a1:Vector UInt8 32):Tree (Int):=
 .bind (qd7 a0 a1) fun r1=>
 .cond r1 (
 .ret (-1)) <|
 .bind (qd7 a1 a0) fun r2=>
 .cond r2 (
 .ret 1) <|
 .ret 0
def Vr (a0:Vector UInt8 32) (a1:Vector UInt8 32):Option (Int):=(Wf a0 a1).run some
def qjh:List (Nat×qI):=[]
def qa8:Ent:=smF ⟨169,[],[.x (.ba 32),.x (.ba 32),.fn 170 [] []],[],[]⟩ [(.ba 32),(.ba 32)] (Int) (fun x=>Vr x.1 x.2.1) cs1 fun _=>qjl
theorem qig:zd Tryz.prog (qa8):=
 q9 (H:=qjj) (L:=qR (qjh)) (ts:=[(.ba 32),(.ba 32)]) (T:=fun x=>Wf x.1 x.2.1) 0 qCM (qgr 0) (qu (by kernel_rfl) trivial) (rg0 (by kernel_rfl)) fun x=>by kernel_rfl
noncomputable def qA5:Code:=Tryz.f168.body.getD .skip
theorem qBF:FnF Tryz.prog 168 Tryz.f168 qA5:=⟨qj,by kernel_rfl,by kernel_rfl,by kernel_rfl⟩
def qtm:TH:={ live:=[(0,[0,1]),(1,[2])] }
def qtn (N:Nat):List Ent:=[qis N,qa8]
theorem qqe (N:Nat):qT Tryz.prog (qtn N):=⟨qkY N,qig,trivial⟩
def qsQ (a0:qd) (a1:qd) (z:Int):TV×THp:=(xi z,[(20,.cell false (.tv qo a0)),(30,.cell false (.tv qo a1))])
def qct (N:Nat) (a0:qd) (a1:qd):Tree (Int):=
 .bind (qaW N (qd.V a0)) fun r1=>
 .bind (qaW N (qd.V a1)) fun r2=>
 .bind (Vr r1 r2) fun r3=>
 .ret r3
def qbE (N:Nat) (a0:qd) (a1:qd):Option (Int):=(qct N a0 a1).run some
def qsI (N:Nat):List (Nat×qI):=[]
def qiy (N:Nat):Ent:=smF ⟨168,[],[],[.k (.p 20 [] 0),.k (.p 30 [] 0)],[(20,.cell false (.x qo)),(30,.cell false (.x qo))]⟩ [qo,qo] (Int) (fun x=>qbE N x.1 x.2.1) cs1 fun x=>qsQ x.1 x.2.1
theorem qrq (N:Nat):zd Tryz.prog (qiy N):=
 q9 (H:=qtm) (L:=qR (qsI N)) (ts:=[qo,qo]) (T:=fun x=>qct N x.1 x.2.1) 0 qBF (qqe N) (qu (by kernel_rfl) trivial) (rg0 (by kernel_rfl)) fun x=>by kernel_rfl
noncomputable def qBY:Code:=Tryz.f175.body.getD .skip
theorem qAR:FnF Tryz.prog 175 Tryz.f175 qBY:=⟨qj,by kernel_rfl,by kernel_rfl,by kernel_rfl⟩
def qj7:TH:={ live:=[(0,[0]),(1,[2])] }
def qkB (N:Nat):List Ent:=[]
theorem qh0 (N:Nat):qT Tryz.prog (qkB N):=trivial
def qjT (a0:List UInt8) (z:Unit):TV×THp:=(xb (!decide (a0=a0)),[])
def qcm (a0:List UInt8):Tree (Unit):=
 .ret ()
def V9 (a0:List UInt8):Option (Unit):=(qcm a0).run some
def qkE:List (Nat×qI):=[]
def qbU:Ent:=smF ⟨175,[],[.x .s],[],[]⟩ [.s] (Unit) (fun x=>V9 x.1) cs1 fun x=>qjT x.1
theorem qjk:zd Tryz.prog (qbU):=
 q9 (H:=qj7) (L:=qR (qkE)) (ts:=[.s]) (T:=fun x=>qcm x.1) 0 qAR (qh0 0) (qu (by kernel_rfl) trivial) (rg0 (by kernel_rfl)) fun x=>by kernel_rfl
noncomputable def qBo:Code:=Tryz.f172.body.getD .skip
theorem qBz:FnF Tryz.prog 172 Tryz.f172 qBo:=⟨qj,by kernel_rfl,by kernel_rfl,by kernel_rfl⟩
def qhC:TH:={ live:=[(0,[0,1]),(1,[0,1,5]),(2,[0,1,5,6]),(3,[0,1,6,11]),(4,[12]),(5,[4]),(6,[4]),(7,[0,1,13]),(8,[4]),(9,[0,1,16]),(10,[4]),(11,[19]),(12,[4]),(13,[4])] }
def qhh (N:Nat):List Ent:=[qbU]
theorem qfR (N:Nat):qT Tryz.prog (qhh N):=⟨qjk,trivial⟩
def qh9 (z:Int):TV×THp:=(xi z,[])
def Xe (a0:List UInt8) (a1:List UInt8):Tree (Int):=
 .bind (V9 a0) fun r1=>
 .bind (V9 a1) fun r2=>
 .cond (!decide (a0=a0)) (
 .cond (!decide (a1=a1)) (
 .ret 0) <|
 .ret (-1)) <|
 .cond (!decide (a1=a1)) (
 .ret 1) <|
 .cond (Op.bytesLess a0 a1) (
 .ret (-1)) <|
 .cond (!(Op.bytesLess a0 a1||decide (a0=a1))) (
 .ret 1) <|
 .ret 0
def JR (a0:List UInt8) (a1:List UInt8):Option (Int):=(Xe a0 a1).run some
def qhr:List (Nat×qI):=[]
def qam:Ent:=smF ⟨172,[],[.x .s,.x .s],[],[]⟩ [.s,.s] (Int) (fun x=>JR x.1 x.2.1) cs1 fun _=>qh9
theorem qgR:zd Tryz.prog (qam):=
 q9 (H:=qhC) (L:=qR (qhr)) (ts:=[.s,.s]) (T:=fun x=>Xe x.1 x.2.1) 0 qBz (qfR 0) (qu (by kernel_rfl) trivial) (rg0 (by kernel_rfl)) fun x=>by kernel_rfl
noncomputable def qCo:Code:=Tryz.f171.body.getD .skip
theorem qBO:FnF Tryz.prog 171 Tryz.f171 qCo:=⟨qj,by kernel_rfl,by kernel_rfl,by kernel_rfl⟩
def qtb:TH:={ live:=[(0,[0,1]),(1,[2])] }
def qtu (N:Nat):List Ent:=[qam]
theorem qoT (N:Nat):qT Tryz.prog (qtu N):=⟨qgR,trivial⟩
def qs7 (a0:qd) (a1:qd) (z:Int):TV×THp:=(xi z,[(20,.cell false (.tv qo a0)),(30,.cell false (.tv qo a1))])
def qcy (a0:qd) (a1:qd):Tree (Int):=
 .bind (JR (qd.V a0) (qd.V a1)) fun r1=>
 .ret r1
def qbM (a0:qd) (a1:qd):Option (Int):=(qcy a0 a1).run some
def qtc:List (Nat×qI):=[]
def qiA:Ent:=smF ⟨171,[],[],[.k (.p 20 [] 0),.k (.p 30 [] 0)],[(20,.cell false (.x qo)),(30,.cell false (.x qo))]⟩ [qo,qo] (Int) (fun x=>qbM x.1 x.2.1) cs1 fun x=>qs7 x.1 x.2.1
theorem qrc:zd Tryz.prog (qiA):=
 q9 (H:=qtb) (L:=qR (qtc)) (ts:=[qo,qo]) (T:=fun x=>qcy x.1 x.2.1) 0 qBO (qoT 0) (qu (by kernel_rfl) trivial) (rg0 (by kernel_rfl)) fun x=>by kernel_rfl
noncomputable def K9:Code:=Tryz.f159.body.getD .skip
theorem qAV:FnF Tryz.prog 159 Tryz.f159 K9:=⟨qj,by kernel_rfl,by kernel_rfl,by kernel_rfl⟩
def X9:TH:={ live:=[(0,[2,3]),(1,[5]),(2,[13,14]),(3,[13,14,15]),(4,[7,13,14]),(5,[8,13,14]),(6,[8,13,14,20]),(7,[4]),(8,[13,14]),(9,[4])] }
def Y_ (N:Nat):List Ent:=[qiN N,qiy N,qiA]
theorem XP (N:Nat):qT Tryz.prog (Y_ N):=⟨qqR N,qrq N,qrc,trivial⟩
abbrev zu:=qd×qd
abbrev zx:=Bool⊕Unit
def zA (f:zu):zx→Ex×TSt
 | .inl y=>(.ret,⟨0,24,[],[(4,xb y)],[],false,[]⟩)
 | .inr y=>(.exit 0,⟨0,24,[],[(13,.ag [.fn (.func 166) [] [.p 20 [] 0,.p 30 [] 0],.fn (.func 168) [] [.p 20 [] 0,.p 30 [] 0],.fn (.func 171) [] [.p 20 [] 0,.p 30 [] 0]]),(14,.ic .i64 3),(15,.bc false)],[(20,.cell false (.tv qo f.1)),(30,.cell false (.tv qo f.2))],false,[]⟩)
def Yl (N:Nat):List (Nat×qI):=[]
abbrev QQ:=Unit
def ql8:SP:=⟨0,24,[],[(13,.ag [.fn 166 [] [.k (.p 20 [] 0),.k (.p 30 [] 0)],.fn 168 [] [.k (.p 20 [] 0),.k (.p 30 [] 0)],.fn 171 [] [.k (.p 20 [] 0),.k (.p 30 [] 0)]]),(14,.k (.ic .i64 3))],[(20,.cell false (.x qo)),(30,.cell false (.x qo))],false,[]⟩
def qcW (f:zu) (v:QQ):TSt:=jn ql8 [dv qo f.1,dv qo f.2]
def ZX (N:Nat) (o_3:qd) (o_3_2:qd) (v:QQ):Tree (QQ⊕zx):=
 .ret (.inr (.inr ()))
def qcQ (N n:Nat) (f:zu) (v:QQ):Option zx:=q0 (ZX N f.1 f.2) some n v
theorem qmw (N:Nat) (f:zu) (n:Nat) (v:QQ) (y:zx) (h:qcQ N n f v=some y):LG Tryz.prog X9 159 (q_ K9 3) (qcW f v) (zA f y):=
 zW qj (E:=Y_ N) (L:=qR (Yl N)) (st:=zA f) (g:=some) (R:=zA f) (XP N) (qu (by kernel_rfl) trivial) (rg0 (by kernel_rfl)) (fun v=>by kernel_rfl) (zj (st:=zA f) fun y=>by rcases y with _ | _<;>rfl) n v y h
abbrev QV:=Unit
def qmv:SP:=⟨0,24,[],[(13,.ag [.fn 166 [] [.k (.p 20 [] 0),.k (.p 30 [] 0)],.fn 168 [] [.k (.p 20 [] 0),.k (.p 30 [] 0)],.fn 171 [] [.k (.p 20 [] 0),.k (.p 30 [] 0)]]),(14,.k (.ic .i64 2))],[(20,.cell false (.x qo)),(30,.cell false (.x qo))],false,[]⟩
def qc2 (f:zu) (v:QV):TSt:=jn qmv [dv qo f.1,dv qo f.2]
abbrev YV:=QQ⊕zx
def QT (N:Nat) (o_3:qd) (o_3_2:qd) (v:QV):Tree (QV⊕YV):=
 .chk (0≤(2:Int)∧(2:Int) < ((3:Nat):Int)) <|
 .bind (qbM o_3 o_3_2) fun r1=>
 .cond (!decide (r1=((0:Int)))) (
 .ret (.inr (.inr ((.inl (decide (r1 < ((0:Int))))))))) <|
 .ret (.inr (.inl ()))
def Z0 (N n:Nat) (f:zu):YV→Option zx
 | .inl w=>qcQ N n f w
 | .inr w=>some w
def qmh (f:zu):YV→Ex×TSt
 | .inl w=>(.normal,qcW f w)
 | .inr w=>zA f w
def qcX (N n:Nat) (f:zu) (v:QV):Option zx:=q0 (QT N f.1 f.2) (Z0 N n f) n v
theorem ql4 (N:Nat) (f:zu) (n:Nat) (v:QV) (y:zx) (h:qcX N n f v=some y):LG Tryz.prog X9 159 (q_ K9 3) (qc2 f v) (zA f y):=
 zW qj (E:=Y_ N) (L:=qR (Yl N)) (st:=qmh f) (g:=(Z0 N n f)) (R:=zA f) (XP N) (qu (by kernel_rfl) trivial) (rg0 (by kernel_rfl)) (fun v=>by kernel_rfl) (fun w y h=>by
 rcases w with w | w
 ·exact qmw N f n w y h
 ·exact zj (st:=zA f) (fun y=>by rcases y with _ | _<;>rfl) w y h
) n v y h
abbrev QO:=Unit
def ql6:SP:=⟨0,24,[],[(13,.ag [.fn 166 [] [.k (.p 20 [] 0),.k (.p 30 [] 0)],.fn 168 [] [.k (.p 20 [] 0),.k (.p 30 [] 0)],.fn 171 [] [.k (.p 20 [] 0),.k (.p 30 [] 0)]]),(14,.k (.ic .i64 1))],[(20,.cell false (.x qo)),(30,.cell false (.x qo))],false,[]⟩
def qcZ (f:zu) (v:QO):TSt:=jn ql6 [dv qo f.1,dv qo f.2]
abbrev YU:=QV⊕zx
def QS (N:Nat) (o_3:qd) (o_3_2:qd) (v:QO):Tree (QO⊕YU):=
 .chk (0≤(1:Int)∧(1:Int) < ((3:Nat):Int)) <|
 .bind (qbE N o_3 o_3_2) fun r1=>
 .cond (!decide (r1=((0:Int)))) (
 .ret (.inr (.inr ((.inl (decide (r1 < ((0:Int))))))))) <|
 .ret (.inr (.inl ()))
def Z1 (N n:Nat) (f:zu):YU→Option zx
 | .inl w=>qcX N n f w
 | .inr w=>some w
def ql9 (f:zu):YU→Ex×TSt
 | .inl w=>(.normal,qc2 f w)
 | .inr w=>zA f w
def qcS (N n:Nat) (f:zu) (v:QO):Option zx:=q0 (QS N f.1 f.2) (Z1 N n f) n v
theorem qmo (N:Nat) (f:zu) (n:Nat) (v:QO) (y:zx) (h:qcS N n f v=some y):LG Tryz.prog X9 159 (q_ K9 3) (qcZ f v) (zA f y):=
 zW qj (E:=Y_ N) (L:=qR (Yl N)) (st:=ql9 f) (g:=(Z1 N n f)) (R:=zA f) (XP N) (qu (by kernel_rfl) trivial) (rg0 (by kernel_rfl)) (fun v=>by kernel_rfl) (fun w y h=>by
 rcases w with w | w
 ·exact ql4 N f n w y h
 ·exact zj (st:=zA f) (fun y=>by rcases y with _ | _<;>rfl) w y h
) n v y h
abbrev VY:=Unit
def qg2:SP:=⟨0,24,[],[(13,.ag [.fn 166 [] [.k (.p 20 [] 0),.k (.p 30 [] 0)],.fn 168 [] [.k (.p 20 [] 0),.k (.p 30 [] 0)],.fn 171 [] [.k (.p 20 [] 0),.k (.p 30 [] 0)]]),(14,.k (.ic .i64 0))],[(20,.cell false (.x qo)),(30,.cell false (.x qo))],false,[]⟩
def qrt (f:zu) (v:VY):TSt:=jn qg2 [dv qo f.1,dv qo f.2]
abbrev qbs:=QO⊕zx
def YG (N:Nat) (o_3:qd) (o_3_2:qd) (v:VY):Tree (VY⊕qbs):=
 .chk (0≤(0:Int)∧(0:Int) < ((3:Nat):Int)) <|
 .bind (qbG N o_3 o_3_2) fun r1=>
 .cond (!decide (r1=((0:Int)))) (
 .ret (.inr (.inr ((.inl (decide (r1 < ((0:Int))))))))) <|
 .ret (.inr (.inl ()))
def qbz (N n:Nat) (f:zu):qbs→Option zx
 | .inl w=>qcS N n f w
 | .inr w=>some w
def qq_ (f:zu):qbs→Ex×TSt
 | .inl w=>(.normal,qcZ f w)
 | .inr w=>zA f w
def qgZ (N n:Nat) (f:zu) (v:VY):Option zx:=q0 (YG N f.1 f.2) (qbz N n f) n v
theorem qqz (N:Nat) (f:zu) (n:Nat) (v:VY) (y:zx) (h:qgZ N n f v=some y):LG Tryz.prog X9 159 (q_ K9 3) (qrt f v) (zA f y):=
 zW qj (E:=Y_ N) (L:=qR (Yl N)) (st:=qq_ f) (g:=(qbz N n f)) (R:=zA f) (XP N) (qu (by kernel_rfl) trivial) (rg0 (by kernel_rfl)) (fun v=>by kernel_rfl) (fun w y h=>by
 rcases w with w | w
 ·exact qmo N f n w y h
 ·exact zj (st:=zA f) (fun y=>by rcases y with _ | _<;>rfl) w y h
) n v y h
def qay (N:Nat) (o_3:qd) (o_3_2:qd):Option zx:=qgZ N N (o_3,o_3_2) ()
def qgu (N:Nat):qI:=smL qg2 [qo,qo] zx (fun x=>qay N x.1 x.2.1) (csS cs1) fun x=>zA (x.1,x.2.1)
theorem qp_ (N:Nat):v3 Tryz.prog X9 159 (q_ K9 3) (qgu N):=js fun x z h=>qqz N (x.1,x.2.1) N () z h
def qwK (z:Bool):TV×THp:=(xb z,[])
def qfE (N:Nat) (a0:qd) (a1:qd):Tree (Bool):=
 .bind (qay N a0 a1) fun z1=>
 .sum z1 (fun z2=>
 .ret z2) fun z2=>
 .ret false
def qeS (N:Nat) (a0:qd) (a1:qd):Option (Bool):=(qfE N a0 a1).run some
def qxa (N:Nat):List (Nat×qI):=[(3,qgu N)]
def qm4 (N:Nat):Ent:=smF ⟨159,[],[.x qo,.x qo],[],[]⟩ [qo,qo] (Bool) (fun x=>qeS N x.1 x.2.1) cs1 fun _=>qwK
theorem qtW (N:Nat):zd Tryz.prog (qm4 N):=
 q9 (H:=X9) (L:=qR (qxa N)) (ts:=[qo,qo]) (T:=fun x=>qfE N x.1 x.2.1) 0 qAV (XP N) (qu (by kernel_rfl) ⟨qp_ N,trivial⟩) (rg0 (by kernel_rfl)) fun x=>by kernel_rfl
noncomputable def qBM:Code:=Tryz.f144.body.getD .skip
theorem qBs:FnF Tryz.prog 144 Tryz.f144 qBM:=⟨qj,by kernel_rfl,by kernel_rfl,by kernel_rfl⟩
def qxM:TH:={ live:=[(0,[2,3,4]),(1,[2,3,4,7]),(2,[4]),(3,[4])] }
def qxS (N:Nat):List Ent:=[qm4 N]
theorem qtd (N:Nat):qT Tryz.prog (qxS N):=⟨qtW N,trivial⟩
def qxt (z:qd):TV×THp:=(.tv qo z,[])
def qfN (N:Nat) (a0:qd) (a1:qd):Tree (qd):=
 .bind (qeS N a0 a1) fun r1=>
 .cond r1 (
 .ret a1) <|
 .ret a0
def qeU (N:Nat) (a0:qd) (a1:qd):Option (qd):=(qfN N a0 a1).run some
def qwZ (N:Nat):List (Nat×qI):=[]
def qmT (N:Nat):Ent:=smF ⟨144,[],[.x qo,.x qo],[],[]⟩ [qo,qo] (qd) (fun x=>qeU N x.1 x.2.1) cs1 fun _=>qxt
theorem qup (N:Nat):zd Tryz.prog (qmT N):=
 q9 (H:=qxM) (L:=qR (qwZ N)) (ts:=[qo,qo]) (T:=fun x=>qfN N x.1 x.2.1) 0 qBs (qtd N) (qu (by kernel_rfl) trivial) (rg0 (by kernel_rfl)) fun x=>by kernel_rfl
noncomputable def qkt:Code:=Tryz.f130.body.getD .skip
theorem qC3:FnF Tryz.prog 130 Tryz.f130 qkt:=⟨qj,by kernel_rfl,by kernel_rfl,by kernel_rfl⟩
def WL:TH:={ live:=[(0,[0,3]),(1,[0,9,10,11]),(2,[0,9,10,11,12]),(3,[0,5,9,10,11]),(4,[0,5,6,7,9,10,11]),(5,[0,5,6,9,10,11,22]),(6,[0,9,10,11]),(7,[0,9,10,11]),(8,[0,9,10,11])] }
def qcf (N:Nat):List Ent:=[qmT N]
theorem qaw (N:Nat):qT Tryz.prog (qcf N):=⟨qup N,trivial⟩
abbrev ZG:=List qb×Int
abbrev vq:=Nat×List (Int×qd×Nat)×Int×Bool
def Ql (f:ZG) (y:vq):Ex×TSt:=(.exit 0,⟨1,36,[250],[(0,.m 250),(9,.tv (.sl 4 qC) f.1),(10,xi f.2),(11,xi y.2.2.1),(12,xb y.2.2.2)],[(250,.map y.1 (.i .i64) qo (y.2.1:List (Int×qd×Nat)))],false,[]⟩)
def qgB (N:Nat):List (Nat×qI):=[]
abbrev Qu:=Nat×List (Int×qd×Nat)×Int
def K1:SP:=⟨1,36,[250],[(0,.k (.m 250)),(9,.x (.sl 4 qC)),(10,.x (.i .i64)),(11,.x (.i .i64))],[(250,.map (.i .i64) qo)],false,[]⟩
def qg5 (f:ZG) (v:Qu):TSt:=jn K1 [dv .nat v.1,dv (Xh (.i .i64) qo) v.2.1,dv (.sl 4 qC) f.1,dv (.i .i64) f.2,dv (.i .i64) v.2.2]
def Qn (N:Nat) (s9_2:List qb) (s10_2:Int) (v:Qu):Tree (Qu⊕vq):=
 .cond (decide (v.2.2 < s10_2)) (
 .bind (zi s9_2 v.2.2) fun e1=>
 .opt (fnd (β:=qd) (.i .i64) (qb.No e1) v.2.1) (
 .chk (qy (v.2.2 + 1)) <|
 .ret (.inl ((Qz (.i .i64) (qb.No e1) (qb.C e1) v.1 v.2.1).1,(Qz (.i .i64) (qb.No e1) (qb.C e1) v.1 v.2.1).2,v.2.2 + 1))) fun e2=>
 .bind (qeU N e2.1 (qb.C e1)) fun r3=>
 .chk (qy (v.2.2 + 1)) <|
 .ret (.inl ((Qz (.i .i64) (qb.No e1) r3 v.1 v.2.1).1,(Qz (.i .i64) (qb.No e1) r3 v.1 v.2.1).2,v.2.2 + 1))) <|
 .ret (.inr (v.1,v.2.1,v.2.2,decide (v.2.2 < s10_2)))
def K5 (N n:Nat) (f:ZG) (v:Qu):Option vq:=q0 (Qn N f.1 f.2) some n v
theorem qg7 (N:Nat) (f:ZG) (n:Nat) (v:Qu) (y:vq) (h:K5 N n f v=some y):LG Tryz.prog WL 130 (q_ qkt 2) (qg5 f v) (Ql f y):=
 zW qj (E:=qcf N) (L:=qR (qgB N)) (st:=Ql f) (g:=some) (R:=Ql f) (qaw N) (qu (by kernel_rfl) trivial) (rg0 (by kernel_rfl)) (fun v=>by kernel_rfl) (zj (st:=Ql f) fun y=>by rfl) n v y h
def Wb (N:Nat) (s9_2:List qb) (s10_2:Int) (o_2:Nat) (o_2_2:List (Int×qd×Nat)) (s11_2:Int):Option vq:=K5 N N (s9_2,s10_2) (o_2,o_2_2,s11_2)
def K_ (N:Nat):qI:=smL K1 [.nat,(Xh (.i .i64) qo),(.sl 4 qC),(.i .i64),(.i .i64)] vq (fun x=>Wb N x.2.2.1 x.2.2.2.1 x.1 x.2.1 x.2.2.2.2.1) cs1 fun x=>Ql (x.2.2.1,x.2.2.2.1)
theorem qfU (N:Nat):v3 Tryz.prog WL 130 (q_ qkt 2) (K_ N):=js fun x z h=>qg7 N (x.2.2.1,x.2.2.2.1) N (x.1,x.2.1,x.2.2.2.2.1) z h
def qlb (z:Nat×List (Int×qd×Nat)):TV×THp:=(.tup [],[(250,.map z.1 (.i .i64) qo (z.2:List (Int×qd×Nat)))])
def W9 (N:Nat) (a0:Nat) (a1:List (Int×qd×Nat)) (a2:qa):Tree (Nat×List (Int×qd×Nat)):=
 .bind (Wb N (qa.F a2) (((qa.F a2).length:Nat):Int) a0 a1 0) fun z1=>
 .ret (z1.1,z1.2.1)
def Jq (N:Nat) (a0:Nat) (a1:List (Int×qd×Nat)) (a2:qa):Option (Nat×List (Int×qd×Nat)):=(W9 N a0 a1 a2).run some
def qkN (N:Nat):List (Nat×qI):=[(2,K_ N)]
def qbS (N:Nat):Ent:=smF ⟨130,[],[.k (.m 250),.x qi],[],[(250,.map (.i .i64) qo)]⟩ [.nat,(Xh (.i .i64) qo),qi] (Nat×List (Int×qd×Nat)) (fun x=>Jq N x.1 x.2.1 x.2.2.1) cs1 fun _=>qlb
theorem qje (N:Nat):zd Tryz.prog (qbS N):=
 q9 (H:=WL) (L:=qR (qkN N)) (ts:=[.nat,(Xh (.i .i64) qo),qi]) (T:=fun x=>W9 N x.1 x.2.1 x.2.2.1) 0 qC3 (qaw N) (qu (by kernel_rfl) ⟨qfU N,trivial⟩) (rg0 (by kernel_rfl)) fun x=>by kernel_rfl
noncomputable def qDf:Code:=Tryz.f131.body.getD .skip
theorem qA2:FnF Tryz.prog 131 Tryz.f131 qDf:=⟨qj,by kernel_rfl,by kernel_rfl,by kernel_rfl⟩
def qxI:TH:={ live:=[(0,[2,3,4]),(1,[2,3,4,7]),(2,[4]),(3,[4])] }
def qwT (N:Nat):List Ent:=[WM N]
theorem qsP (N:Nat):qT Tryz.prog (qwT N):=⟨Kt N,trivial⟩
def qw0 (z:qe):TV×THp:=(.tv qn z,[])
def qfS (N:Nat) (a0:qe) (a1:qe):Tree (qe):=
 .bind (QE N a0 a1) fun r1=>
 .cond r1 (
 .ret a1) <|
 .ret a0
def qeG (N:Nat) (a0:qe) (a1:qe):Option (qe):=(qfS N a0 a1).run some
def qwI (N:Nat):List (Nat×qI):=[]
def qm8 (N:Nat):Ent:=smF ⟨131,[],[.x qn,.x qn],[],[]⟩ [qn,qn] (qe) (fun x=>qeG N x.1 x.2.1) cs1 fun _=>qw0
theorem qvE (N:Nat):zd Tryz.prog (qm8 N):=
 q9 (H:=qxI) (L:=qR (qwI N)) (ts:=[qn,qn]) (T:=fun x=>qfS N x.1 x.2.1) 0 qA2 (qsP N) (qu (by kernel_rfl) trivial) (rg0 (by kernel_rfl)) fun x=>by kernel_rfl
noncomputable def qDj:Code:=Tryz.f132.body.getD .skip
theorem qAP:FnF Tryz.prog 132 Tryz.f132 qDj:=⟨qj,by kernel_rfl,by kernel_rfl,by kernel_rfl⟩
def qgy:TH:={ live:=[(0,[2,3]),(1,[4])],esc:=true }
def qhb (N:Nat):List Ent:=[]
theorem qew (N:Nat):qT Tryz.prog (qhb N):=trivial
def qgv (a0:Nat) (a1:List (Int×qd×Nat)) (a2:qe) (z:Unit):TV×THp:=(.fn (.func 145) [] [.p 100020 [] 0,.p 100030 [] 0],[(250,.map a0 (.i .i64) qo a1),(100020,.cell false (.m 250)),(100030,.cell false (.tv qn a2))])
def K8 (a0:Nat) (a1:List (Int×qd×Nat)) (a2:qe):Tree (Unit):=
 .ret ()
def qa_ (a0:Nat) (a1:List (Int×qd×Nat)) (a2:qe):Option (Unit):=(K8 a0 a1 a2).run some
def qgo:List (Nat×qI):=[]
def K0:Ent:=smF ⟨132,[],[.k (.m 250),.x qn],[],[(250,.map (.i .i64) qo)]⟩ [.nat,(Xh (.i .i64) qo),qn] (Unit) (fun x=>qa_ x.1 x.2.1 x.2.2.1) cs1 fun x=>qgv x.1 x.2.1 x.2.2.1
theorem qfT:zd Tryz.prog (K0):=
 q9 (H:=qgy) (L:=qR (qgo)) (ts:=[.nat,(Xh (.i .i64) qo),qn]) (T:=fun x=>K8 x.1 x.2.1 x.2.2.1) 0 qAP (qew 0) (qu (by kernel_rfl) trivial) (rg0 (by kernel_rfl)) fun x=>by kernel_rfl
def qjH:TH:={ live:=[(0,[2,3,4]),(1,[2,3,4,23]),(2,[4,5]),(3,[2,3,4,6]),(4,[2,3,4,6]),(5,[2,3,4,6]),(6,[4,6,7]),(7,[4,7,43]),(8,[7,8]),(10,[4,5])],dec:=[12,17],fresh:=[43] }
def qjC (N:Nat):List Ent:=[]
theorem qhP (N:Nat):qT Tryz.prog (qjC N):=trivial
def qju (a0:List qb) (a1:List qb) (a2:Nat) (a3:List (Int×qd×Nat)) (a4:Vector UInt8 16) (a5:qe) (a6:Vector UInt8 16) (a7:qe) (a8:qe) (a9:qb) (z:Unit):TV×THp:=(.bc true,[(40,.cell false (.ag [.tv (.ba 16) a4,.tv qn a5,.v 45 a0.length])),(45,.vec false 4 (.sl 4 qC) a0),(70,.cell false (.ag [.tv (.ba 16) a6,.tv qn a7,.v 75 ((a1++[a9]).length)])),(75,.vec false 4 (.sl 4 qC) (a1++[a9]:List qb)),(250,.map a2 (.i .i64) qo a3),(50080,.loop [44] 52 [(4,.p 40 [] 0),(7,.p 70 [] 0),(43,.fn (.func 145) [] [.p 100020 [] 0,.p 100030 [] 0])] 11300008 113 .ready none 50081),(50081,.dfr true),(100020,.cell false (.m 250)),(100030,.cell false (.tv qn a8))])
def WN (a0:List qb) (a1:List qb) (a2:Nat) (a3:List (Int×qd×Nat)) (a4:Vector UInt8 16) (a5:qe) (a6:Vector UInt8 16) (a7:qe) (a8:qe) (a9:qb):Tree (Unit):=
 .chk (Vc a1.length a1.length ((a1++[a9]).length) 40) <|
 .ret ()
def Xk (a0:List qb) (a1:List qb) (a2:Nat) (a3:List (Int×qd×Nat)) (a4:Vector UInt8 16) (a5:qe) (a6:Vector UInt8 16) (a7:qe) (a8:qe) (a9:qb):Option (Unit):=(WN a0 a1 a2 a3 a4 a5 a6 a7 a8 a9).run some
def qjQ:List (Nat×qI):=[]
def qbP:Ent:=smR 50080 [.x qC] [(40,.cell false (.ag [.x (.ba 16),.x qn,.vs 45])),(45,.vec false 4),(70,.cell false (.ag [.x (.ba 16),.x qn,.vs 75])),(75,.vec false 4),(250,.map (.i .i64) qo),(50080,.loop [44] 52 [(4,.k (.p 40 [] 0)),(7,.k (.p 70 [] 0)),(43,.fn 145 [] [.k (.p 100020 [] 0),.k (.p 100030 [] 0)])] 11300008 113 .ready none 50081),(50081,.dfr true),(100020,.cell false (.k (.m 250))),(100030,.cell false (.x qn))] [(.sl 4 qC),(.sl 4 qC),.nat,(Xh (.i .i64) qo),(.ba 16),qn,(.ba 16),qn,qn,qC] (Unit) (fun x=>Xk x.1 x.2.1 x.2.2.1 x.2.2.2.1 x.2.2.2.2.1 x.2.2.2.2.2.1 x.2.2.2.2.2.2.1 x.2.2.2.2.2.2.2.1 x.2.2.2.2.2.2.2.2.1 x.2.2.2.2.2.2.2.2.2.1) cs1 fun x=>qju x.1 x.2.1 x.2.2.1 x.2.2.2.1 x.2.2.2.2.1 x.2.2.2.2.2.1 x.2.2.2.2.2.2.1 x.2.2.2.2.2.2.2.1 x.2.2.2.2.2.2.2.2.1 x.2.2.2.2.2.2.2.2.2.1
theorem qi4:zd Tryz.prog (qbP):=
 qHN (H:=qjH) (L:=qR (qjQ)) (ts:=[(.sl 4 qC),(.sl 4 qC),.nat,(Xh (.i .i64) qo),(.ba 16),qn,(.ba 16),qn,qn,qC]) (T:=fun x=>WN x.1 x.2.1 x.2.2.1 x.2.2.2.1 x.2.2.2.2.1 x.2.2.2.2.2.1 x.2.2.2.2.2.2.1 x.2.2.2.2.2.2.2.1 x.2.2.2.2.2.2.2.2.1 x.2.2.2.2.2.2.2.2.2.1) (K:=113) (cid:=11300008) 2 qj (qhP 0) (by kernel_rfl) (qu (by kernel_rfl) trivial) (rg0 (by kernel_rfl)) (rg0 (by kernel_rfl)) (fun x=>by kernel_rfl) fun x=>by kernel_rfl
noncomputable def qkW:Code:=Tryz.f145.body.getD .skip
theorem qBV:FnF Tryz.prog 145 Tryz.f145 qkW:=⟨qj,by kernel_rfl,by kernel_rfl,by kernel_rfl⟩
def JF:TH:={ live:=[(0,[0,1,2,7]),(1,[0,1,2,7,8]),(2,[0,1,2,4,7]),(3,[0,1,2,4,5,6,7]),(4,[0,1,2,7,30]),(5,[0,1,2,7])],dec:=[17,23] }
def YK (N:Nat):List Ent:=[WM N,qbP]
theorem Ws (N:Nat):qT Tryz.prog (YK N):=⟨Kt N,qi4,trivial⟩
abbrev Qg:=List qb×Nat×List (Int×qd×Nat)×Vector UInt8 16×qe×Vector UInt8 16×qe×qe
abbrev jq:=List qb×Int×Bool
def jU (f:Qg) (y:jq):Ex×TSt:=(.exit 0,⟨2,32,[40,45,70,75,250,50080,50081,100020,100030],[(0,.yl 50080),(1,.p 100020 [] 0),(2,.p 100030 [] 0),(7,xi y.2.1),(8,xb y.2.2)],[(40,.cell false (.ag [.tv (.ba 16) f.2.2.2.1,.tv qn f.2.2.2.2.1,.v 45 f.1.length])),(45,.vec false 4 (.sl 4 qC) f.1),(70,.cell false (.ag [.tv (.ba 16) f.2.2.2.2.2.1,.tv qn f.2.2.2.2.2.2.1,.v 75 y.1.length])),(75,.vec false 4 (.sl 4 qC) (y.1:List qb)),(250,.map f.2.1 (.i .i64) qo f.2.2.1),(50080,.loop [44] 52 [(4,.p 40 [] 0),(7,.p 70 [] 0),(43,.fn (.func 145) [] [.p 100020 [] 0,.p 100030 [] 0])] 11300008 113 .ready none 50081),(50081,.dfr true),(100020,.cell false (.m 250)),(100030,.cell false (.tv qn f.2.2.2.2.2.2.2))],false,[]⟩)
def qcz (N:Nat):List (Nat×qI):=[]
abbrev jV:=List qb×Int
def XZ:SP:=⟨2,32,[40,45,70,75,250,50080,50081,100020,100030],[(0,.k (.yl 50080)),(1,.k (.p 100020 [] 0)),(2,.k (.p 100030 [] 0)),(7,.x (.i .i64))],[(40,.cell false (.ag [.x (.ba 16),.x qn,.vs 45])),(45,.vec false 4),(70,.cell false (.ag [.x (.ba 16),.x qn,.vs 75])),(75,.vec false 4),(250,.map (.i .i64) qo),(50080,.loop [44] 52 [(4,.k (.p 40 [] 0)),(7,.k (.p 70 [] 0)),(43,.fn 145 [] [.k (.p 100020 [] 0),.k (.p 100030 [] 0)])] 11300008 113 .ready none 50081),(50081,.dfr true),(100020,.cell false (.k (.m 250))),(100030,.cell false (.x qn))],false,[]⟩
def qcH (f:Qg) (v:jV):TSt:=jn XZ [dv (.sl 4 qC) f.1,dv (.sl 4 qC) v.1,dv .nat f.2.1,dv (Xh (.i .i64) qo) f.2.2.1,dv (.ba 16) f.2.2.2.1,dv qn f.2.2.2.2.1,dv (.ba 16) f.2.2.2.2.2.1,dv qn f.2.2.2.2.2.2.1,dv qn f.2.2.2.2.2.2.2,dv (.i .i64) v.2]
def Qc (N:Nat) (o_1:List qb) (o_1_3:Nat) (o_1_4:List (Int×qd×Nat)) (o_1_5:Vector UInt8 16) (o_1_6:qe) (o_1_7:Vector UInt8 16) (o_1_8:qe) (o_1_9:qe) (v:jV):Tree (jV⊕jq):=
 .cond (decide (v.2 < ((8:Int)))) (
 .opt (fnd (β:=qd) (.i .i64) v.2 o_1_4) (
 .chk (qy (v.2 + 1)) <|
 .ret (.inl (v.1,v.2 + 1))) fun e1=>
 .bind (QE N o_1_9 (qd.S e1.1)) fun r2=>
 .cond r2 (
 .bind (jN [(o_1.length,o_1.length),(v.1.length,v.1.length)] (Xk o_1 v.1 o_1_3 o_1_4 o_1_5 o_1_6 o_1_7 o_1_8 o_1_9 (qb.mk v.2 e1.1))) fun r3=>
 .chk (qy (v.2 + 1)) <|
 .ret (.inl (v.1++[qb.mk v.2 e1.1],v.2 + 1))) <|
 .chk (qy (v.2 + 1)) <|
 .ret (.inl (v.1,v.2 + 1))) <|
 .ret (.inr (v.1,v.2,decide (v.2 < ((8:Int)))))
def XO (N n:Nat) (f:Qg) (v:jV):Option jq:=q0 (Qc N f.1 f.2.1 f.2.2.1 f.2.2.2.1 f.2.2.2.2.1 f.2.2.2.2.2.1 f.2.2.2.2.2.2.1 f.2.2.2.2.2.2.2) some n v
theorem qcx (N:Nat) (f:Qg) (n:Nat) (v:jV) (y:jq) (h:XO N n f v=some y):LG Tryz.prog JF 145 (q_ qkW 1) (qcH f v) (jU f y):=
 zW qj (E:=YK N) (L:=qR (qcz N)) (st:=jU f) (g:=some) (R:=jU f) (Ws N) (qu (by kernel_rfl) trivial) (rg0 (by kernel_rfl)) (fun v=>by kernel_rfl) (zj (st:=jU f) fun y=>by rfl) n v y h
def JC (N:Nat) (o_1:List qb) (o_1_3:Nat) (o_1_4:List (Int×qd×Nat)) (o_1_5:Vector UInt8 16) (o_1_6:qe) (o_1_7:Vector UInt8 16) (o_1_8:qe) (o_1_9:qe) (o_1_2:List qb) (s7_1:Int):Option jq:=XO N N (o_1,o_1_3,o_1_4,o_1_5,o_1_6,o_1_7,o_1_8,o_1_9) (o_1_2,s7_1)
def XW (N:Nat):qI:=smL XZ [(.sl 4 qC),(.sl 4 qC),.nat,(Xh (.i .i64) qo),(.ba 16),qn,(.ba 16),qn,qn,(.i .i64)] jq (fun x=>JC N x.1 x.2.2.1 x.2.2.2.1 x.2.2.2.2.1 x.2.2.2.2.2.1 x.2.2.2.2.2.2.1 x.2.2.2.2.2.2.2.1 x.2.2.2.2.2.2.2.2.1 x.2.1 x.2.2.2.2.2.2.2.2.2.1) cs1 fun x=>jU (x.1,x.2.2.1,x.2.2.2.1,x.2.2.2.2.1,x.2.2.2.2.2.1,x.2.2.2.2.2.2.1,x.2.2.2.2.2.2.2.1,x.2.2.2.2.2.2.2.2.1)
theorem qbT (N:Nat):v3 Tryz.prog JF 145 (q_ qkW 1) (XW N):=js fun x z h=>qcx N (x.1,x.2.2.1,x.2.2.2.1,x.2.2.2.2.1,x.2.2.2.2.2.1,x.2.2.2.2.2.2.1,x.2.2.2.2.2.2.2.1,x.2.2.2.2.2.2.2.2.1) N (x.2.1,x.2.2.2.2.2.2.2.2.2.1) z h
def qeq (a0:List qb) (a2:Nat) (a3:List (Int×qd×Nat)) (a4:Vector UInt8 16) (a5:qe) (a6:Vector UInt8 16) (a7:qe) (a8:qe) (z:List qb):TV×THp:=(.tup [],[(40,.cell false (.ag [.tv (.ba 16) a4,.tv qn a5,.v 45 a0.length])),(45,.vec false 4 (.sl 4 qC) a0),(70,.cell false (.ag [.tv (.ba 16) a6,.tv qn a7,.v 75 z.length])),(75,.vec false 4 (.sl 4 qC) z),(250,.map a2 (.i .i64) qo a3),(50080,.loop [44] 52 [(4,.p 40 [] 0),(7,.p 70 [] 0),(43,.fn (.func 145) [] [.p 100020 [] 0,.p 100030 [] 0])] 11300008 113 .ready none 50081),(50081,.dfr true),(100020,.cell false (.m 250)),(100030,.cell false (.tv qn a8))])
def JI (N:Nat) (a0:List qb) (a1:List qb) (a2:Nat) (a3:List (Int×qd×Nat)) (a4:Vector UInt8 16) (a5:qe) (a6:Vector UInt8 16) (a7:qe) (a8:qe):Tree (List qb):=
 .bind (jN [(a0.length,a0.length),(a1.length,a1.length)] (JC N a0 a2 a3 a4 a5 a6 a7 a8 a1 0)) fun z1=>
 .ret z1.1
def ZM (N:Nat) (a0:List qb) (a1:List qb) (a2:Nat) (a3:List (Int×qd×Nat)) (a4:Vector UInt8 16) (a5:qe) (a6:Vector UInt8 16) (a7:qe) (a8:qe):Option (List qb):=(JI N a0 a1 a2 a3 a4 a5 a6 a7 a8).run some
def qeu (N:Nat):List (Nat×qI):=[(1,XW N)]
def YL (N:Nat):Ent:=smF ⟨145,[],[.k (.yl 50080)],[.k (.p 100020 [] 0),.k (.p 100030 [] 0)],[(40,.cell false (.ag [.x (.ba 16),.x qn,.vs 45])),(45,.vec false 4),(70,.cell false (.ag [.x (.ba 16),.x qn,.vs 75])),(75,.vec false 4),(250,.map (.i .i64) qo),(50080,.loop [44] 52 [(4,.k (.p 40 [] 0)),(7,.k (.p 70 [] 0)),(43,.fn 145 [] [.k (.p 100020 [] 0),.k (.p 100030 [] 0)])] 11300008 113 .ready none 50081),(50081,.dfr true),(100020,.cell false (.k (.m 250))),(100030,.cell false (.x qn))]⟩ [(.sl 4 qC),(.sl 4 qC),.nat,(Xh (.i .i64) qo),(.ba 16),qn,(.ba 16),qn,qn] (List qb) (fun x=>ZM N x.1 x.2.1 x.2.2.1 x.2.2.2.1 x.2.2.2.2.1 x.2.2.2.2.2.1 x.2.2.2.2.2.2.1 x.2.2.2.2.2.2.2.1 x.2.2.2.2.2.2.2.2.1) cs1 fun x=>qeq x.1 x.2.2.1 x.2.2.2.1 x.2.2.2.2.1 x.2.2.2.2.2.1 x.2.2.2.2.2.2.1 x.2.2.2.2.2.2.2.1 x.2.2.2.2.2.2.2.2.1
theorem qd2 (N:Nat):zd Tryz.prog (YL N):=
 q9 (H:=JF) (L:=qR (qeu N)) (ts:=[(.sl 4 qC),(.sl 4 qC),.nat,(Xh (.i .i64) qo),(.ba 16),qn,(.ba 16),qn,qn]) (T:=fun x=>JI N x.1 x.2.1 x.2.2.1 x.2.2.2.1 x.2.2.2.2.1 x.2.2.2.2.2.1 x.2.2.2.2.2.2.1 x.2.2.2.2.2.2.2.1 x.2.2.2.2.2.2.2.2.1) 1 qBV (Ws N) (qu (by kernel_rfl) ⟨qbT N,trivial⟩) (rg0 (by kernel_rfl)) fun x=>by kernel_rfl
noncomputable def qA4:Code:=Tryz.f113.body.getD .skip
theorem qCc:FnF Tryz.prog 113 Tryz.f113 qA4:=⟨qj,by kernel_rfl,by kernel_rfl,by kernel_rfl⟩
def qzY:TH:={ live:=[(0,[2,3,4]),(1,[2,3,4,23]),(2,[4,5]),(3,[2,3,4,6]),(4,[2,3,4,6]),(5,[2,3,4,6]),(6,[4,6,7]),(7,[4,7,43]),(8,[7,8]),(10,[4,5])],dec:=[12,17],fresh:=[43],nil:=[(0,[⟨.ob 40 [2],45,(.sl 4 qC)⟩]),(2,[⟨.ob 40 [2],45,(.sl 4 qC)⟩]),(6,[⟨.ob 70 [2],75,(.sl 4 qC)⟩])] }
def qAq (N:Nat):List Ent:=[qeW N,qbS N,qm8 N,K0,YL N]
theorem qt4 (N:Nat):qT Tryz.prog (qAq N):=⟨qhM N,qje N,qvE N,qfT,qd2 N,trivial⟩
def qAe (z:qa×Bool):TV×THp:=(.tup [.tv qi (z.1:qa),xb z.2],[])
def qhn (N:Nat) (a0:qa) (a1:qa):Tree (qa×Bool):=
 .bind (qbv N a0) fun r1=>
 .cond (!r1) (
 .chk (0=0) <|
 .ret (qa.mk ((Vector.replicate 16 0)) (qe.mk 0 0) [],false)) <|
 .bind (qbv N a1) fun r2=>
 .cond (!r2) (
 .chk (0=0) <|
 .ret (qa.mk ((Vector.replicate 16 0)) (qe.mk 0 0) [],false)) <|
 .cond (!(eqE (.ba 16) (qa.ID a0) (qa.ID a1))) (
 .chk (0=0) <|
 .ret (qa.mk ((Vector.replicate 16 0)) (qe.mk 0 0) [],false)) <|
 .bind (Jq N 0 [] a0) fun r3=>
 .bind (Jq N r3.1 r3.2 a1) fun r4=>
 .bind (qeG N (qa.zq a0) (qa.zq a1)) fun r5=>
 .bind (qa_ r4.1 r4.2 r5) fun r6=>
 .bind (jN [(([]:List qb).length,0),(([]:List qb).length,0)] (ZM N [] [] r4.1 r4.2 ((Vector.replicate 16 0)) (qe.mk 0 0) (qa.ID a0) r5 r5)) fun r7=>
 .chk (r7.length=r7.length) <|
 .ret (qa.mk (qa.ID a0) r5 r7,true)
def qh5 (N:Nat) (a0:qa) (a1:qa):Option (qa×Bool):=(qhn N a0 a1).run some
def qyY (N:Nat):List (Nat×qI):=[]
def qpZ (N:Nat):Ent:=smF ⟨113,[],[.x qi,.x qi],[],[]⟩ [qi,qi] (qa×Bool) (fun x=>qh5 N x.1 x.2.1) cs1 fun _=>qAe
theorem qw1 (N:Nat):zd Tryz.prog (qpZ N):=
 q9 (H:=qzY) (L:=qR (qyY N)) (ts:=[qi,qi]) (T:=fun x=>qhn N x.1 x.2.1) 0 qCc (qt4 N) (qu (by kernel_rfl) trivial) (rgs (by kernel_rfl)) fun x=>by kernel_rfl
noncomputable def qDa:Code:=Tryz.f155.body.getD .skip
theorem qBW:FnF Tryz.prog 155 Tryz.f155 qDa:=⟨qj,by kernel_rfl,by kernel_rfl,by kernel_rfl⟩
def qmr:TH:={ live:=[(0,[0,2]),(1,[0,2,4]),(2,[0]),(3,[0,2]),(4,[0,2,8]),(5,[0,2]),(6,[0,2]),(7,[0,2,14]),(8,[0,2]),(9,[0,2]),(10,[2])] }
def ql7 (N:Nat):List Ent:=[]
theorem qi8 (N:Nat):qT Tryz.prog (ql7 N):=trivial
def qmg (z:Int):TV×THp:=(xi z,[])
def qcV (a0:Int):Tree (Int):=
 .cond (decide (((4294967296:Int))≤a0)) (
 .chk (0≤(32:Int)) <|
 .cond (decide (65536≤(Zv a0 32))) (
 .chk (0≤(16:Int)) <|
 .cond (decide (256≤(Zv (Zv a0 32) 16))) (
 .chk (0≤(8:Int)) <|
 let w1:Int:=IntKind.u8.wrap (Zv (Zv (Zv a0 32) 16) 8)
 .bind (zi qk9 w1) fun e2=>
 .chk (qy ((e2.toNat:Nat):Int)) <|
 .chk (qy (((56:Int)) + ((e2.toNat:Nat):Int))) <|
 .ret (((56:Int)) + ((e2.toNat:Nat):Int))) <|
 .bind (zi qk9 (IntKind.u8.wrap (Zv (Zv a0 32) 16))) fun e1=>
 .chk (qy ((e1.toNat:Nat):Int)) <|
 .chk (qy (((48:Int)) + ((e1.toNat:Nat):Int))) <|
 .ret (((48:Int)) + ((e1.toNat:Nat):Int))) <|
 .cond (decide (256≤(Zv a0 32))) (
 .chk (0≤(8:Int)) <|
 .bind (zi qk9 (IntKind.u8.wrap (Zv (Zv a0 32) 8))) fun e1=>
 .chk (qy ((e1.toNat:Nat):Int)) <|
 .chk (qy (((40:Int)) + ((e1.toNat:Nat):Int))) <|
 .ret (((40:Int)) + ((e1.toNat:Nat):Int))) <|
 .bind (zi qk9 (IntKind.u8.wrap (Zv a0 32))) fun e1=>
 .chk (qy ((e1.toNat:Nat):Int)) <|
 .chk (qy (((32:Int)) + ((e1.toNat:Nat):Int))) <|
 .ret (((32:Int)) + ((e1.toNat:Nat):Int))) <|
 .cond (decide (((65536:Int))≤a0)) (
 .chk (0≤(16:Int)) <|
 .cond (decide (256≤(Zv a0 16))) (
 .chk (0≤(8:Int)) <|
 .bind (zi qk9 (IntKind.u8.wrap (Zv (Zv a0 16) 8))) fun e1=>
 .chk (qy ((e1.toNat:Nat):Int)) <|
 .chk (qy (((24:Int)) + ((e1.toNat:Nat):Int))) <|
 .ret (((24:Int)) + ((e1.toNat:Nat):Int))) <|
 .bind (zi qk9 (IntKind.u8.wrap (Zv a0 16))) fun e1=>
 .chk (qy ((e1.toNat:Nat):Int)) <|
 .chk (qy (((16:Int)) + ((e1.toNat:Nat):Int))) <|
 .ret (((16:Int)) + ((e1.toNat:Nat):Int))) <|
 .cond (decide (((256:Int))≤a0)) (
 .chk (0≤(8:Int)) <|
 .bind (zi qk9 (IntKind.u8.wrap (Zv a0 8))) fun e1=>
 .chk (qy ((e1.toNat:Nat):Int)) <|
 .chk (qy (((8:Int)) + ((e1.toNat:Nat):Int))) <|
 .ret (((8:Int)) + ((e1.toNat:Nat):Int))) <|
 .bind (zi qk9 (IntKind.u8.wrap a0)) fun e1=>
 .chk (qy ((e1.toNat:Nat):Int)) <|
 .chk (qy (((0:Int)) + ((e1.toNat:Nat):Int))) <|
 .ret (((0:Int)) + ((e1.toNat:Nat):Int))
def qeF (a0:Int):Option (Int):=(qcV a0).run some
def qmq:List (Nat×qI):=[]
def qcT:Ent:=smF ⟨155,[],[.x (.i .u64)],[],[]⟩ [(.i .u64)] (Int) (fun x=>qeF x.1) cs1 fun _=>qmg
theorem qkQ:zd Tryz.prog (qcT):=
 q9 (H:=qmr) (L:=qR (qmq)) (ts:=[(.i .u64)]) (T:=fun x=>qcV x.1) 0 qBW (qi8 0) (qu (by kernel_rfl) trivial) (rg0 (by kernel_rfl)) fun x=>by kernel_rfl
noncomputable def qBx:Code:=Tryz.f134.body.getD .skip
theorem qBy:FnF Tryz.prog 134 Tryz.f134 qBx:=⟨qj,by kernel_rfl,by kernel_rfl,by kernel_rfl⟩
def qpz:TH:={ live:=[(0,[0]),(1,[2]),(2,[2])] }
def qoS (N:Nat):List Ent:=[qcT]
theorem qmu (N:Nat):qT Tryz.prog (qoS N):=⟨qkQ,trivial⟩
def qoG (z:Int):TV×THp:=(xi z,[])
def qfa (a0:Int):Tree (Int):=
 .bind (qeF a0) fun r1=>
 .ret r1
def Km (a0:Int):Option (Int):=(qfa a0).run some
def qpA:List (Nat×qI):=[]
def qeL:Ent:=smF ⟨134,[],[.x (.i .u64)],[],[]⟩ [(.i .u64)] (Int) (fun x=>Km x.1) cs1 fun _=>qoG
theorem qnh:zd Tryz.prog (qeL):=
 q9 (H:=qpz) (L:=qR (qpA)) (ts:=[(.i .u64)]) (T:=fun x=>qfa x.1) 0 qBy (qmu 0) (qu (by kernel_rfl) trivial) (rg0 (by kernel_rfl)) fun x=>by kernel_rfl
noncomputable def qAQ:Code:=Tryz.f115.body.getD .skip
theorem qCK:FnF Tryz.prog 115 Tryz.f115 qAQ:=⟨qj,by kernel_rfl,by kernel_rfl,by kernel_rfl⟩
def qqH:TH:={ live:=[(0,[2,3]),(1,[4])] }
def qri (N:Nat):List Ent:=[Wk]
theorem qom (N:Nat):qT Tryz.prog (qri N):=⟨KN,trivial⟩
def qrH (z:Int):TV×THp:=(xi z,[])
def qgI (a0:Vector UInt8 16) (a1:Vector UInt8 16):Tree (Int):=
 .bind (XR a0.toList a1.toList) fun r1=>
 .ret r1
def qd3 (a0:Vector UInt8 16) (a1:Vector UInt8 16):Option (Int):=(qgI a0 a1).run some
def qrm:List (Nat×qI):=[]
def qgp:Ent:=smF ⟨115,[],[.x (.ba 16),.x (.ba 16)],[],[]⟩ [(.ba 16),(.ba 16)] (Int) (fun x=>qd3 x.1 x.2.1) cs1 fun _=>qrH
theorem qp1:zd Tryz.prog (qgp):=
 q9 (H:=qqH) (L:=qR (qrm)) (ts:=[(.ba 16),(.ba 16)]) (T:=fun x=>qgI x.1 x.2.1) 0 qCK (qom 0) (qu (by kernel_rfl) trivial) (rg0 (by kernel_rfl)) fun x=>by kernel_rfl
noncomputable def qch:Code:=Tryz.f146.body.getD .skip
theorem qDm:FnF Tryz.prog 146 Tryz.f146 qch:=⟨qj,by kernel_rfl,by kernel_rfl,by kernel_rfl⟩
def jh:TH:={ live:=[(0,[0,1,2,3,8]),(1,[0,1,2,3,8,14]),(2,[0,1,2,3,8]),(3,[0,1,2,3,8,9]),(4,[0,1,2,3,8,9,34]),(5,[0,1,2,3,8,9]),(6,[0,1,2,3,8,9])],dec:=[21] }
def Qj (N:Nat):List Ent:=[qgp]
theorem vO (N:Nat):qT Tryz.prog (Qj N):=⟨qp1,trivial⟩
abbrev ju:=Nat×Int×Int×Int
abbrev zB:=List (Vector UInt8 16)×Int×Bool
def z9 (f:ju) (y:zB):Ex×TSt:=(.exit 2,⟨1,53,[75],[(0,.v 75 f.1),(1,xi f.2.1),(2,xi f.2.2.1),(3,.fn (.func 115) [] []),(8,xi f.2.2.2),(9,xi y.2.1),(34,xb y.2.2)],[(75,.vec false 16 (.sl 16 (.ba 16)) (y.1:List (Vector UInt8 16)))],false,[]⟩)
def Yi (N:Nat):List (Nat×qI):=[]
abbrev zZ:=List (Vector UInt8 16)×Int
def ZD:SP:=⟨1,53,[75],[(0,.v 75),(1,.x (.i .i64)),(2,.x (.i .i64)),(3,.fn 115 [] []),(8,.x (.i .i64)),(9,.x (.i .i64))],[(75,.vec false 16)],false,[]⟩
def Ym (f:ju) (v:zZ):TSt:=jn ZD [dv (.sl 16 (.ba 16)) v.1,dv .nat f.1,dv (.i .i64) f.2.1,dv (.i .i64) f.2.2.1,dv (.i .i64) f.2.2.2,dv (.i .i64) v.2]
def zY (N:Nat) (s0_4:Nat) (s1_4:Int) (s2_4:Int) (s8_4:Int) (v:zZ):Tree (zZ⊕zB):=
 .cond (decide (s1_4 < v.2)) (
 .chk (0≤v.2∧v.2 < ((s0_4:Nat):Int)) <|
 .bind (YT v.1 s0_4 v.2.toNat) fun e1=>
 .chk (qy (v.2 - 1)) <|
 .chk (0≤(v.2 - 1)∧(v.2 - 1) < ((s0_4:Nat):Int)) <|
 .bind (YT v.1 s0_4 ((v.2 - 1).toNat)) fun e2=>
 .bind (qd3 e1 e2) fun r3=>
 .cond (decide (r3 < ((0:Int)))) (
 .chk (qy (v.2 - 1)) <|
 .chk (qy (v.2 - 1)) <|
 .chk (0≤(v.2 - 1)∧(v.2 - 1) < ((s0_4:Nat):Int)) <|
 .bind (YT v.1 s0_4 ((v.2 - 1).toNat)) fun e4=>
 .chk (0≤v.2∧v.2 < ((s0_4:Nat):Int)) <|
 .bind (YT v.1 s0_4 v.2.toNat) fun e5=>
 .chk (0≤v.2∧v.2 < ((s0_4:Nat):Int)) <|
 .chk (qfd v.1.length s0_4 v.2.toNat) <|
 .chk (0≤(v.2 - 1)∧(v.2 - 1) < ((s0_4:Nat):Int)) <|
 .chk (qfd ((v.1.set v.2.toNat e4).length) s0_4 ((v.2 - 1).toNat)) <|
 .chk (qy (v.2 - 1)) <|
 .ret (.inl ((v.1.set v.2.toNat e4).set ((v.2 - 1).toNat) e5,v.2 - 1))) <|
 .ret (.inr (v.1,v.2,decide (r3 < ((0:Int)))))) <|
 .ret (.inr (v.1,v.2,false))
def ZP (N n:Nat) (f:ju) (v:zZ):Option zB:=q0 (zY N f.1 f.2.1 f.2.2.1 f.2.2.2) some n v
theorem Yx (N:Nat) (f:ju) (n:Nat) (v:zZ) (y:zB) (h:ZP N n f v=some y):LG Tryz.prog jh 146 (q_ (q_ qch 1) 4) (Ym f v) (z9 f y):=
 zW qj (E:=Qj N) (L:=qR (Yi N)) (st:=z9 f) (g:=some) (R:=z9 f) (vO N) (qu (by kernel_rfl) trivial) (rg0 (by kernel_rfl)) (fun v=>by kernel_rfl) (zj (st:=z9 f) fun y=>by rfl) n v y h
def Jb (N:Nat) (s0_4:Nat) (s1_4:Int) (s2_4:Int) (s8_4:Int) (o_4:List (Vector UInt8 16)) (s9_4:Int):Option zB:=ZP N N (s0_4,s1_4,s2_4,s8_4) (o_4,s9_4)
def ZO (N:Nat):qI:=smL ZD [(.sl 16 (.ba 16)),.nat,(.i .i64),(.i .i64),(.i .i64),(.i .i64)] zB (fun x=>Jb N x.2.1 x.2.2.1 x.2.2.2.1 x.2.2.2.2.1 x.1 x.2.2.2.2.2.1) cs1 fun x=>z9 (x.2.1,x.2.2.1,x.2.2.2.1,x.2.2.2.2.1)
theorem WJ (N:Nat):v3 Tryz.prog jh 146 (q_ (q_ qch 1) 4) (ZO N):=js fun x z h=>Yx N (x.2.1,x.2.2.1,x.2.2.2.1,x.2.2.2.2.1) N (x.1,x.2.2.2.2.2.1) z h
abbrev jt:=Nat×Int×Int
abbrev zC:=List (Vector UInt8 16)×Int×Bool
def zV (f:jt) (y:zC):Ex×TSt:=(.exit 0,⟨1,53,[75],[(0,.v 75 f.1),(1,xi f.2.1),(2,xi f.2.2),(3,.fn (.func 115) [] []),(8,xi y.2.1),(14,xb y.2.2)],[(75,.vec false 16 (.sl 16 (.ba 16)) (y.1:List (Vector UInt8 16)))],false,[]⟩)
def Yo (N:Nat):List (Nat×qI):=[(4,ZO N)]
abbrev zX:=List (Vector UInt8 16)×Int
def ZA:SP:=⟨1,53,[75],[(0,.v 75),(1,.x (.i .i64)),(2,.x (.i .i64)),(3,.fn 115 [] []),(8,.x (.i .i64))],[(75,.vec false 16)],false,[]⟩
def Yy (f:jt) (v:zX):TSt:=jn ZA [dv (.sl 16 (.ba 16)) v.1,dv .nat f.1,dv (.i .i64) f.2.1,dv (.i .i64) f.2.2,dv (.i .i64) v.2]
def zr (N:Nat) (s0_1:Nat) (s1_1:Int) (s2_1:Int) (v:zX):Tree (zX⊕zC):=
 .cond (decide (v.2 < s2_1)) (
 .bind (Jb N s0_1 s1_1 s2_1 v.2 v.1 v.2) fun z1=>
 .chk (qy (v.2 + 1)) <|
 .ret (.inl (z1.1,v.2 + 1))) <|
 .ret (.inr (v.1,v.2,decide (v.2 < s2_1)))
def ZE (N n:Nat) (f:jt) (v:zX):Option zC:=q0 (zr N f.1 f.2.1 f.2.2) some n v
theorem Yw (N:Nat) (f:jt) (n:Nat) (v:zX) (y:zC) (h:ZE N n f v=some y):LG Tryz.prog jh 146 (q_ qch 1) (Yy f v) (zV f y):=
 zW qj (E:=Qj N) (L:=qR (Yo N)) (st:=zV f) (g:=some) (R:=zV f) (vO N) (qu (by kernel_rfl) ⟨WJ N,trivial⟩) (rg0 (by kernel_rfl)) (fun v=>by kernel_rfl) (zj (st:=zV f) fun y=>by rfl) n v y h
def jH (N:Nat) (s0_1:Nat) (s1_1:Int) (s2_1:Int) (o_1:List (Vector UInt8 16)) (s8_1:Int):Option zC:=ZE N N (s0_1,s1_1,s2_1) (o_1,s8_1)
def ZK (N:Nat):qI:=smL ZA [(.sl 16 (.ba 16)),.nat,(.i .i64),(.i .i64),(.i .i64)] zC (fun x=>jH N x.2.1 x.2.2.1 x.2.2.2.1 x.1 x.2.2.2.2.1) cs1 fun x=>zV (x.2.1,x.2.2.1,x.2.2.2.1)
theorem WW (N:Nat):v3 Tryz.prog jh 146 (q_ qch 1) (ZK N):=js fun x z h=>Yw N (x.2.1,x.2.2.1,x.2.2.2.1) N (x.1,x.2.2.2.2.1) z h
def KC (z:List (Vector UInt8 16)):TV×THp:=(.tup [],[(75,.vec false 16 (.sl 16 (.ba 16)) z)])
def jO (N:Nat) (a0:List (Vector UInt8 16)) (a1:Int) (a2:Int):Tree (List (Vector UInt8 16)):=
 .chk (qy (a1 + 1)) <|
 .bind (jH N a0.length a1 a2 a0 (a1 + 1)) fun z1=>
 .ret z1.1
def zH (N:Nat) (a0:List (Vector UInt8 16)) (a1:Int) (a2:Int):Option (List (Vector UInt8 16)):=(jO N a0 a1 a2).run some
def KK (N:Nat):List (Nat×qI):=[(1,ZK N)]
def Jn (N:Nat):Ent:=smF ⟨146,[],[.vs 75,.x (.i .i64),.x (.i .i64),.fn 115 [] []],[],[(75,.vec false 16)]⟩ [(.sl 16 (.ba 16)),(.i .i64),(.i .i64)] (List (Vector UInt8 16)) (fun x=>zH N x.1 x.2.1 x.2.2.1) cs1 fun _=>KC
theorem YZ (N:Nat):zd Tryz.prog (Jn N):=
 q9 (H:=jh) (L:=qR (KK N)) (ts:=[(.sl 16 (.ba 16)),(.i .i64),(.i .i64)]) (T:=fun x=>jO N x.1 x.2.1 x.2.2.1) 0 qDm (vO N) (qu (by kernel_rfl) ⟨WW N,trivial⟩) (rg0 (by kernel_rfl)) fun x=>by kernel_rfl
noncomputable def qlh:Code:=Tryz.f133.body.getD .skip
theorem qAM:FnF Tryz.prog 133 Tryz.f133 qlh:=⟨qj,by kernel_rfl,by kernel_rfl,by kernel_rfl⟩
def ZW:TH:={ live:=[(0,[0,1,2,3,4,10]),(1,[0,1,2,3,4,10,11]),(2,[0,1,2,3,4,10,11,12]),(3,[0,1,2,3,4,10,11,12,25]),(5,[0,1,2,3,4,10,11,12,32]),(7,[0,1,2,3,4,10,11,12,39]),(8,[0,1,2,3,4,10,11,12]),(9,[0,1,2,3,4,10,11,12]),(10,[0,1,2,3,4,10,11,12,13,14]),(11,[0,1,2,3,4,10,11,12,13,14,56]),(12,[0,1,2,3,4,10,11,12,13]),(13,[0,1,2,3,4,10,11,12,13]),(14,[0,1,2,3,4,10,11,12,13,14]),(15,[0,1,2,3,4,10,11,12,13,75]),(16,[0,1,2,3,4,10,11,12,13,80]),(17,[0,1,2,3,4,10,11,12,13,97]),(18,[0,2,3,4,10,11,15]),(19,[0,1,2,3,4,10,11]),(20,[0,1,2,3,4,12,16,17]),(21,[0,1,2,3,4,11,12,16]),(22,[0,1,2,3,4,11,12,16,18,19]),(23,[0,1,2,3,4,11,16,18,19,20]),(24,[0,1,2,3,4,11,16,18,19,20,125]),(25,[0,1,2,3,4,10,11,16]),(26,[0,2,3,4,10,11,16]),(27,[0,1,2,3,4,10,11]),(28,[0,1,2,3,4,10,11,16]),(29,[0,1,3,4,10,11,16]),(30,[0,1,2,3,4,10,11])],dec:=[69,72,83],raw:=[146] }
def XJ (N:Nat):List Ent:=[Jn N]
theorem VO (N:Nat):qT Tryz.prog (XJ N):=⟨YZ N,trivial⟩
abbrev vv:=List (Vector UInt8 16)×Int×Int×Int
abbrev ja:=List (Vector UInt8 16)
def jz (f:vv) (y:ja):Ex×TSt:=(.ret,⟨1,148,[75],[],[(75,.vec false 16 (.sl 16 (.ba 16)) y)],false,[]⟩)
def qa3 (N:Nat):List (Nat×qI):=[]
abbrev jy:=Unit
def Vk:SP:=⟨1,148,[75],[(0,.vs 75),(1,.x (.i .i64)),(2,.x (.i .i64)),(3,.x (.i .i64)),(4,.fn 115 [] []),(10,.k (.bc true)),(11,.k (.bc true))],[(75,.vec false 16)],false,[]⟩
def qa5 (f:vv) (v:jy):TSt:=jn Vk [dv (.sl 16 (.ba 16)) f.1,dv (.i .i64) f.2.1,dv (.i .i64) f.2.2.1,dv (.i .i64) f.2.2.2]
def vu (N:Nat) (o_2:List (Vector UInt8 16)) (s1_2:Int) (s2_2:Int) (s3_2:Int) (v:jy):Tree (jy⊕ja):=
 .chk (qy (s2_2 - s1_2)) <|
 .cond (decide ((s2_2 - s1_2)≤12)) (
 .bind (jN [(o_2.length,o_2.length)] (zH N o_2 s1_2 s2_2)) fun r1=>
 .ret (.inr r1)) <|
 .cond (decide (s3_2=((0:Int)))) (
 .chk (o_2.length=o_2.length) <|
 .no) <|
 .chk (o_2.length=o_2.length) <|
 .no
def Vl (N n:Nat) (f:vv) (v:jy):Option ja:=q0 (vu N f.1 f.2.1 f.2.2.1 f.2.2.2) some n v
theorem qa4 (N:Nat) (f:vv) (n:Nat) (v:jy) (y:ja) (h:Vl N n f v=some y):LG Tryz.prog ZW 133 (q_ qlh 2) (qa5 f v) (jz f y):=
 zW qj (E:=XJ N) (L:=qR (qa3 N)) (st:=jz f) (g:=some) (R:=jz f) (VO N) (qu (by kernel_rfl) trivial) (rg0 (by kernel_rfl)) (fun v=>by kernel_rfl) (zj (st:=jz f) fun y=>by rfl) n v y h
def Zx (N:Nat) (o_2:List (Vector UInt8 16)) (s1_2:Int) (s2_2:Int) (s3_2:Int):Option ja:=Vl N N (o_2,s1_2,s2_2,s3_2) ()
def Vm (N:Nat):qI:=smL Vk [(.sl 16 (.ba 16)),(.i .i64),(.i .i64),(.i .i64)] ja (fun x=>Zx N x.1 x.2.1 x.2.2.1 x.2.2.2.1) cs1 fun x=>jz (x.1,x.2.1,x.2.2.1,x.2.2.2.1)
theorem qa0 (N:Nat):v3 Tryz.prog ZW 133 (q_ qlh 2) (Vm N):=js fun x z h=>qa4 N (x.1,x.2.1,x.2.2.1,x.2.2.2.1) N () z h
def qcK (z:List (Vector UInt8 16)):TV×THp:=(.tup [],[(75,.vec false 16 (.sl 16 (.ba 16)) z)])
def ZS (N:Nat) (a0:List (Vector UInt8 16)) (a1:Int) (a2:Int) (a3:Int):Tree (List (Vector UInt8 16)):=
 .bind (jN [(a0.length,a0.length)] (Zx N a0 a1 a2 a3)) fun z1=>
 .ret z1
def QK (N:Nat) (a0:List (Vector UInt8 16)) (a1:Int) (a2:Int) (a3:Int):Option (List (Vector UInt8 16)):=(ZS N a0 a1 a2 a3).run some
def qcu (N:Nat):List (Nat×qI):=[(2,Vm N)]
def XS (N:Nat):Ent:=smF ⟨133,[],[.vs 75,.x (.i .i64),.x (.i .i64),.x (.i .i64),.fn 115 [] []],[],[(75,.vec false 16)]⟩ [(.sl 16 (.ba 16)),(.i .i64),(.i .i64),(.i .i64)] (List (Vector UInt8 16)) (fun x=>QK N x.1 x.2.1 x.2.2.1 x.2.2.2.1) cs1 fun _=>qcK
theorem qcj (N:Nat):zd Tryz.prog (XS N):=
 q9 (H:=ZW) (L:=qR (qcu N)) (ts:=[(.sl 16 (.ba 16)),(.i .i64),(.i .i64),(.i .i64)]) (T:=fun x=>ZS N x.1 x.2.1 x.2.2.1 x.2.2.2.1) 0 qAM (VO N) (qu (by kernel_rfl) ⟨qa0 N,trivial⟩) (rg0 (by kernel_rfl)) fun x=>by kernel_rfl
noncomputable def qA9:Code:=Tryz.f114.body.getD .skip
theorem qBd:FnF Tryz.prog 114 Tryz.f114 qA9:=⟨qj,by kernel_rfl,by kernel_rfl,by kernel_rfl⟩
def qhX:TH:={ live:=[(0,[0,1,4])],raw:=[133] }
def qhQ (N:Nat):List Ent:=[qeL,XS N]
theorem qf1 (N:Nat):qT Tryz.prog (qhQ N):=⟨qnh,qcj N,trivial⟩
def qii (z:List (Vector UInt8 16)):TV×THp:=(.tup [],[(75,.vec false 16 (.sl 16 (.ba 16)) z)])
def XD (N:Nat) (a0:List (Vector UInt8 16)):Tree (List (Vector UInt8 16)):=
 let w1:Int:=IntKind.u64.wrap ((a0.length:Nat):Int)
 .bind (Km w1) fun r2=>
 .bind (jN [(a0.length,a0.length)] (QK N a0 0 ((a0.length:Nat):Int) r2)) fun r3=>
 .ret r3
def JY (N:Nat) (a0:List (Vector UInt8 16)):Option (List (Vector UInt8 16)):=(XD N a0).run some
def qh_ (N:Nat):List (Nat×qI):=[]
def qaD (N:Nat):Ent:=smF ⟨114,[],[.vs 75,.fn 115 [] []],[],[(75,.vec false 16)]⟩ [(.sl 16 (.ba 16))] (List (Vector UInt8 16)) (fun x=>JY N x.1) cs1 fun _=>qii
theorem qhc (N:Nat):zd Tryz.prog (qaD N):=
 q9 (H:=qhX) (L:=qR (qh_ N)) (ts:=[(.sl 16 (.ba 16))]) (T:=fun x=>XD N x.1) 0 qBd (qf1 N) (qu (by kernel_rfl) trivial) (rg0 (by kernel_rfl)) fun x=>by kernel_rfl
noncomputable def qd0:Code:=Tryz.f83.body.getD .skip
theorem qFy:FnF Tryz.prog 83 Tryz.f83 qd0:=⟨qj,by kernel_rfl,by kernel_rfl,by kernel_rfl⟩
def Kg:TH:={ live:=[(0,[2,3,4]),(1,[2,3,4,22]),(2,[4,5]),(3,[2,3,4,6]),(4,[2,3,4,6,7]),(5,[4,6,7,30,31,32]),(6,[4,6,7,30,31,32,33]),(7,[4,6,7,9,30,31,32]),(8,[4,6,7,9,10,11,30,31,32]),(9,[4,6,7,9,10,30,31,32,44]),(10,[4,6,7,9,30,31,32]),(11,[4,6,7,30,31,32]),(12,[4,6,7,30,31,32]),(13,[4,6,7,30,31,32]),(14,[4,6,7,67]),(15,[4,5]),(16,[4,6,7]),(17,[4,6,7,12]),(18,[4,6,12,71,72,73]),(19,[4,6,12,71,72,73,74]),(20,[4,6,12,14,71,72,73]),(21,[4,6,12,71,72,73]),(22,[4,6,12,71,72,73]),(23,[4,5])],dec:=[18],raw:=[114],nil:=[(0,[⟨.ob 40 [0],43,(.sl 19 qi)⟩]),(2,[⟨.ob 40 [0],43,(.sl 19 qi)⟩]),(4,[⟨.sl 7,75,(.sl 16 (.ba 16))⟩]),(8,[⟨.ob 100 [2],105,(.sl 4 qC)⟩]),(15,[⟨.ob 40 [0],43,(.sl 19 qi)⟩]),(17,[⟨.ob 120 [0],123,(.sl 19 qi)⟩])] }
def qfB (N:Nat):List Ent:=[qas N,qa7 N,qim,qpZ N,qaD N]
theorem qcB (N:Nat):qT Tryz.prog (qfB N):=⟨qbH N,qil N,qmI,qw1 N,qhc N,trivial⟩
abbrev Yn:=List qa×List qa×Int
abbrev Jk:=List (Vector UInt8 16)×Nat×List (Vector UInt8 16×qa×Nat)×Int×Bool
def VB (f:Yn) (y:Jk):Ex×TSt:=(.exit 0,⟨0,87,[],[(4,.p 40 [] 0),(6,.m 240),(7,.v 75 y.1.length),(30,.tv (.sl 19 qi) f.2.1),(31,xi f.2.2),(32,xi y.2.2.2.1),(33,xb y.2.2.2.2)],[(40,.cell false (.ag [.v 43 f.1.length])),(43,.vec false 19 (.sl 19 qi) f.1),(75,.vec false 16 (.sl 16 (.ba 16)) (y.1:List (Vector UInt8 16))),(240,.map y.2.1 (.ba 16) qi (y.2.2.1:List (Vector UInt8 16×qa×Nat)))],false,[]⟩)
def qqM (N:Nat):List (Nat×qI):=[]
abbrev VU:=List (Vector UInt8 16)×Nat×List (Vector UInt8 16×qa×Nat)×Int
def qgP:SP:=⟨0,87,[],[(4,.k (.p 40 [] 0)),(6,.k (.m 240)),(7,.vs 75),(30,.x (.sl 19 qi)),(31,.x (.i .i64)),(32,.x (.i .i64))],[(40,.cell false (.ag [.vs 43])),(43,.vec false 19),(75,.vec false 16),(240,.map (.ba 16) qi)],false,[]⟩
def qq7 (f:Yn) (v:VU):TSt:=jn qgP [dv (.sl 19 qi) f.1,dv (.sl 16 (.ba 16)) v.1,dv .nat v.2.1,dv (Xh (.ba 16) qi) v.2.2.1,dv (.sl 19 qi) f.2.1,dv (.i .i64) f.2.2,dv (.i .i64) v.2.2.2]
def Vu (N:Nat) (o_6:List qa) (s30_6:List qa) (s31_6:Int) (v:VU):Tree (VU⊕Jk):=
 .cond (decide (v.2.2.2 < s31_6)) (
 .bind (zi s30_6 v.2.2.2) fun e1=>
 .opt (fnd (β:=qa) (.ba 16) (qa.ID e1) v.2.2.1) (
 .chk (Vc v.1.length v.1.length ((v.1++[qa.ID e1]).length) 16) <|
 .bind (KM e1) fun r3=>
 .chk (qy (v.2.2.2 + 1)) <|
 .ret (.inl (v.1++[qa.ID e1],(Qz (.ba 16) (qa.ID e1) (qa.mk (qa.ID e1) (qa.zq e1) ((([]:List qb))++(qa.F e1))) v.2.1 v.2.2.1).1,(Qz (.ba 16) (qa.ID e1) (qa.mk (qa.ID e1) (qa.zq e1) ((([]:List qb))++(qa.F e1))) v.2.1 v.2.2.1).2,v.2.2.2 + 1))) fun e2=>
 .bind (qh5 N e2.1 e1) fun r3=>
 .chk (qy (v.2.2.2 + 1)) <|
 .ret (.inl (v.1,(Qz (.ba 16) (qa.ID e1) r3.1 v.2.1 v.2.2.1).1,(Qz (.ba 16) (qa.ID e1) r3.1 v.2.1 v.2.2.1).2,v.2.2.2 + 1))) <|
 .ret (.inr (v.1,v.2.1,v.2.2.1,v.2.2.2,decide (v.2.2.2 < s31_6)))
def qgj (N n:Nat) (f:Yn) (v:VU):Option Jk:=q0 (Vu N f.1 f.2.1 f.2.2) some n v
theorem qqF (N:Nat) (f:Yn) (n:Nat) (v:VU) (y:Jk) (h:qgj N n f v=some y):LG Tryz.prog Kg 83 (q_ qd0 6) (qq7 f v) (VB f y):=
 zW qj (E:=qfB N) (L:=qR (qqM N)) (st:=VB f) (g:=some) (R:=VB f) (qcB N) (qu (by kernel_rfl) trivial) (rg0 (by kernel_rfl)) (fun v=>by kernel_rfl) (zj (st:=VB f) fun y=>by rfl) n v y h
def qdE (N:Nat) (o_6:List qa) (s30_6:List qa) (s31_6:Int) (o_6_2:List (Vector UInt8 16)) (o_6_3:Nat) (o_6_4:List (Vector UInt8 16×qa×Nat)) (s32_6:Int):Option Jk:=qgj N N (o_6,s30_6,s31_6) (o_6_2,o_6_3,o_6_4,s32_6)
def qgG (N:Nat):qI:=smL qgP [(.sl 19 qi),(.sl 16 (.ba 16)),.nat,(Xh (.ba 16) qi),(.sl 19 qi),(.i .i64),(.i .i64)] Jk (fun x=>qdE N x.1 x.2.2.2.2.1 x.2.2.2.2.2.1 x.2.1 x.2.2.1 x.2.2.2.1 x.2.2.2.2.2.2.1) cs1 fun x=>VB (x.1,x.2.2.2.2.1,x.2.2.2.2.2.1)
theorem qpf (N:Nat):v3 Tryz.prog Kg 83 (q_ qd0 6) (qgG N):=js fun x z h=>qqF N (x.1,x.2.2.2.2.1,x.2.2.2.2.2.1) N (x.2.1,x.2.2.1,x.2.2.2.1,x.2.2.2.2.2.2.1) z h
abbrev Wr:=List qa×List (Vector UInt8 16)×Nat×List (Vector UInt8 16×qa×Nat)×Nat×Int
abbrev ZI:=List qa×Int×Bool
def J1 (f:Wr) (y:ZI):Ex×TSt:=(.exit 2,⟨0,87,[],[(4,.p 40 [] 0),(6,.m 240),(12,.p 120 [] 0),(71,.v 75 f.2.2.2.2.1),(72,xi f.2.2.2.2.2),(73,xi y.2.1),(74,xb y.2.2)],[(40,.cell false (.ag [.v 43 f.1.length])),(43,.vec false 19 (.sl 19 qi) f.1),(75,.vec false 16 (.sl 16 (.ba 16)) f.2.1),(120,.cell false (.ag [.v 123 y.1.length])),(123,.vec false 19 (.sl 19 qi) (y.1:List qa)),(240,.map f.2.2.1 (.ba 16) qi f.2.2.2.1)],false,[]⟩)
def qpD (N:Nat):List (Nat×qI):=[]
abbrev JZ:=List qa×Int
def qeH:SP:=⟨0,87,[],[(4,.k (.p 40 [] 0)),(6,.k (.m 240)),(12,.k (.p 120 [] 0)),(71,.v 75),(72,.x (.i .i64)),(73,.x (.i .i64))],[(40,.cell false (.ag [.vs 43])),(43,.vec false 19),(75,.vec false 16),(120,.cell false (.ag [.vs 123])),(123,.vec false 19),(240,.map (.ba 16) qi)],false,[]⟩
def qo5 (f:Wr) (v:JZ):TSt:=jn qeH [dv (.sl 19 qi) f.1,dv (.sl 16 (.ba 16)) f.2.1,dv (.sl 19 qi) v.1,dv .nat f.2.2.1,dv (Xh (.ba 16) qi) f.2.2.2.1,dv .nat f.2.2.2.2.1,dv (.i .i64) f.2.2.2.2.2,dv (.i .i64) v.2]
def Wn (N:Nat) (o_19:List qa) (o_19_2:List (Vector UInt8 16)) (o_19_4:Nat) (o_19_5:List (Vector UInt8 16×qa×Nat)) (s71_19:Nat) (s72_19:Int) (v:JZ):Tree (JZ⊕ZI):=
 .cond (decide (v.2 < s72_19)) (
 .chk (0≤v.2∧v.2 < ((s71_19:Nat):Int)) <|
 .bind (YT o_19_2 s71_19 v.2.toNat) fun e1=>
 .opt (fnd (β:=qa) (.ba 16) e1 o_19_5) (
 .chk (Vc v.1.length v.1.length ((v.1++[qa.mk ((Vector.replicate 16 0)) (qe.mk 0 0) []]).length) 56) <|
 .chk (qy (v.2 + 1)) <|
 .ret (.inl (v.1++[qa.mk ((Vector.replicate 16 0)) (qe.mk 0 0) []],v.2 + 1))) fun e2=>
 .chk (Vc v.1.length v.1.length ((v.1++[e2.1]).length) 56) <|
 .chk (qy (v.2 + 1)) <|
 .ret (.inl (v.1++[e2.1],v.2 + 1))) <|
 .ret (.inr (v.1,v.2,decide (v.2 < s72_19)))
def qeC (N n:Nat) (f:Wr) (v:JZ):Option ZI:=q0 (Wn N f.1 f.2.1 f.2.2.1 f.2.2.2.1 f.2.2.2.2.1 f.2.2.2.2.2) some n v
theorem qo3 (N:Nat) (f:Wr) (n:Nat) (v:JZ) (y:ZI) (h:qeC N n f v=some y):LG Tryz.prog Kg 83 (q_ qd0 19) (qo5 f v) (J1 f y):=
 zW qj (E:=qfB N) (L:=qR (qpD N)) (st:=J1 f) (g:=some) (R:=J1 f) (qcB N) (qu (by kernel_rfl) trivial) (rg0 (by kernel_rfl)) (fun v=>by kernel_rfl) (zj (st:=J1 f) fun y=>by rfl) n v y h
def qcG (N:Nat) (o_19:List qa) (o_19_2:List (Vector UInt8 16)) (o_19_4:Nat) (o_19_5:List (Vector UInt8 16×qa×Nat)) (s71_19:Nat) (s72_19:Int) (o_19_3:List qa) (s73_19:Int):Option ZI:=qeC N N (o_19,o_19_2,o_19_4,o_19_5,s71_19,s72_19) (o_19_3,s73_19)
def qeI (N:Nat):qI:=smL qeH [(.sl 19 qi),(.sl 16 (.ba 16)),(.sl 19 qi),.nat,(Xh (.ba 16) qi),.nat,(.i .i64),(.i .i64)] ZI (fun x=>qcG N x.1 x.2.1 x.2.2.2.1 x.2.2.2.2.1 x.2.2.2.2.2.1 x.2.2.2.2.2.2.1 x.2.2.1 x.2.2.2.2.2.2.2.1) cs1 fun x=>J1 (x.1,x.2.1,x.2.2.2.1,x.2.2.2.2.1,x.2.2.2.2.2.1,x.2.2.2.2.2.2.1)
theorem qop (N:Nat):v3 Tryz.prog Kg 83 (q_ qd0 19) (qeI N):=js fun x z h=>qo3 N (x.1,x.2.1,x.2.2.2.1,x.2.2.2.2.1,x.2.2.2.2.2.1,x.2.2.2.2.2.2.1) N (x.2.2.1,x.2.2.2.2.2.2.2.1) z h
def qwB (z:qc×Int):TV×THp:=(.tup [.tv qQ (z.1:qc),xi z.2],[])
def qbJ (N:Nat) (a0:qc) (a1:qc):Tree (qc×Int):=
 .bind (Xm N a0) fun r1=>
 .cond (!r1) (
 .chk (0=0) <|
 .ret (qc.mk [],1)) <|
 .bind (Xm N a1) fun r2=>
 .cond (!r2) (
 .chk (0=0) <|
 .ret (qc.mk [],1)) <|
 .bind (Vt N [qc.R a0,qc.R a1]) fun r3=>
 .bind (jN [(([]:List qa).length,0),(([]:List (Vector UInt8 16)).length,0)] (qdE N [] r3 ((r3.length:Nat):Int) [] 0 [] 0)) fun z4=>
 .cond (decide (((10:Int)) < ((z4.1.length:Nat):Int))) (
 .chk (0=0) <|
 .ret (qc.mk [],4)) <|
 .bind (jN [(z4.1.length,z4.1.length)] (JY N z4.1)) fun r5=>
 .bind (jN [(([]:List qa).length,0),(([]:List qa).length,0)] (qcG N [] r5 z4.2.1 z4.2.2.1 z4.1.length ((z4.1.length:Nat):Int) [] 0)) fun z6=>
 .chk (z6.1.length=z6.1.length) <|
 .ret (qc.mk z6.1,0)
def VZ (N:Nat) (a0:qc) (a1:qc):Option (qc×Int):=(qbJ N a0 a1).run some
def qxb (N:Nat):List (Nat×qI):=[(6,qgG N),(19,qeI N)]
def qmG (N:Nat):Ent:=smF ⟨83,[],[.x qQ,.x qQ],[],[]⟩ [qQ,qQ] (qc×Int) (fun x=>VZ N x.1 x.2.1) cs1 fun _=>qwB
theorem qvs (N:Nat):zd Tryz.prog (qmG N):=
 q9 (H:=Kg) (L:=qR (qxb N)) (ts:=[qQ,qQ]) (T:=fun x=>qbJ N x.1 x.2.1) 0 qFy (qcB N) (qu (by kernel_rfl) ⟨qpf N,qop N,trivial⟩) (rg0 (by kernel_rfl)) fun x=>by kernel_rfl
noncomputable def qnE:Code:=Tryz.f68.body.getD .skip
theorem qFx:FnF Tryz.prog 68 Tryz.f68 qnE:=⟨qj,by kernel_rfl,by kernel_rfl,by kernel_rfl⟩
def qfj:TH:={ live:=[(0,[2,3,4]),(1,[2,3,4,6]),(2,[2,3,4,6,39]),(3,[4,5]),(4,[2,4,47,48,49]),(5,[2,4,47,48,49,50]),(6,[2,4,8,47,48,49]),(7,[2,4,8,47,48,49,54]),(8,[2,4,9,10,47,48,49]),(9,[2,4,9,10,47,48,49,64]),(10,[4,5]),(11,[2,4,47,48,49]),(12,[2,4,47,48,49]),(13,[4,5])],dec:=[19,23,29,34],nil:=[(0,[⟨.ob 40 [0],43,(.sl 19 qi)⟩]),(3,[⟨.ob 40 [0],43,(.sl 19 qi)⟩]),(10,[⟨.ob 40 [0],43,(.sl 19 qi)⟩])] }
def qm2 (N:Nat):List Ent:=[qas N,qkO,Ke,qeW N,qmG N]
theorem qiW (N:Nat):qT Tryz.prog (qm2 N):=⟨qbH N,qs6,qaF,qhM N,qvs N,trivial⟩
abbrev Yp:=List qa×List qa×Int
abbrev Jm:=(qc×Int×Bool)⊕Int
def VV (f:Yp):Jm→Ex×TSt
 | .inl y=>(.exit 0,⟨0,70,[],[(2,.p 20 [] 0),(4,.p 40 [] 0),(47,.tv (.sl 19 qi) f.2.1),(48,xi f.2.2),(49,xi y.2.1),(50,xb y.2.2)],[(20,.cell false (.tv qQ (y.1:qc))),(40,.cell false (.ag [.v 43 f.1.length])),(43,.vec false 19 (.sl 19 qi) f.1)],false,[]⟩)
 | .inr y=>(.ret,⟨0,70,[],[(4,.p 40 [] 0),(5,xi y)],[(40,.cell false (.ag [.v 43 0])),(43,.vec false 19 (.sl 19 qi) ([]:List qa))],false,[]⟩)
def qqw (N:Nat):List (Nat×qI):=[]
abbrev VA:=qc×Int
def qgt:SP:=⟨0,70,[],[(2,.k (.p 20 [] 0)),(4,.k (.p 40 [] 0)),(47,.x (.sl 19 qi)),(48,.x (.i .i64)),(49,.x (.i .i64))],[(20,.cell false (.x qQ)),(40,.cell false (.ag [.vs 43])),(43,.vec false 19)],false,[]⟩
def qrE (f:Yp) (v:VA):TSt:=jn qgt [dv (.sl 19 qi) f.1,dv qQ v.1,dv (.sl 19 qi) f.2.1,dv (.i .i64) f.2.2,dv (.i .i64) v.2]
def VW (N:Nat) (o_5:List qa) (s47_5:List qa) (s48_5:Int) (v:VA):Tree (VA⊕Jm):=
 .cond (decide (v.2 < s48_5)) (
 .bind (zi s47_5 v.2) fun e1=>
 .bind (Xp e1) fun r2=>
 .cond r2 (
 .chk (qy (v.2 + 1)) <|
 .ret (.inl (v.1,v.2 + 1))) <|
 .bind (VZ N v.1 (qc.mk [e1])) fun r3=>
 .cond (!decide (r3.2=0)) (
 .ret (.inr (.inr r3.2))) <|
 .chk (qy (v.2 + 1)) <|
 .ret (.inl (r3.1,v.2 + 1))) <|
 .ret (.inr (.inl (v.1,v.2,decide (v.2 < s48_5))))
def qgF (N n:Nat) (f:Yp) (v:VA):Option Jm:=q0 (VW N f.1 f.2.1 f.2.2) some n v
theorem qqv (N:Nat) (f:Yp) (n:Nat) (v:VA) (y:Jm) (h:qgF N n f v=some y):LG Tryz.prog qfj 68 (q_ qnE 5) (qrE f v) (VV f y):=
 zW qj (E:=qm2 N) (L:=qR (qqw N)) (st:=VV f) (g:=some) (R:=VV f) (qiW N) (qu (by kernel_rfl) trivial) (rg0 (by kernel_rfl)) (fun v=>by kernel_rfl) (zj (st:=VV f) fun y=>by rcases y with _ | _<;>rfl) n v y h
def Vz (N:Nat) (o_5:List qa) (s47_5:List qa) (s48_5:Int) (o_5_2:qc) (s49_5:Int):Option Jm:=qgF N N (o_5,s47_5,s48_5) (o_5_2,s49_5)
def qg6 (N:Nat):qI:=smL qgt [(.sl 19 qi),qQ,(.sl 19 qi),(.i .i64),(.i .i64)] Jm (fun x=>Vz N x.1 x.2.2.1 x.2.2.2.1 x.2.1 x.2.2.2.2.1) (csS cs1) fun x=>VV (x.1,x.2.2.1,x.2.2.2.1)
theorem qpi (N:Nat):v3 Tryz.prog qfj 68 (q_ qnE 5) (qg6 N):=js fun x z h=>qqv N (x.1,x.2.2.1,x.2.2.2.1) N (x.2.1,x.2.2.2.2.1) z h
def qxN (z:qc×Int):TV×THp:=(.tup [.tv qQ (z.1:qc),xi z.2],[])
def qf4 (N:Nat) (a0:qc) (a1:qa):Tree (qc×Int):=
 .bind (Xm N a0) fun r1=>
 .cond (!r1) (
 .chk (0=0) <|
 .ret (qc.mk [],1)) <|
 .bind (Xp a1) fun r2=>
 .cond r2 (
 .chk (0=0) <|
 .ret (qc.mk [],1)) <|
 .bind (WG (qa.zq a1)) fun r3=>
 .cond (!r3) (
 .chk (0=0) <|
 .ret (qc.mk [],1)) <|
 .cond (decide (((0:Int)) < (((qa.F a1).length:Nat):Int))) (
 .bind (qbv N (qa.mk (qa.ID a1) (qe.mk 0 0) (qa.F a1))) fun r4=>
 .cond (!r4) (
 .chk (0=0) <|
 .ret (qc.mk [],1)) <|
 .bind (jN [(([]:List qa).length,0)] (Vz N [] [qa.mk (qa.ID a1) (qa.zq a1) [],qa.mk (qa.ID a1) (qe.mk 0 0) (qa.F a1)] (((([qa.mk (qa.ID a1) (qa.zq a1) [],qa.mk (qa.ID a1) (qe.mk 0 0) (qa.F a1)]:List qa)).length:Nat):Int) a0 0)) fun z5=>
 .sum z5 (fun z6=>
 .ret (z6.1,0)) fun z6=>
 .chk (0=0) <|
 .ret (qc.mk [],z6)) <|
 .bind (jN [(([]:List qa).length,0)] (Vz N [] [qa.mk (qa.ID a1) (qa.zq a1) [],qa.mk (qa.ID a1) (qe.mk 0 0) (qa.F a1)] (((([qa.mk (qa.ID a1) (qa.zq a1) [],qa.mk (qa.ID a1) (qe.mk 0 0) (qa.F a1)]:List qa)).length:Nat):Int) a0 0)) fun z4=>
 .sum z4 (fun z5=>
 .ret (z5.1,0)) fun z5=>
 .chk (0=0) <|
 .ret (qc.mk [],z5)
def V4 (N:Nat) (a0:qc) (a1:qa):Option (qc×Int):=(qf4 N a0 a1).run some
def qxT (N:Nat):List (Nat×qI):=[(5,qg6 N)]
def qmB (N:Nat):Ent:=smF ⟨68,[],[.x qQ,.x qi],[],[]⟩ [qQ,qi] (qc×Int) (fun x=>V4 N x.1 x.2.1) cs1 fun _=>qxN
theorem qvM (N:Nat):zd Tryz.prog (qmB N):=
 q9 (H:=qfj) (L:=qR (qxT N)) (ts:=[qQ,qi]) (T:=fun x=>qf4 N x.1 x.2.1) 0 qFx (qiW N) (qu (by kernel_rfl) ⟨qpi N,trivial⟩) (rg0 (by kernel_rfl)) fun x=>by kernel_rfl
noncomputable def qDF:Code:=Tryz.f65.body.getD .skip
theorem qD8:FnF Tryz.prog 65 Tryz.f65 qDF:=⟨qj,by kernel_rfl,by kernel_rfl,by kernel_rfl⟩
def qp2:TH:={ live:=[(0,[1]),(1,[2,3])] }
def qp7 (N:Nat):List Ent:=[]
theorem qmb (N:Nat):qT Tryz.prog (qp7 N):=trivial
def qoJ (a0:qV) (z:Unit):TV×THp:=(.tup [.tv .s (qg.V (qV.o a0)),.ic .i64 0],[])
def qeZ (a0:qV):Tree (Unit):=
 .ret ()
def qcJ (a0:qV):Option (Unit):=(qeZ a0).run some
def qow:List (Nat×qI):=[]
def qeP:Ent:=smF ⟨65,[],[.x jl],[],[]⟩ [jl] (Unit) (fun x=>qcJ x.1) cs1 fun x=>qoJ x.1
theorem qn4:zd Tryz.prog (qeP):=
 q9 (H:=qp2) (L:=qR (qow)) (ts:=[jl]) (T:=fun x=>qeZ x.1) 0 qD8 (qmb 0) (qu (by kernel_rfl) trivial) (rg0 (by kernel_rfl)) fun x=>by kernel_rfl
noncomputable def qDr:Code:=Tryz.f74.body.getD .skip
theorem qFL:FnF Tryz.prog 74 Tryz.f74 qDr:=⟨qj,by kernel_rfl,by kernel_rfl,by kernel_rfl⟩
def qsC:TH:={ live:=[(0,[1,2]),(1,[3])] }
def qtp (N:Nat):List Ent:=[]
theorem qo0 (N:Nat):qT Tryz.prog (qtp N):=trivial
def qs0 (a0:Vector UInt8 16) (a1:qa) (z:Unit):TV×THp:=(xb (eqE (.ba 16) (qa.ID a1) a0),[(30,.cell false (.tv (.ba 16) a0))])
def qcn (a0:Vector UInt8 16) (a1:qa):Tree (Unit):=
 .ret ()
def qfp (a0:Vector UInt8 16) (a1:qa):Option (Unit):=(qcn a0 a1).run some
def qsK:List (Nat×qI):=[]
def qiF:Ent:=smF ⟨74,[],[.x qi],[.k (.p 30 [] 0)],[(30,.cell false (.x (.ba 16)))]⟩ [(.ba 16),qi] (Unit) (fun x=>qfp x.1 x.2.1) cs1 fun x=>qs0 x.1 x.2.1
theorem qrC:zd Tryz.prog (qiF):=
 q9 (H:=qsC) (L:=qR (qsK)) (ts:=[(.ba 16),qi]) (T:=fun x=>qcn x.1 x.2.1) 0 qFL (qo0 0) (qu (by kernel_rfl) trivial) (rg0 (by kernel_rfl)) fun x=>by kernel_rfl
noncomputable def qnO:Code:=Tryz.f73.body.getD .skip
theorem qFl:FnF Tryz.prog 73 Tryz.f73 qnO:=⟨qj,by kernel_rfl,by kernel_rfl,by kernel_rfl⟩
def J8:TH:={ live:=[(0,[0,1]),(1,[0,1,7,8]),(2,[0,1,7,8,9]),(3,[0,1,5,7,8]),(4,[0,1,5,7,8,16]),(5,[4]),(6,[0,1,7,8]),(7,[4])] }
def Kd (N:Nat):List Ent:=[qiF]
theorem WO (N:Nat):qT Tryz.prog (Kd N):=⟨qrC,trivial⟩
abbrev Qw:=Vector UInt8 16×List qa×Int
abbrev jx:=Int⊕(Int×Bool)
def vm (f:Qw):jx→Ex×TSt
 | .inl y=>(.ret,⟨1,19,[30],[(4,xi y)],[(30,.cell false (.tv (.ba 16) f.1))],false,[]⟩)
 | .inr y=>(.exit 0,⟨1,19,[30],[(0,.tv (.sl 19 qi) f.2.1),(1,.fn (.func 74) [] [.p 30 [] 0]),(7,xi f.2.2),(8,xi y.1),(9,xb y.2)],[(30,.cell false (.tv (.ba 16) f.1))],false,[]⟩)
def qc3 (N:Nat):List (Nat×qI):=[]
abbrev vn:=Int
def Wl:SP:=⟨1,19,[30],[(0,.x (.sl 19 qi)),(1,.fn 74 [] [.k (.p 30 [] 0)]),(7,.x (.i .i64)),(8,.x (.i .i64))],[(30,.cell false (.x (.ba 16)))],false,[]⟩
def qdl (f:Qw) (v:vn):TSt:=jn Wl [dv (.ba 16) f.1,dv (.sl 19 qi) f.2.1,dv (.i .i64) f.2.2,dv (.i .i64) v]
def vl (N:Nat) (o_2:Vector UInt8 16) (s0_2:List qa) (s7_2:Int) (v:vn):Tree (vn⊕jx):=
 .cond (decide (v < s7_2)) (
 .bind (zi s0_2 v) fun e1=>
 .bind (qfp o_2 e1) fun r2=>
 .cond (eqE (.ba 16) (qa.ID e1) o_2) (
 .ret (.inr (.inl v))) <|
 .chk (qy (v + 1)) <|
 .ret (.inl (v + 1))) <|
 .ret (.inr (.inr ((v,decide (v < s7_2)))))
def Wo (N n:Nat) (f:Qw) (v:vn):Option jx:=q0 (vl N f.1 f.2.1 f.2.2) some n v
theorem qdc (N:Nat) (f:Qw) (n:Nat) (v:vn) (y:jx) (h:Wo N n f v=some y):LG Tryz.prog J8 73 (q_ qnO 2) (qdl f v) (vm f y):=
 zW qj (E:=Kd N) (L:=qR (qc3 N)) (st:=vm f) (g:=some) (R:=vm f) (WO N) (qu (by kernel_rfl) trivial) (rg0 (by kernel_rfl)) (fun v=>by kernel_rfl) (zj (st:=vm f) fun y=>by rcases y with _ | _<;>rfl) n v y h
def JG (N:Nat) (o_2:Vector UInt8 16) (s0_2:List qa) (s7_2:Int) (s8_2:Int):Option jx:=Wo N N (o_2,s0_2,s7_2) s8_2
def Wm (N:Nat):qI:=smL Wl [(.ba 16),(.sl 19 qi),(.i .i64),(.i .i64)] jx (fun x=>JG N x.1 x.2.1 x.2.2.1 x.2.2.2.1) (csS cs1) fun x=>vm (x.1,x.2.1,x.2.2.1)
theorem qcF (N:Nat):v3 Tryz.prog J8 73 (q_ qnO 2) (Wm N):=js fun x z h=>qdc N (x.1,x.2.1,x.2.2.1) N x.2.2.2.1 z h
def qfA (a0:Vector UInt8 16) (z:Int):TV×THp:=(xi z,[(30,.cell false (.tv (.ba 16) a0))])
def J5 (N:Nat) (a0:Vector UInt8 16) (a1:List qa):Tree (Int):=
 .bind (JG N a0 a1 ((a1.length:Nat):Int) 0) fun z1=>
 .sum z1 (fun z2=>
 .ret z2) fun z2=>
 .ret (-1)
def Z8 (N:Nat) (a0:Vector UInt8 16) (a1:List qa):Option (Int):=(J5 N a0 a1).run some
def qfw (N:Nat):List (Nat×qI):=[(2,Wm N)]
def Kb (N:Nat):Ent:=smF ⟨73,[],[.x (.sl 19 qi),.fn 74 [] [.k (.p 30 [] 0)]],[],[(30,.cell false (.x (.ba 16)))]⟩ [(.ba 16),(.sl 19 qi)] (Int) (fun x=>Z8 N x.1 x.2.1) cs1 fun x=>qfA x.1
theorem qex (N:Nat):zd Tryz.prog (Kb N):=
 q9 (H:=J8) (L:=qR (qfw N)) (ts:=[(.ba 16),(.sl 19 qi)]) (T:=fun x=>J5 N x.1 x.2.1) 0 qFl (WO N) (qu (by kernel_rfl) ⟨qcF N,trivial⟩) (rg0 (by kernel_rfl)) fun x=>by kernel_rfl
noncomputable def qFJ:Code:=Tryz.f27.body.getD .skip
theorem qFH:FnF Tryz.prog 27 Tryz.f27 qFJ:=⟨qj,by kernel_rfl,by kernel_rfl,by kernel_rfl⟩
def qxd:TH:={ live:=[(0,[2,3,4]),(1,[2,4,6]),(2,[2,4,6,12]),(3,[4,5]),(4,[4,5])],nil:=[(0,[⟨.ob 40 [2],45,(.sl 4 qC)⟩]),(3,[⟨.ob 40 [2],45,(.sl 4 qC)⟩])] }
def qxv (N:Nat):List Ent:=[Kb N,qim]
theorem qtx (N:Nat):qT Tryz.prog (qxv N):=⟨qex N,qmI,trivial⟩
def qxe (z:qa×Bool):TV×THp:=(.tup [.tv qi (z.1:qa),xb z.2],[])
def qgh (N:Nat) (a0:qc) (a1:Vector UInt8 16):Tree (qa×Bool):=
 .bind (Z8 N a1 (qc.R a0)) fun r1=>
 .cond (decide (r1 < ((0:Int)))) (
 .chk (0=0) <|
 .ret (qa.mk ((Vector.replicate 16 0)) (qe.mk 0 0) [],false)) <|
 .bind (zi (qc.R a0) r1) fun e2=>
 .bind (KM e2) fun r3=>
 .ret (qa.mk (qa.ID e2) (qa.zq e2) ((([]:List qb))++(qa.F e2)),true)
def qbO (N:Nat) (a0:qc) (a1:Vector UInt8 16):Option (qa×Bool):=(qgh N a0 a1).run some
def qxo (N:Nat):List (Nat×qI):=[]
def qfg (N:Nat):Ent:=smF ⟨27,[],[.x qQ,.x (.ba 16)],[],[]⟩ [qQ,(.ba 16)] (qa×Bool) (fun x=>qbO N x.1 x.2.1) cs1 fun _=>qxe
theorem qjy (N:Nat):zd Tryz.prog (qfg N):=
 q9 (H:=qxd) (L:=qR (qxo N)) (ts:=[qQ,(.ba 16)]) (T:=fun x=>qgh N x.1 x.2.1) 0 qFH (qtx N) (qu (by kernel_rfl) trivial) (rg0 (by kernel_rfl)) fun x=>by kernel_rfl
noncomputable def qE_:Code:=Tryz.f77.body.getD .skip
theorem qFv:FnF Tryz.prog 77 Tryz.f77 qE_:=⟨qj,by kernel_rfl,by kernel_rfl,by kernel_rfl⟩
def qwb:TH:={ live:=[(0,[1,2]),(1,[3])] }
def qvI (N:Nat):List Ent:=[]
theorem qra (N:Nat):qT Tryz.prog (qvI N):=trivial
def quZ (a0:Int) (a1:qb) (z:Unit):TV×THp:=(xb (decide ((qb.No a1)=a0)),[(30,.cell false (xi a0))])
def qem (a0:Int) (a1:qb):Tree (Unit):=
 .ret ()
def qhH (a0:Int) (a1:qb):Option (Unit):=(qem a0 a1).run some
def qu6:List (Nat×qI):=[]
def qla:Ent:=smF ⟨77,[],[.x qC],[.k (.p 30 [] 0)],[(30,.cell false (.x (.i .i64)))]⟩ [(.i .i64),qC] (Unit) (fun x=>qhH x.1 x.2.1) cs1 fun x=>quZ x.1 x.2.1
theorem qtz:zd Tryz.prog (qla):=
 q9 (H:=qwb) (L:=qR (qu6)) (ts:=[(.i .i64),qC]) (T:=fun x=>qem x.1 x.2.1) 0 qFv (qra 0) (qu (by kernel_rfl) trivial) (rg0 (by kernel_rfl)) fun x=>by kernel_rfl
noncomputable def qnA:Code:=Tryz.f76.body.getD .skip
theorem qFM:FnF Tryz.prog 76 Tryz.f76 qnA:=⟨qj,by kernel_rfl,by kernel_rfl,by kernel_rfl⟩
def Jo:TH:={ live:=[(0,[0,1]),(1,[0,1,7,8]),(2,[0,1,7,8,9]),(3,[0,1,5,7,8]),(4,[0,1,5,7,8,16]),(5,[4]),(6,[0,1,7,8]),(7,[4])] }
def Yg (N:Nat):List Ent:=[qla]
theorem XT (N:Nat):qT Tryz.prog (Yg N):=⟨qtz,trivial⟩
abbrev vR:=Int×List qb×Int
abbrev jk:=Int⊕(Int×Bool)
def jJ (f:vR):jk→Ex×TSt
 | .inl y=>(.ret,⟨1,19,[30],[(4,xi y)],[(30,.cell false (xi f.1))],false,[]⟩)
 | .inr y=>(.exit 0,⟨1,19,[30],[(0,.tv (.sl 4 qC) f.2.1),(1,.fn (.func 77) [] [.p 30 [] 0]),(7,xi f.2.2),(8,xi y.1),(9,xb y.2)],[(30,.cell false (xi f.1))],false,[]⟩)
def qbY (N:Nat):List (Nat×qI):=[]
abbrev jK:=Int
def V3:SP:=⟨1,19,[30],[(0,.x (.sl 4 qC)),(1,.fn 77 [] [.k (.p 30 [] 0)]),(7,.x (.i .i64)),(8,.x (.i .i64))],[(30,.cell false (.x (.i .i64)))],false,[]⟩
def qbR (f:vR) (v:jK):TSt:=jn V3 [dv (.i .i64) f.1,dv (.sl 4 qC) f.2.1,dv (.i .i64) f.2.2,dv (.i .i64) v]
def jI (N:Nat) (o_2:Int) (s0_2:List qb) (s7_2:Int) (v:jK):Tree (jK⊕jk):=
 .cond (decide (v < s7_2)) (
 .bind (zi s0_2 v) fun e1=>
 .bind (qhH o_2 e1) fun r2=>
 .cond (decide ((qb.No e1)=o_2)) (
 .ret (.inr (.inl v))) <|
 .chk (qy (v + 1)) <|
 .ret (.inl (v + 1))) <|
 .ret (.inr (.inr ((v,decide (v < s7_2)))))
def V5 (N n:Nat) (f:vR) (v:jK):Option jk:=q0 (jI N f.1 f.2.1 f.2.2) some n v
theorem qb0 (N:Nat) (f:vR) (n:Nat) (v:jK) (y:jk) (h:V5 N n f v=some y):LG Tryz.prog Jo 76 (q_ qnA 2) (qbR f v) (jJ f y):=
 zW qj (E:=Yg N) (L:=qR (qbY N)) (st:=jJ f) (g:=some) (R:=jJ f) (XT N) (qu (by kernel_rfl) trivial) (rg0 (by kernel_rfl)) (fun v=>by kernel_rfl) (zj (st:=jJ f) fun y=>by rcases y with _ | _<;>rfl) n v y h
def Z7 (N:Nat) (o_2:Int) (s0_2:List qb) (s7_2:Int) (s8_2:Int):Option jk:=V5 N N (o_2,s0_2,s7_2) s8_2
def V2 (N:Nat):qI:=smL V3 [(.i .i64),(.sl 4 qC),(.i .i64),(.i .i64)] jk (fun x=>Z7 N x.1 x.2.1 x.2.2.1 x.2.2.2.1) (csS cs1) fun x=>jJ (x.1,x.2.1,x.2.2.1)
theorem qbn (N:Nat):v3 Tryz.prog Jo 76 (q_ qnA 2) (V2 N):=js fun x z h=>qb0 N (x.1,x.2.1,x.2.2.1) N x.2.2.2.1 z h
def qdy (a0:Int) (z:Int):TV×THp:=(xi z,[(30,.cell false (xi a0))])
def JA (N:Nat) (a0:Int) (a1:List qb):Tree (Int):=
 .bind (Z7 N a0 a1 ((a1.length:Nat):Int) 0) fun z1=>
 .sum z1 (fun z2=>
 .ret z2) fun z2=>
 .ret (-1)
def Zu (N:Nat) (a0:Int) (a1:List qb):Option (Int):=(JA N a0 a1).run some
def qdz (N:Nat):List (Nat×qI):=[(2,V2 N)]
def Yd (N:Nat):Ent:=smF ⟨76,[],[.x (.sl 4 qC),.fn 77 [] [.k (.p 30 [] 0)]],[],[(30,.cell false (.x (.i .i64)))]⟩ [(.i .i64),(.sl 4 qC)] (Int) (fun x=>Zu N x.1 x.2.1) cs1 fun x=>qdy x.1
theorem qdd (N:Nat):zd Tryz.prog (Yd N):=
 q9 (H:=Jo) (L:=qR (qdz N)) (ts:=[(.i .i64),(.sl 4 qC)]) (T:=fun x=>JA N x.1 x.2.1) 0 qFM (XT N) (qu (by kernel_rfl) ⟨qbn N,trivial⟩) (rg0 (by kernel_rfl)) fun x=>by kernel_rfl
noncomputable def qFC:Code:=Tryz.f28.body.getD .skip
theorem qFi:FnF Tryz.prog 28 Tryz.f28 qFC:=⟨qj,by kernel_rfl,by kernel_rfl,by kernel_rfl⟩
def qzI:TH:={ live:=[(0,[2,3,4]),(1,[2,4,6]),(2,[2,4,6,12]),(3,[4,5]),(4,[4,5])] }
def qAK (N:Nat):List Ent:=[Yd N]
theorem qt2 (N:Nat):qT Tryz.prog (qAK N):=⟨qdd N,trivial⟩
def qAo (z:qd×Bool):TV×THp:=(.tup [.tv qo (z.1:qd),xb z.2],[])
def qic (N:Nat) (a0:qa) (a1:Int):Tree (qd×Bool):=
 .bind (Zu N a1 (qa.F a0)) fun r1=>
 .cond (decide (r1 < ((0:Int)))) (
 .ret (qd.mk (qe.mk 0 0) [],false)) <|
 .bind (zi (qa.F a0) r1) fun e2=>
 .ret (qb.C e2,true)
def qhY (N:Nat) (a0:qa) (a1:Int):Option (qd×Bool):=(qic N a0 a1).run some
def qzM (N:Nat):List (Nat×qI):=[]
def qpl (N:Nat):Ent:=smF ⟨28,[],[.x qi,.x (.i .i64)],[],[]⟩ [qi,(.i .i64)] (qd×Bool) (fun x=>qhY N x.1 x.2.1) cs1 fun _=>qAo
theorem qxq (N:Nat):zd Tryz.prog (qpl N):=
 q9 (H:=qzI) (L:=qR (qzM N)) (ts:=[qi,(.i .i64)]) (T:=fun x=>qic N x.1 x.2.1) 0 qFi (qt2 N) (qu (by kernel_rfl) trivial) (rg0 (by kernel_rfl)) fun x=>by kernel_rfl
noncomputable def qE5:Code:=Tryz.f93.body.getD .skip
theorem qFK:FnF Tryz.prog 93 Tryz.f93 qE5:=⟨qj,by kernel_rfl,by kernel_rfl,by kernel_rfl⟩
def qnx:TH:={ live:=[(0,[2,3,4]),(1,[2,8]),(2,[10,11]),(3,[10,26]),(4,[6,7]),(5,[6,7])] }
def qnH (N:Nat):List Ent:=[qfg N,qpl N]
theorem qjP (N:Nat):qT Tryz.prog (qnH N):=⟨qjy N,qxq N,trivial⟩
def qm_ (z:List UInt8×Int):TV×THp:=(.tup [.tv .s (z.1:List UInt8),xi z.2],[])
def KE (N:Nat) (a0:qV) (a1:Vector UInt8 16) (a2:Int):Tree (List UInt8×Int):=
 .bind (qbO N (qV.b a0) a1) fun r1=>
 .bind (qhY N r1.1 a2) fun r2=>
 .cond (!r2.2) (
 .ret ([],6)) <|
 .ret (qd.V r2.1,0)
def Vw (N:Nat) (a0:qV) (a1:Vector UInt8 16) (a2:Int):Option (List UInt8×Int):=(KE N a0 a1 a2).run some
def qnL (N:Nat):List (Nat×qI):=[]
def KG (N:Nat):Ent:=smF ⟨93,[],[.x jl,.x (.ba 16),.x (.i .i64)],[],[]⟩ [jl,(.ba 16),(.i .i64)] (List UInt8×Int) (fun x=>Vw N x.1 x.2.1 x.2.2.1) cs1 fun _=>qm_
theorem qc0 (N:Nat):zd Tryz.prog (KG N):=
 q9 (H:=qnx) (L:=qR (qnL N)) (ts:=[jl,(.ba 16),(.i .i64)]) (T:=fun x=>KE N x.1 x.2.1 x.2.2.1) 0 qFK (qjP N) (qu (by kernel_rfl) trivial) (rg0 (by kernel_rfl)) fun x=>by kernel_rfl
noncomputable def qEi:Code:=Tryz.f92.body.getD .skip
theorem qDT:FnF Tryz.prog 92 Tryz.f92 qEi:=⟨qj,by kernel_rfl,by kernel_rfl,by kernel_rfl⟩
def qi9:TH:={ live:=[(0,[1,2,3]),(1,[1,2,17]),(2,[6,7]),(3,[6,7])],dec:=[10] }
def qjm (N:Nat):List Ent:=[qis N]
theorem qgm (N:Nat):qT Tryz.prog (qjm N):=⟨qkY N,trivial⟩
def qi6 (z:List UInt8×Int):TV×THp:=(.tup [.tv .s (z.1:List UInt8),xi z.2],[])
def Wi (N:Nat) (a0:qV) (a1:List UInt8) (a2:Int):Tree (List UInt8×Int):=
 .cond (decide (a2=((0:Int)))) (
 .bind (qaW N a1) fun r1=>
 .cond (!(eqE (.ba 32) r1 (qg.D (qV.o a0)))) (
 .ret ([],7)) <|
 .ret (a1,a2)) <|
 .ret (a1,a2)
def Vn (N:Nat) (a0:qV) (a1:List UInt8) (a2:Int):Option (List UInt8×Int):=(Wi N a0 a1 a2).run some
def qi_ (N:Nat):List (Nat×qI):=[]
def qba (N:Nat):Ent:=smF ⟨92,[],[.x jl,.x .s,.x (.i .i64)],[],[]⟩ [jl,.s,(.i .i64)] (List UInt8×Int) (fun x=>Vn N x.1 x.2.1 x.2.2.1) cs1 fun _=>qi6
theorem qh7 (N:Nat):zd Tryz.prog (qba N):=
 q9 (H:=qi9) (L:=qR (qi_ N)) (ts:=[jl,.s,(.i .i64)]) (T:=fun x=>Wi N x.1 x.2.1 x.2.2.1) 0 qDT (qgm N) (qu (by kernel_rfl) trivial) (rg0 (by kernel_rfl)) fun x=>by kernel_rfl
noncomputable def qEl:Code:=Tryz.f66.body.getD .skip
theorem qFD:FnF Tryz.prog 66 Tryz.f66 qEl:=⟨qj,by kernel_rfl,by kernel_rfl,by kernel_rfl⟩
def qko:TH:={ live:=[(0,[1]),(1,[2,3])] }
def qjJ (N:Nat):List Ent:=[KG N,qba N]
theorem qhu (N:Nat):qT Tryz.prog (qjJ N):=⟨qc0 N,qh7 N,trivial⟩
def qku (z:List UInt8×Int):TV×THp:=(.tup [.tv .s (z.1:List UInt8),xi z.2],[])
def Ww (N:Nat) (a0:qV):Tree (List UInt8×Int):=
 .bind (Vw N a0 (qg.WS (qV.o a0)) (qg.Jt (qV.o a0))) fun r1=>
 .bind (Vn N a0 r1.1 r1.2) fun r2=>
 .ret (r2.1,r2.2)
def Xv (N:Nat) (a0:qV):Option (List UInt8×Int):=(Ww N a0).run some
def qkJ (N:Nat):List (Nat×qI):=[]
def qcl (N:Nat):Ent:=smF ⟨66,[],[.x jl],[],[]⟩ [jl] (List UInt8×Int) (fun x=>Xv N x.1) cs1 fun _=>qku
theorem qjn (N:Nat):zd Tryz.prog (qcl N):=
 q9 (H:=qko) (L:=qR (qkJ N)) (ts:=[jl]) (T:=fun x=>Ww N x.1) 0 qFD (qhu N) (qu (by kernel_rfl) trivial) (rg0 (by kernel_rfl)) fun x=>by kernel_rfl
noncomputable def qnv:Code:=Tryz.f94.body.getD .skip
theorem qEP:FnF Tryz.prog 94 Tryz.f94 qnv:=⟨qj,by kernel_rfl,by kernel_rfl,by kernel_rfl⟩
def qcs:TH:={ live:=[(0,[0,1]),(1,[0,1,11]),(2,[4,5]),(3,[0,1,6]),(4,[0,6,12,13,14]),(5,[0,6,12,13,14,15]),(6,[0,6,8,12,13,14]),(7,[0,6,8,12,13,14,29]),(8,[4,5]),(9,[0,6,8,12,13,14]),(10,[0,6,8,12,13,14,34]),(11,[0,6,12,13,14]),(12,[0,6,12,13,14]),(13,[4,5])],dec:=[20],nil:=[(3,[⟨.ob 60 [1],64,.bl⟩])] }
def qiR (N:Nat):List Ent:=[qfO N]
theorem qeY (N:Nat):qT Tryz.prog (qiR N):=⟨qk3 N,trivial⟩
abbrev XE:=List UInt8×List UInt8×List qq×Int
abbrev Zd:=Unit⊕Unit
def Js (f:XE):Zd→Ex×TSt
 | .inl y=>(.ret,⟨0,47,[],[(4,.tv .s ([]:List UInt8)),(5,.bc false)],[],false,[]⟩)
 | .inr y=>(.exit 0,⟨0,47,[],[(0,.tv .s f.2.1),(6,.p 60 [] 0),(12,.tv (.sl 4 qK) f.2.2.1),(13,xi f.2.2.2),(14,.ic .i64 0),(15,xb (decide (((0:Int)) < f.2.2.2)))],[(60,.cell false (.ag [.nilp,.v 64 f.1.length])),(64,.vec false 1 .bl f.1)],false,[]⟩)
def qod (N:Nat):List (Nat×qI):=[]
abbrev Jw:=Unit
def qeb:SP:=⟨0,47,[],[(0,.x .s),(6,.k (.p 60 [] 0)),(12,.x (.sl 4 qK)),(13,.x (.i .i64)),(14,.k (.ic .i64 0))],[(60,.cell false (.ag [.k .nilp,.vs 64])),(64,.vec false 1)],false,[]⟩
def qnk (f:XE) (v:Jw):TSt:=jn qeb [dv .bl f.1,dv .s f.2.1,dv (.sl 4 qK) f.2.2.1,dv (.i .i64) f.2.2.2]
def qnI (N:Nat) (o_5:List UInt8) (s0_5:List UInt8) (s12_5:List qq) (s13_5:Int) (v:Jw):Tree (Jw⊕Zd):=
 .cond (decide (((0:Int)) < s13_5)) (
 .bind (zi s12_5 0) fun e1=>
 .cond (qq.qz6 e1) (
 .chk (qy (((s0_5.length:Nat):Int) - (qq.WS e1))) <|
 .cond (decide ((((s0_5.length:Nat):Int) - (qq.WS e1)) < (qq.Len e1))) (
 .ret (.inr (.inl ()))) <|
 .no) <|
 .no) <|
 .ret (.inr (.inr ()))
def qdC (N n:Nat) (f:XE) (v:Jw):Option Zd:=q0 (qnI N f.1 f.2.1 f.2.2.1 f.2.2.2) some n v
theorem qnr (N:Nat) (f:XE) (n:Nat) (v:Jw) (y:Zd) (h:qdC N n f v=some y):LG Tryz.prog qcs 94 (q_ qnv 5) (qnk f v) (Js f y):=
 zW qj (E:=qiR N) (L:=qR (qod N)) (st:=Js f) (g:=some) (R:=Js f) (qeY N) (qu (by kernel_rfl) trivial) (rg0 (by kernel_rfl)) (fun v=>by kernel_rfl) (zj (st:=Js f) fun y=>by rcases y with _ | _<;>rfl) n v y h
def qg3 (N:Nat) (o_5:List UInt8) (s0_5:List UInt8) (s12_5:List qq) (s13_5:Int):Option Zd:=qdC N N (o_5,s0_5,s12_5,s13_5) ()
def qd5 (N:Nat):qI:=smL qeb [.bl,.s,(.sl 4 qK),(.i .i64)] Zd (fun x=>qg3 N x.1 x.2.1 x.2.2.1 x.2.2.2.1) (csS cs1) fun x=>Js (x.1,x.2.1,x.2.2.1,x.2.2.2.1)
theorem qml (N:Nat):v3 Tryz.prog qcs 94 (q_ qnv 5) (qd5 N):=js fun x z h=>qnr N (x.1,x.2.1,x.2.2.1,x.2.2.2.1) N () z h
def qs4 (z:Unit):TV×THp:=(.tup [.tv .s ([]:List UInt8),.bc false],[])
def qiZ (N:Nat) (a0:List UInt8) (a1:List qq):Tree (Unit):=
 .bind (qca N a1) fun r1=>
 .cond (!r1) (
 .ret ()) <|
 .bind (jN [(([]:List UInt8).length,0)] (qg3 N [] a0 a1 ((a1.length:Nat):Int))) fun z2=>
 .sum z2 (fun z3=>
 .ret ()) fun z3=>
 .no
def qmH (N:Nat) (a0:List UInt8) (a1:List qq):Option (Unit):=(qiZ N a0 a1).run some
def qs2 (N:Nat):List (Nat×qI):=[(5,qd5 N)]
def qiM (N:Nat):Ent:=smF ⟨94,[],[.x .s,.x (.sl 4 qK)],[],[]⟩ [.s,(.sl 4 qK)] (Unit) (fun x=>qmH N x.1 x.2.1) cs1 fun _=>qs4
theorem qqS (N:Nat):zd Tryz.prog (qiM N):=
 q9 (H:=qcs) (L:=qR (qs2 N)) (ts:=[.s,(.sl 4 qK)]) (T:=fun x=>qiZ N x.1 x.2.1) 0 qEP (qeY N) (qu (by kernel_rfl) ⟨qml N,trivial⟩) (rg0 (by kernel_rfl)) fun x=>by kernel_rfl
noncomputable def qDu:Code:=Tryz.f67.body.getD .skip
theorem qEd:FnF Tryz.prog 67 Tryz.f67 qDu:=⟨qj,by kernel_rfl,by kernel_rfl,by kernel_rfl⟩
def qn8:TH:={ live:=[(0,[1]),(1,[1,4,5]),(2,[1,4,5,20]),(3,[2,3]),(4,[1,6,7]),(5,[1,6,31]),(6,[2,3]),(7,[2,3])] }
def qnB (N:Nat):List Ent:=[KG N,qiM N]
theorem qkH (N:Nat):qT Tryz.prog (qnB N):=⟨qc0 N,qqS N,trivial⟩
def qor (z:Int):TV×THp:=(.tup [.tv .s ([]:List UInt8),xi z],[])
def qef (N:Nat) (a0:qV):Tree (Int):=
 .bind (Vw N a0 (qg.ID (qV.o a0)) (qg.No (qV.o a0))) fun r1=>
 .cond (!decide (r1.2=0)) (
 .ret r1.2) <|
 .bind (qmH N r1.1 (qg.P (qV.o a0))) fun r2=>
 .ret 7
def qgk (N:Nat) (a0:qV):Option (Int):=(qef N a0).run some
def qn1 (N:Nat):List (Nat×qI):=[]
def qej (N:Nat):Ent:=smF ⟨67,[],[.x jl],[],[]⟩ [jl] (Int) (fun x=>qgk N x.1) cs1 fun _=>qor
theorem qmk (N:Nat):zd Tryz.prog (qej N):=
 q9 (H:=qn8) (L:=qR (qn1 N)) (ts:=[jl]) (T:=fun x=>qef N x.1) 0 qEd (qkH N) (qu (by kernel_rfl) trivial) (rg0 (by kernel_rfl)) fun x=>by kernel_rfl
noncomputable def qDo:Code:=Tryz.f24.body.getD .skip
theorem qE7:FnF Tryz.prog 24 Tryz.f24 qDo:=⟨qj,by kernel_rfl,by kernel_rfl,by kernel_rfl⟩
def qGo:TH:={ live:=[(0,[2,3,4]),(1,[2,3,4,17]),(2,[4,5]),(3,[2,3,4,6]),(4,[2,3,4,7]),(5,[2,3,4,7,25]),(6,[4,5]),(7,[2,3,4,8,9]),(8,[2,3,4,8,9,44]),(9,[4,5]),(10,[4,5])],dec:=[13,21],nil:=[(0,[⟨.ob 40 [0],43,(.sl 19 qi)⟩]),(2,[⟨.ob 40 [0],43,(.sl 19 qi)⟩]),(9,[⟨.ob 40 [0],43,(.sl 19 qi)⟩])] }
def qGs (N:Nat):List Ent:=[qas N,qna N,qmB N,qeP,qcl N,qej N]
theorem qCl (N:Nat):qT Tryz.prog (qGs N):=⟨qbH N,qsr N,qvM N,qn4,qjn N,qmk N,trivial⟩
def qGS (z:qc×Int):TV×THp:=(.tup [.tv qQ (z.1:qc),xi z.2],[])
def qro (N:Nat) (a0:qc) (a1:qg):Tree (qc×Int):=
 .bind (Xm N a0) fun r1=>
 .cond (!r1) (
 .chk (0=0) <|
 .ret (qc.mk [],1)) <|
 .bind (qkX N a1) fun r2=>
 .cond (!r2) (
 .chk (0=0) <|
 .ret (qc.mk [],1)) <|
 .cond (decide ((qg.Kind a1)=0)) (
 .chk (0≤(0:Int)∧(0:Int) < ((4:Nat):Int)) <|
 .bind (V4 N a0 (qa.mk (qg.ID a1) (qg.S a1) [])) fun r3=>
 .ret (r3.1,r3.2)) <|
 .cond (decide ((qg.Kind a1)=1)) (
 .chk (0≤(1:Int)∧(1:Int) < ((4:Nat):Int)) <|
 .bind (qcJ (qV.mk a0 a1)) fun r3=>
 .bind (V4 N a0 (qa.mk (qg.ID a1) (qe.mk 0 0) [qb.mk (qg.No a1) (qd.mk (qg.S a1) (qg.V a1))])) fun r4=>
 .ret (r4.1,r4.2)) <|
 .cond (decide ((qg.Kind a1)=2)) (
 .chk (0≤(2:Int)∧(2:Int) < ((4:Nat):Int)) <|
 .bind (Xv N (qV.mk a0 a1)) fun r3=>
 .cond (!decide (r3.2=0)) (
 .chk (0=0) <|
 .ret (qc.mk [],r3.2)) <|
 .bind (V4 N a0 (qa.mk (qg.ID a1) (qe.mk 0 0) [qb.mk (qg.No a1) (qd.mk (qg.S a1) r3.1)])) fun r4=>
 .ret (r4.1,r4.2)) <|
 .cond (decide ((qg.Kind a1)=3)) (
 .chk (0≤(3:Int)∧(3:Int) < ((4:Nat):Int)) <|
 .bind (qgk N (qV.mk a0 a1)) fun r3=>
 .cond (!decide (r3=((0:Int)))) (
 .chk (0=0) <|
 .ret (qc.mk [],r3)) <|
 .bind (V4 N a0 (qa.mk (qg.ID a1) (qe.mk 0 0) [qb.mk (qg.No a1) (qd.mk (qg.S a1) [])])) fun r4=>
 .ret (r4.1,r4.2)) <|
 .no
def qtQ (N:Nat) (a0:qc) (a1:qg):Option (qc×Int):=(qro N a0 a1).run some
def qGn (N:Nat):List (Nat×qI):=[]
def qyH (N:Nat):Ent:=smF ⟨24,[],[.x qQ,.x vh],[],[]⟩ [qQ,vh] (qc×Int) (fun x=>qtQ N x.1 x.2.1) cs1 fun _=>qGS
theorem qEO (N:Nat):zd Tryz.prog (qyH N):=
 q9 (H:=qGo) (L:=qR (qGn N)) (ts:=[qQ,vh]) (T:=fun x=>qro N x.1 x.2.1) 0 qE7 (qCl N) (qu (by kernel_rfl) trivial) (rg0 (by kernel_rfl)) fun x=>by kernel_rfl
noncomputable def qlO:Code:=Tryz.f8.body.getD .skip
theorem qGe:FnF Tryz.prog 8 Tryz.f8 qlO:=⟨qj,by kernel_rfl,by kernel_rfl,by kernel_rfl⟩
def J9:TH:={ live:=[(0,[2,5,6,8,9]),(1,[2,5,6,8,9,11]),(2,[2,5,6,8,9,11,12]),(3,[2,5,6,9,11,12,13]),(4,[2,5,6,9,11,13,51]),(5,[10]),(6,[2,5,6,9,14,15]),(7,[2,5,9,14,15,16]),(8,[2,5,9,14,15,16,18]),(9,[2,5,9,14,15,16,18,19]),(10,[2,5,9,14,15,16,18,19,20]),(11,[2,5,9,14,15,16,18,19,20,69]),(12,[2,5,9,14,15,16,18,19,20]),(13,[2,5,9,14,15,16,18,19,20]),(14,[2,5,9,14,15,16,18,19,20]),(15,[5,14,15,19,107]),(16,[10]),(17,[5,14,15,117]),(18,[10]),(19,[10])],dec:=[32,36,41,46,73,84,93,110,120,128] }
def Kc (N:Nat):List Ent:=[qu9,qb4 N,qas N,qna N,qyH N,qfg N,qis N]
theorem WX (N:Nat):qT Tryz.prog (Kc N):=⟨qA1,qi7 N,qbH N,qsr N,qEO N,qjy N,qkY N,trivial⟩
abbrev Qa:=qc×Vector UInt8 32×qc×qa×Int×Int
abbrev jr:=Bool×Bool×Int×Bool
def jS (f:Qa) (y:jr):Ex×TSt:=(.exit 0,⟨0,137,[],[(2,xi f.2.2.2.2.1),(5,.p 50 [] 0),(9,.p 90 [] 0),(14,.p 140 [] 0),(15,xi f.2.2.2.2.2),(16,.p 160 [] 0),(18,xb y.1),(19,xb y.2.1),(20,xi y.2.2.1),(69,xb y.2.2.2)],[(50,.cell false (.tv qQ f.1)),(90,.cell false (.tv (.ba 32) f.2.1)),(140,.cell false (.tv qQ f.2.2.1)),(160,.cell false (.tv qi f.2.2.2.1))],false,[]⟩)
def qcL (N:Nat):List (Nat×qI):=[]
abbrev jQ:=Bool×Bool×Int
def XX:SP:=⟨0,137,[],[(2,.x (.i .i64)),(5,.k (.p 50 [] 0)),(9,.k (.p 90 [] 0)),(14,.k (.p 140 [] 0)),(15,.x (.i .i64)),(16,.k (.p 160 [] 0)),(18,.x .b),(19,.x .b),(20,.x (.i .i64))],[(50,.cell false (.x qQ)),(90,.cell false (.x (.ba 32))),(140,.cell false (.x qQ)),(160,.cell false (.x qi))],false,[]⟩
def qcI (f:Qa) (v:jQ):TSt:=jn XX [dv qQ f.1,dv (.ba 32) f.2.1,dv qQ f.2.2.1,dv qi f.2.2.2.1,dv (.i .i64) f.2.2.2.2.1,dv (.i .i64) f.2.2.2.2.2,dv .b v.1,dv .b v.2.1,dv (.i .i64) v.2.2]
def Qh (N:Nat) (o_11:qc) (o_11_2:Vector UInt8 32) (o_11_3:qc) (o_11_4:qa) (s2_11:Int) (s15_11:Int) (v:jQ):Tree (jQ⊕jr):=
 .cond (decide (v.2.2 < (((qa.F o_11_4).length:Nat):Int))) (
 .cond v.1 (
 .cond v.2.1 (
 .chk (qy (v.2.2 + 1)) <|
 .ret (.inl (true,true,v.2.2 + 1))) <|
 .bind (zi (qa.F o_11_4) v.2.2) fun e1=>
 .cond (decide ((qb.No e1)=s2_11)) (
 .bind (zi (qa.F o_11_4) v.2.2) fun e2=>
 .bind (qaW N (qd.V (qb.C e2))) fun r3=>
 .chk (qy (v.2.2 + 1)) <|
 .ret (.inl (true,eqE (.ba 32) r3 o_11_2,v.2.2 + 1))) <|
 .chk (qy (v.2.2 + 1)) <|
 .ret (.inl (true,false,v.2.2 + 1))) <|
 .bind (zi (qa.F o_11_4) v.2.2) fun e1=>
 .cond v.2.1 (
 .chk (qy (v.2.2 + 1)) <|
 .ret (.inl (decide ((qb.No e1)=s2_11),true,v.2.2 + 1))) <|
 .bind (zi (qa.F o_11_4) v.2.2) fun e2=>
 .cond (decide ((qb.No e2)=s2_11)) (
 .bind (zi (qa.F o_11_4) v.2.2) fun e3=>
 .bind (qaW N (qd.V (qb.C e3))) fun r4=>
 .chk (qy (v.2.2 + 1)) <|
 .ret (.inl (decide ((qb.No e1)=s2_11),eqE (.ba 32) r4 o_11_2,v.2.2 + 1))) <|
 .chk (qy (v.2.2 + 1)) <|
 .ret (.inl (decide ((qb.No e1)=s2_11),false,v.2.2 + 1))) <|
 .ret (.inr (v.1,v.2.1,v.2.2,decide (v.2.2 < (((qa.F o_11_4).length:Nat):Int))))
def XM (N n:Nat) (f:Qa) (v:jQ):Option jr:=q0 (Qh N f.1 f.2.1 f.2.2.1 f.2.2.2.1 f.2.2.2.2.1 f.2.2.2.2.2) some n v
theorem qcE (N:Nat) (f:Qa) (n:Nat) (v:jQ) (y:jr) (h:XM N n f v=some y):LG Tryz.prog J9 8 (q_ qlO 11) (qcI f v) (jS f y):=
 zW qj (E:=Kc N) (L:=qR (qcL N)) (st:=jS f) (g:=some) (R:=jS f) (WX N) (qu (by kernel_rfl) trivial) (rg0 (by kernel_rfl)) (fun v=>by kernel_rfl) (zj (st:=jS f) fun y=>by rfl) n v y h
def Jp (N:Nat) (o_11:qc) (o_11_2:Vector UInt8 32) (o_11_3:qc) (o_11_4:qa) (s2_11:Int) (s15_11:Int) (s18_11:Bool) (s19_11:Bool) (s20_11:Int):Option jr:=XM N N (o_11,o_11_2,o_11_3,o_11_4,s2_11,s15_11) (s18_11,s19_11,s20_11)
def XQ (N:Nat):qI:=smL XX [qQ,(.ba 32),qQ,qi,(.i .i64),(.i .i64),.b,.b,(.i .i64)] jr (fun x=>Jp N x.1 x.2.1 x.2.2.1 x.2.2.2.1 x.2.2.2.2.1 x.2.2.2.2.2.1 x.2.2.2.2.2.2.1 x.2.2.2.2.2.2.2.1 x.2.2.2.2.2.2.2.2.1) cs1 fun x=>jS (x.1,x.2.1,x.2.2.1,x.2.2.2.1,x.2.2.2.2.1,x.2.2.2.2.2.1)
theorem qb_ (N:Nat):v3 Tryz.prog J9 8 (q_ qlO 11) (XQ N):=js fun x z h=>qcE N (x.1,x.2.1,x.2.2.1,x.2.2.2.1,x.2.2.2.2.1,x.2.2.2.2.2.1) N (x.2.2.2.2.2.2.1,x.2.2.2.2.2.2.2.1,x.2.2.2.2.2.2.2.2.1) z h
def qfh (z:Bool):TV×THp:=(xb z,[])
def Vb (N:Nat) (a0:qc) (a1:Vector UInt8 16) (a2:Int) (a3:qe) (a4:Vector UInt8 32):Tree (Bool):=
 .bind (quX) fun r1=>
 .bind (Xg N a0) fun r2=>
 .chk (0 < 16) <|
 .cond (!r1) (
 .ret r1) <|
 .cond (!r2) (
 .ret r1) <|
 .bind (Xm N a0) fun r3=>
 .cond (!r3) (
 .ret r1) <|
 .bind (qkX N (qg.mk 2 (((Vector.replicate 16 0)).setIfInBounds 0 ((UInt8.ofNat 200))) a3 0 [] [] a1 a2 a4)) fun r4=>
 .cond (!r4) (
 .ret r1) <|
 .cond (decide ((((qc.R a0).length:Nat):Int)=((10:Int)))) (
 .ret r1) <|
 .bind (qtQ N a0 (qg.mk 2 (((Vector.replicate 16 0)).setIfInBounds 0 ((UInt8.ofNat 200))) a3 0 [] [] a1 a2 a4)) fun r5=>
 .bind (qbO N a0 a1) fun r6=>
 .bind (Jp N a0 a4 r5.1 r6.1 a2 r5.2 false false 0) fun z7=>
 .cond (!z7.1) (
 .cond (decide (r5.2=6)) (
 .ret (decide ((((qc.R r5.1).length:Nat):Int)=((0:Int))))) <|
 .ret false) <|
 .cond (!z7.2.1) (
 .cond (decide (r5.2=7)) (
 .ret (decide ((((qc.R r5.1).length:Nat):Int)=((0:Int))))) <|
 .ret false) <|
 .cond (decide (r5.2=0)) (
 .ret (decide ((((qc.R a0).length:Nat):Int)≤(((qc.R r5.1).length:Nat):Int)))) <|
 .ret false
def vE (N:Nat) (a0:qc) (a1:Vector UInt8 16) (a2:Int) (a3:qe) (a4:Vector UInt8 32):Option (Bool):=(Vb N a0 a1 a2 a3 a4).run some
def qfM (N:Nat):List (Nat×qI):=[(11,XQ N)]
theorem qdU (N:Nat):qdn Tryz.prog ⟨8,[],[.x qQ,.x (.ba 16),.x (.i .i64),.x qn,.x (.ba 32)],[],[]⟩ [qQ,(.ba 16),(.i .i64),qn,(.ba 32)] (fun x=>Vb N x.1 x.2.1 x.2.2.1 x.2.2.2.1 x.2.2.2.2.1) (fun _=>qfh):=
 qa2 (H:=J9) (L:=qR (qfM N)) 0 qGe (WX N) (qu (by kernel_rfl) ⟨qb_ N,trivial⟩) (rg0 (by kernel_rfl)) fun x=>by kernel_rfl
end Go.Rx
end
set_option maxRecDepth 100000
noncomputable section
namespace Go.Rx
open Go.Proofs
abbrev JH (q:Nat→Bool) (n:Nat):Bool:=qv0 q n 0
theorem W6 {q:Nat→Bool} {n:Nat}:JH q n=true↔∀ j,j < n→q j=true:=by
 unfold JH; rw [qt_]
 exact ⟨fun h j hj=>h j (Nat.zero_le _) (by omega),fun h j _ hj=>h j (by omega)⟩
theorem qAU {p q:Nat→Bool} {n:Nat} (h:jT p n 0=none) (hq:∀ j,j < n→p j=!q j):JH q n=true:=
 W6.2 fun j hj=>by
  have:=qfP h j (Nat.zero_le _) (by omega)
  rw [hq j hj] at this; simpa using this
theorem qCy {p q:Nat→Bool} {n i:Nat} (h:jT p n 0=some i) (hq:∀ j,j < n→p j=!q j):JH q n=false:=by
 obtain ⟨h1,_,h2,_⟩:=qgb h
 cases e:JH q n with
 | false=>rfl
 | true=>
  have:=W6.1 e i (by omega)
  rw [hq i (by omega),this] at h1; simp at h1
theorem qb1 {α Y : Type} {B : Int → Tree (Int ⊕ (α ⊕ (Int × Bool)))} {g : α ⊕ (Int × Bool) → Option Y} {q : Nat → Bool} {n : Nat} {hit : α}
    (h1:∀ k,k < n→(B (k:Int)).run some=some (if q k then .inl ((k + 1:Nat):Int) else .inr (.inl hit))) (h2:(B (n:Int)).run some=some (.inr (.inr (((n:Nat):Int),false)))) {N:Nat} (hN:n < N) :
    q0 B g N ((0:Nat):Int)=g (if JH q n then .inr (((n:Nat):Int),false) else .inl hit):=by
 rw [qe3 (p:=fun k=>!q k) (hit:=fun _=>.inl hit) (fin:=.inr (((n:Nat):Int),false)) (n:=n) (fun k hk=>by rw [h1 k hk]; cases q k<;>rfl) h2 N 0 (Nat.zero_le _) (by omega),Nat.sub_zero]
 cases e:jT (fun k=>!q k) n 0 with
 | none=>rw [qAU e fun _ _=>rfl]; rfl
 | some i=>rw [qCy e fun _ _=>rfl]; rfl
theorem qhi {α:Type} {d:α} {l:List α} {k:Nat} (h:k < l.length):l.take (k + 1)=l.take k++[l.getD k d]:=by
 rw [List.take_succ_eq_append_getElem h,List.getD_eq_getElem?_getD,List.getElem?_eq_getElem h]; rfl
class Zg (N:Nat):Prop where
 h:100000≤N
theorem Zg.of {N:Nat} (h:100000≤N):Zg N:=⟨h⟩
theorem big (N:Nat) [Zg N]:100000≤N:=Zg.h
abbrev zSt:qe:=((0:Int),(0:Int))
theorem qDK {c n:Nat}:decide (((c:Nat):Int) < ((n:Nat):Int))=!decide (n≤c):=by
 by_cases h:n≤c
 ·rw [decide_eq_true h,decide_eq_false (by omega)]; rfl
 ·rw [decide_eq_false h,decide_eq_true (by omega)]; rfl
def stB (a:qe):Bool:=decide (a=zSt)||(decide (0 < a.1)&&decide (a.1≤1099511627776)&&decide (0≤a.2)&&decide (a.2 < 8))
def slB (a b:qe):Bool:=decide (a.1 < b.1∨(a.1=b.1∧a.2 < b.2))
theorem qkw (a b:qe):eqE qn a b=decide (a=b):=Bool.eq_iff_iff.2 ((Jg qn a b).trans (decide_eq_true_iff (p:=(a:Int×Int)=b)).symm)
theorem qtY (a b:Vector UInt8 16):eqE (.ba 16) a b=decide (a=b):=Bool.eq_iff_iff.2 ((Jg (.ba 16) a b).trans (decide_eq_true_iff (p:=(a:Vector UInt8 16)=b)).symm)
theorem qhm (a:qe):WG a=some (stB a):=by
 unfold WG qfW
 have e:=qkw a (qe.mk 0 0)
 simp only [Tree.run,e]
 show (bif decide (a=zSt) then _ else _)=some (decide (a=zSt)||_)
 cases decide (a=zSt) with
 | true=>rfl
 | false=>
  show (bif decide (0 < a.1) then _ else _)=_
  cases decide (0 < a.1) with
  | false=>rfl
  | true=>
   show (bif decide (a.1≤1099511627776) then _ else _)=_
   cases decide (a.1≤1099511627776) with
   | false=>rfl
   | true=>
    show (bif decide (0≤a.2) then _ else _)=_
    cases decide (0≤a.2)<;>rfl
end Go.Rx
end
set_option maxRecDepth 100000
noncomputable section
namespace Go.Rx
open Go.Proofs
abbrev zP:qq:=(false,0,0,[])
def inP (a lo hi:Int):Bool:=decide (lo≤a)&&decide (a≤hi)
def WE (p:qq):Bool:=bif p.qz6 then inP p.WS 0 200&&inP p.Len 1 200&&decide (p.Lit=[]) else decide (p=(false,0,0,p.Lit))&&inP (p.Lit.length:Nat) 1 200
theorem qE4 (a b:qq):eqE qK a b=decide (a=b):=Bool.eq_iff_iff.2 ((Jg qK a b).trans (decide_eq_true_iff (p:=(a:Bool×Int×Int×List UInt8)=b)).symm)
theorem qvP (a lo hi:Int):qbf a lo hi=some (inP a lo hi):=by
 unfold qbf qhB inP
 exact jW rfl (fun h=>qD (by rw [h]; rfl)) fun h=>qD (by rw [h]; rfl)
theorem qEm (p:qq):qeE p=some (WE p):=by
 unfold qeE qfQ WE
 refine jW rfl (fun h=>?_) fun h=>?_
 ·rw [h]
  refine qz (qvP _ _ _) <| jW rfl (fun h1=>?_) fun h1=>qD (by rw [h1]; rfl)
  refine qz (qvP _ _ _) <| jW rfl (fun h2=>?_) fun h2=>qD (by rw [h1,h2]; rfl)
  exact qD (by rw [h1,h2]; rfl)
 ·rw [h]
  exact jW (qE4 _ _) (fun h1=>qz (qvP _ _ _) (qD (by rw [show decide (p=(false,0,0,p.Lit))=true from h1]; rfl))) fun h1=>qD (by rw [show decide (p=(false,0,0,p.Lit))=false from h1]; rfl)
def qdM (l:List qq) (k:Nat):Int:=((l.take k).map fun p=>p.Len + ((p.Lit.length:Nat):Int)).sum
def qrp (l:List qq):Bool:=JH (fun k=>WE (l.getD k zP)) l.length&&decide (l.length≤60)&&decide (qdM l l.length≤200)
theorem qr_ {l:List qq} {k:Nat} (h:k < l.length):qdM l (k + 1)=qdM l k + ((l.getD k zP).Len + (((l.getD k zP).Lit.length:Nat):Int)):=by
 unfold qdM
 rw [qhi (d:=zP) h,List.map_append,List.sum_append]; simp
theorem qrM {p:qq} (h:WE p=true):0≤p.Len + ((p.Lit.length:Nat):Int)∧p.Len + ((p.Lit.length:Nat):Int)≤200∧0≤p.Len:=by
 unfold WE inP at h
 cases e:p.qz6 with
 | true=>
  rw [e,cond_true] at h
  simp only [Bool.and_eq_true,decide_eq_true_eq] at h
  obtain ⟨⟨_,h1,h2⟩,h3⟩:=h
  rw [h3]; simp only [List.length_nil]; omega
 | false=>
  rw [e,cond_false] at h
  simp only [Bool.and_eq_true,decide_eq_true_eq] at h
  obtain ⟨h1,h2,h3⟩:=h
  have:p.Len=0:=by rw [h1]; rfl
  omega
theorem qx7 {l:List qq}:∀ {k:Nat},k≤l.length→(∀ j,j < k→WE (l.getD j zP)=true)→0≤qdM l k∧qdM l k≤200 * (k:Int)
 | 0,_,_=>by unfold qdM; simp
 | k + 1,hk,h=>by
  have h1:=qx7 (k:=k) (by omega) fun j hj=>h j (by omega)
  have h2:=qrM (h k (by omega))
  rw [qr_ (by omega)]; omega
theorem qph {V W Y : Type} {B : V → Tree (V ⊕ W)} {g : W → Option Y} {at_ : Nat → V} {q : Nat → Bool} {n : Nat} {hit fin : W}
    (h1:∀ k,k < n→(∀ j,j < k→q j=true)→(B (at_ k)).run some=some (if q k then .inl (at_ (k + 1)) else .inr hit)) (h2:(B (at_ n)).run some=some (.inr fin)) :
    ∀ (m k:Nat),k + m=n→∀ N,m < N→(∀ j,j < k→q j=true)→q0 B g N (at_ k)=g (if JH q n then fin else hit)
 | 0,k,hk,N + 1,_,hq=>by
  obtain rfl:k=n:=by omega
  rw [zK h2,if_pos (W6.2 hq)]
 | m + 1,k,hk,N + 1,hN,hq=>by
  have h:=h1 k (by omega) hq
  cases e:q k with
  | true=>
   rw [e,if_pos rfl] at h
   rw [Ja h]
   exact qph h1 h2 m (k + 1) (by omega) N (by omega) fun j hj=>by
    by_cases ej:j=k
    ·rw [ej]; exact e
    ·exact hq j (by omega)
  | false=>
   rw [e,if_neg (by simp)] at h
   rw [zK h,if_neg (fun ha=>by have:=W6.1 ha k (by omega); rw [e] at this; cases this)]
 | _,_,_,0,hN,_=>by omega
section
variable {N:Nat} [Zg N]
theorem qCk {l : List qq} (hl : l.length < N) (hl2 : l.length ≤ 1000000000000000) :
    qdK N l l ((l.length:Nat):Int) 0 0=some (if JH (fun k=>WE (l.getD k zP)) l.length then .inr (qdM l l.length,((l.length:Nat):Int),false) else .inl ()):=by
 refine (qph (B:=Yz N l l ((l.length:Nat):Int)) (g:=some) (at_:=fun k=>(qdM l k,(k:Int))) (q:=fun k=>WE (l.getD k zP)) (n:=l.length) (hit:=.inl ()) (fin:=.inr (qdM l l.length,((l.length:Nat):Int),false)) (fun k hk hq=>?_) ?_ l.length 0 (by omega) N (by omega) (fun j hj=>by omega)).trans ?_
 ·unfold Yz
  refine w_t (dec_lt hk) <| qz (vM (d:=zP) hk) <| qz (qEm _) <| jW rfl (fun h=>?_) fun h=>?_
  ·have h':WE (l.getD k zP)=false:=by rw [Bool.not_eq_true'] at h; exact h
   rw [h']; exact qD rfl
  ·have h':WE (l.getD k zP)=true:=by rw [Bool.not_eq_false'] at h; exact h
   have h1:=qx7 (k:=k) (Nat.le_of_lt hk) hq
   have h2:=qrM h'
   rw [h']
   refine qY (show qy ((l.getD k zP).Len + (((l.getD k zP).Lit.length:Nat):Int)) by unfold qy; omega) <| qY (show qy (qdM l k + ((l.getD k zP).Len + (((l.getD k zP).Lit.length:Nat):Int))) by unfold qy; omega) <| qY (QU (by omega)) <| qD ?_
   rw [if_pos rfl,qr_ hk,zw]
 ·unfold Yz
  exact w_f (jw (Nat.lt_irrefl _)) (qD (by rw [jw (Nat.lt_irrefl _)]))
 ·split<;>rfl
theorem qC8 {l:List qq} (hl:l.length < N) (hl2:l.length≤1000000000000000):qca N l=some (qrp l):=by
 unfold qca qfK qrp
 refine qz (qCk hl hl2) ?_
 cases JH (fun k=>WE (l.getD k zP)) l.length with
 | false=>rfl
 | true=>
  refine w_r rfl <| jW (c:=decide (l.length≤60)) (decide_eq_decide.2 (by omega)) (fun h=>qD ?_) fun h=>qD ?_
  ·rw [h]; rfl
  ·rw [h]; rfl
end
section
variable {N:Nat}
theorem qD7 {l m : List qq} (hl : l.length < N) (hm : m.length = l.length) (hl2 : l.length ≤ 1000000000000000) :
    Vx N l m ((l.length:Nat):Int) 0=some (if JH (fun k=>decide (l.getD k zP=m.getD k zP)) l.length then .inr (((l.length:Nat):Int),false) else .inl ()):=by
 refine (qb1 (B:=Q3 N l m ((l.length:Nat):Int)) (g:=some) (q:=fun k=>decide (l.getD k zP=m.getD k zP)) (n:=l.length) (hit:=()) (fun k hk=>?_) ?_ hl)
 ·unfold Q3
  refine w_t (dec_lt hk) <| qz (vM (d:=zP) hk) <| qz (vM (d:=zP) (by omega)) <| jW rfl (fun h=>?_) fun h=>?_
  ·have h':decide (l.getD k zP=m.getD k zP)=false:=by rw [qE4,Bool.not_eq_true'] at h; exact h
   rw [h']; exact qD rfl
  ·have h':decide (l.getD k zP=m.getD k zP)=true:=by rw [qE4,Bool.not_eq_false'] at h; exact h
   rw [h']; exact qY (QU (by omega)) <| qD (by rw [zw]; rfl)
 ·unfold Q3
  exact w_f (jw (Nat.lt_irrefl _)) (qD (by rw [jw (Nat.lt_irrefl _)]))
theorem qs8 {α:Type} {d:α} {l m:List α} (h:m.length=l.length) (hg:∀ k,k < l.length→l.getD k d=m.getD k d):l=m:=by
 refine List.ext_getElem h.symm fun i h1 h2=>?_
 have:=hg i h1
 rw [List.getD_eq_getElem?_getD,List.getD_eq_getElem?_getD,List.getElem?_eq_getElem h1,List.getElem?_eq_getElem h2] at this
 exact this
theorem qFG {l m:List qq} (hl:l.length < N) (hl2:l.length≤1000000000000000):qdb N l m=some (decide (l=m)):=by
 have e:J4 N l m=some (decide (l=m)):=by
  unfold J4 V_
  by_cases hm:m.length=l.length
  ·refine w_f (by rw [decide_eq_true (by omega)]; rfl) <| qz (qD7 hl hm hl2) ?_
   cases e:JH (fun k=>decide (l.getD k zP=m.getD k zP)) l.length with
   | true=>
    have:l=m:=qs8 hm fun k hk=>of_decide_eq_true (W6.1 e k hk)
    exact w_r rfl (qD (by rw [decide_eq_true this]))
   | false=>
    have:¬ l=m:=fun h=>by
     rw [W6.2 (fun k _=>by rw [h]; exact decide_eq_true rfl)] at e; cases e
    exact w_l rfl (qD (by rw [decide_eq_false this]))
  ·exact w_t (by rw [decide_eq_false (by omega)]; rfl) (qD (by rw [decide_eq_false (fun h=>hm (by rw [h]))]))
 unfold qdb qee
 exact qz e (qD rfl)
theorem qET (a b:Vector UInt8 32):eqE (.ba 32) a b=decide (a=b):=Bool.eq_iff_iff.2 ((Jg (.ba 32) a b).trans (decide_eq_true_iff (p:=(a:Vector UInt8 32)=b)).symm)
theorem qCi {a b:qg} (hl:(qg.P a).length < N) (hl2:(qg.P a).length≤1000000000000000):qlv N a b=some (decide (a=b)):=by
 unfold qlv qlq
 have no:∀ {p:Prop} [Decidable p],(a=b→p)→decide p=false→some false=some (decide (a=b)):=fun hp h=>by rw [decide_eq_false (fun e=>of_decide_eq_false h (hp e))]
 refine jW (qtY _ _) (fun h1=>?_) fun h1=>qD (no (fun e=>by rw [e]) h1)
 refine jW (qtY _ _) (fun h2=>?_) fun h2=>qD (no (fun e=>by rw [e]) h2)
 refine jW rfl (fun h3=>?_) fun h3=>qD (no (fun e=>by rw [e]) h3)
 refine jW rfl (fun h4=>?_) fun h4=>qD (no (fun e=>by rw [e]) h4)
 refine jW rfl (fun h5=>?_) fun h5=>qD (no (fun e=>by rw [e]) h5)
 refine jW (qkw _ _) (fun h6=>?_) fun h6=>qD (no (fun e=>by rw [e]) h6)
 refine jW rfl (fun h7=>?_) fun h7=>qD (no (fun e=>by rw [e]) h7)
 refine jW (qET _ _) (fun h8=>?_) fun h8=>qD (no (fun e=>by rw [e]) h8)
 refine qz (qFG hl hl2) <| qD ?_
 have key:qg.P a=qg.P b↔a=b:=by
  obtain ⟨a1,a2,a3,a4,a5,a6,a7,a8,a9⟩:=a
  obtain ⟨b1,b2,b3,b4,b5,b6,b7,b8,b9⟩:=b
  have e1:a2=b2:=of_decide_eq_true h1
  have e2:a7=b7:=of_decide_eq_true h2
  have e3:a4=b4:=of_decide_eq_true h3
  have e4:a8=b8:=of_decide_eq_true h4
  have e5:a1=b1:=of_decide_eq_true h5
  have e6:a3=b3:=of_decide_eq_true h6
  have e7:a5=b5:=of_decide_eq_true h7
  have e8:a9=b9:=of_decide_eq_true h8
  subst e1 e2 e3 e4 e5 e6 e7 e8
  exact ⟨fun h=>by have h:a6=b6:=h; rw [h],fun h=>by rw [h]⟩
 exact congrArg some (decide_eq_decide.2 key)
end
theorem qrY (a:Int):qb6 a=some (decide (0≤a)&&decide (a < 8)):=by
 unfold qb6 qfH
 exact jW rfl (fun h=>qD (by rw [h]; rfl)) fun h=>qD (by rw [h]; rfl)
end Go.Rx
end
set_option maxRecDepth 100000
noncomputable section
namespace Go.Rx
open Go.Proofs
abbrev zI:Vector UInt8 16:=Vector.replicate 16 0
abbrev zD:Vector UInt8 32:=Vector.replicate 32 0
def qAi (o:qg):qg:=
 if o.Kind=1 then .mk o.Kind o.ID o.S o.No o.V [] zI 0 zD
 else if o.Kind=2 then .mk o.Kind o.ID o.S o.No [] [] o.WS o.Jt o.D
 else if o.Kind=3 then .mk o.Kind o.ID o.S o.No [] o.P zI 0 o.D
 else .mk o.Kind o.ID o.S 0 [] [] zI 0 zD
def qza (a:Int):Bool:=decide (0≤a)&&decide (a < 8)
def opB (o:qg):Bool:=!decide (o.Kind < 0)&&!decide (4≤o.Kind)&&decide (o=qAi o)&&!decide (o.S=zSt)&&stB o.S&&qza o.No&&qza o.Jt&&decide ((o.V.length:Int)≤200)&&qrp o.P
theorem qGh (o:qg):qlS o=some (qAi o):=by
 unfold qlS qkq qAi
 refine jW rfl (fun h=>qD ?_) fun h=>jW rfl (fun h2=>qD ?_) fun h2=>jW rfl (fun h3=>qD ?_) fun h3=>qD ?_
 ·rw [if_pos (of_decide_eq_true h)]
 ·rw [if_neg (of_decide_eq_false h),if_pos (of_decide_eq_true h2)]
 ·rw [if_neg (of_decide_eq_false h),if_neg (of_decide_eq_false h2),if_pos (of_decide_eq_true h3)]
 ·rw [if_neg (of_decide_eq_false h),if_neg (of_decide_eq_false h2),if_neg (of_decide_eq_false h3)]
section
variable {N:Nat} [Zg N]
theorem quS {o:qg} (hl:(qg.P o).length < N) (hl2:(qg.P o).length≤1000000000000000):qkX N o=some (opB o):=by
 unfold qkX qou opB
 refine jW rfl (fun h1=>qD (by rw [h1]; rfl)) fun h1=>?_
 refine jW rfl (fun h2=>qD (by rw [h1,h2]; rfl)) fun h2=>?_
 refine qz (qGh o) <| qz (qCi hl hl2) ?_
 refine jW rfl (fun h3=>qD ?_) fun h3=>?_
 ·rw [Bool.not_eq_true'] at h3
  rw [h1,h2,h3]; rfl
 rw [Bool.not_eq_false'] at h3
 refine jW (qkw _ _) (fun h4=>qD ?_) fun h4=>?_
 ·have h4:decide (o.S=zSt)=true:=h4
  rw [h1,h2,h3,h4]; rfl
 have h4:decide (o.S=zSt)=false:=h4
 refine qz (qhm _) <| jW rfl (fun h5=>?_) fun h5=>qD (by rw [h1,h2,h3,h4,h5]; rfl)
 refine qz (qrY _) <| jW (show _=qza o.No from rfl) (fun h6=>?_) fun h6=>qD (by rw [h1,h2,h3,h4,h5,h6]; rfl)
 refine qz (qrY _) <| jW (show _=qza o.Jt from rfl) (fun h7=>?_) fun h7=>qD (by rw [h1,h2,h3,h4,h5,h6,h7]; rfl)
 refine jW rfl (fun h8=>?_) fun h8=>qD (by rw [h1,h2,h3,h4,h5,h6,h7,h8]; rfl)
 exact qz (qC8 hl hl2) <| qD (by rw [h1,h2,h3,h4,h5,h6,h7,h8]; rfl)
end
end Go.Rx
end
set_option maxRecDepth 100000
noncomputable section
namespace Go.Rx
open Go.Proofs
section n
variable {N:Nat} [Zg N]
def sgn (a b:Int):Int:=if a < b then -1 else if b < a then 1 else 0
theorem qHs (a b:Int):JQ a b=some (sgn a b):=by
 unfold JQ YX Ky qaR
 simp only [Tree.run,Option.bind_some,decide_true,Bool.not_true,cond_false,sgn]
 by_cases h:a < b
 ·simp [h]
 ·by_cases h2:b < a
  ·simp [h,h2]
  ·simp [h,h2]
theorem qzF (a b:Int):qaG N [a,b]=some (if a=0 then b else a):=by
 obtain ⟨n,rfl⟩:∃ n,N=n + 3:=⟨N - 3,by have:=big N; omega⟩
 have e:qcr (n + 3) [a,b] ((([a,b]:List Int).length:Nat):Int) 0=q0 (QL (n + 3) [a,b] 2) some (n + 3) 0:=rfl
 have r0:(QL (n + 3) [a,b] 2 0).run some=if a=0 then some (.inl 1) else some (.inr (.inl a)):=by
  unfold QL
  have g:zi [a,b] 0=some a:=rfl
  have c:qy ((0:Int) + 1):=by unfold qy; omega
  rw [qP,show decide ((0:Int) < 2)=true from rfl,cond_true,run_bind,g,Option.bind_some,qP,zE,ql c]
  by_cases h:a=0
  ·rw [if_pos h,decide_eq_true h]; rfl
  ·rw [if_neg h,decide_eq_false h]; rfl
 have r1:(QL (n + 3) [a,b] 2 1).run some=if b=0 then some (.inl 2) else some (.inr (.inl b)):=by
  unfold QL
  have g:zi [a,b] 1=some b:=rfl
  have c:qy ((1:Int) + 1):=by unfold qy; omega
  rw [qP,show decide ((1:Int) < 2)=true from rfl,cond_true,run_bind,g,Option.bind_some,qP,zE,ql c]
  by_cases h:b=0
  ·rw [if_pos h,decide_eq_true h]; rfl
  ·rw [if_neg h,decide_eq_false h]; rfl
 have r2:(QL (n + 3) [a,b] 2 2).run some=some (.inr (.inr (2,false))):=rfl
 unfold qaG qdZ
 rw [run_bind,e]
 by_cases h:a=0
 ·rw [if_pos h] at r0
  rw [Ja r0,if_pos h]
  by_cases h2:b=0
  ·rw [if_pos h2] at r1
   rw [Ja r1,zK r2,h2]; rfl
  ·rw [if_neg h2] at r1
   rw [zK r1]; rfl
 ·rw [if_neg h] at r0
  rw [zK r0,if_neg h]; rfl
theorem qH3 (a b:Int):sgn a b=-1∨sgn a b=0∨sgn a b=1:=by
 unfold sgn; split
 ·exact .inl rfl
 ·split
  ·exact .inr (.inr rfl)
  ·exact .inr (.inl rfl)
theorem qbW (a b:qe):QE N a b=some (slB a b):=by
 obtain ⟨a1,a2⟩:=a
 obtain ⟨b1,b2⟩:=b
 unfold QE qdY
 simp only [Tree.run,qkw,qHs,Option.bind_some]
 by_cases h:((a1,a2):qe)=(b1,b2)
 ·cases h
  have:slB ((a1,a2):qe) (a1,a2)=false:=decide_eq_false (by simp only; omega)
  rw [this,decide_eq_true rfl]; rfl
 ·rw [decide_eq_false h]
  simp only [Bool.not_false,cond_true]
  show ((qaG N [sgn a1 b1,sgn a2 b2]).bind _)=_
  have hs:=qH3 a2 b2
  by_cases h1:a1 < b1
  ·rw [show sgn a1 b1=-1 from if_pos h1,qzF,show slB ((a1,a2):qe) (b1,b2)=true from decide_eq_true (.inl h1)]; rfl
  ·by_cases h2:b1 < a1
   ·rw [show sgn a1 b1=1 by unfold sgn; rw [if_neg h1,if_pos h2],qzF,show slB ((a1,a2):qe) (b1,b2)=false from decide_eq_false (by simp only; omega)]; rfl
   ·have he:a1=b1:=by omega
    rw [show sgn a1 b1=0 by unfold sgn; rw [if_neg h1,if_neg h2],qzF,if_pos rfl,Option.bind_some]
    congr 1
    show decide (sgn a2 b2 < 0)=decide (a1 < b1∨(a1=b1∧a2 < b2))
    rw [decide_eq_decide]
    simp only [he,Int.lt_irrefl,false_or,true_and]
    unfold sgn
    split
    ·rename_i h3; simp [h3]
    ·rename_i h3
     split
     ·simp; omega
     ·simp; omega
end n
end Go.Rx
end
set_option maxRecDepth 100000
noncomputable section
namespace Go.Rx
open Go.Proofs
def lbB (a b:Vector UInt8 16):Bool:=!decide (a=b)&&decide (Go.Lib.compareBytes a.toList b.toList < 0)
section n
variable {N:Nat} [Zg N]
theorem qur {k:Nat} (h:0 < k):(k:Int) - 1=((k - 1:Nat):Int):=by omega
theorem qGq {k:Nat}:decide ((0:Int) < (k:Int))=!decide (k=0):=by
 by_cases h:k=0
 ·subst h; rfl
 ·rw [decide_eq_false h,decide_eq_true (by omega)]; rfl
theorem qEu (a b:Vector UInt8 16):qeR a b=some (lbB a b):=by
 unfold qeR qga XR qaA qEa lbB
 simp only [Tree.run,Option.bind_some,qtY]
 cases decide (a=b)<;>rfl
end n
theorem qne (a:Vector UInt8 16):lbB a a=false:=by unfold lbB; rw [decide_eq_true rfl]; rfl
end Go.Rx
end
set_option maxRecDepth 100000
noncomputable section
namespace Go.Rx
abbrev c32 (x:UInt32):Int:=((x.toNat:Nat):Int)
theorem qEQ (x:UInt32):x.toNat < 4294967296:=x.toNat_lt
theorem qhs (n:Nat):IntKind.u32.wrap ((n:Nat):Int)=((n % 4294967296:Nat):Int):=by rw [IntKind.wrap_u32']; omega
theorem KX (x:UInt32):BitVec.ofInt 32 (c32 x)=x.toBitVec:=by
 apply BitVec.eq_of_toNat_eq
 rw [ofInt_u32 _ (qEQ x)]
 rfl
theorem qnP (x:UInt32):IntKind.u32.wrap ((x.toNat:Nat):Int)=c32 x:=by rw [qhs,Nat.mod_eq_of_lt (qEQ x)]
theorem qAm (x y:UInt32):KH .u32 (c32 x) (c32 y)=c32 (x + y):=by
 unfold KH
 show IntKind.u32.wrap (((x.toNat:Nat):Int) + ((y.toNat:Nat):Int))=_
 rw [← Int.natCast_add,qhs,c32,UInt32.toNat_add]
theorem qzV (x y:UInt32):KP .u32 (c32 x) (c32 y)=c32 (x ^^^ y):=by
 unfold KP
 rw [show IntKind.u32.bits=32 from rfl,KX,KX]
 exact qnP (x ^^^ y)
theorem qHS (x y:UInt32):qd8 .u32 (c32 x) (c32 y)=c32 (x &&& y):=by
 unfold qd8
 rw [show IntKind.u32.bits=32 from rfl,KX,KX]
 exact qnP (x &&& y)
theorem qHC (x y:UInt32):uOr .u32 (c32 x) (c32 y)=c32 (x ||| y):=by
 unfold uOr
 rw [show IntKind.u32.bits=32 from rfl,KX,KX]
 exact qnP (x ||| y)
theorem qHQ (x:UInt32):KP .u32 4294967295 (c32 x)=c32 (~~~x):=by
 have h:(4294967295:Int)=c32 4294967295:=rfl
 rw [h,qzV]
 congr 2
theorem qtH (x:UInt32) (n:Nat) (h:n < 32):qrh .u32 (c32 x) n=c32 (x <<< UInt32.ofNat n):=by
 unfold qrh
 rw [show c32 x * 2 ^ n=((x.toNat * 2 ^ n:Nat):Int) by push_cast; rfl,qhs,c32,UInt32.toNat_shiftLeft,UInt32.toNat_ofNat_of_lt' (show n < UInt32.size by unfold UInt32.size; omega),Nat.mod_eq_of_lt h,Nat.shiftLeft_eq]
theorem qtB (x:UInt32) (n:Nat) (h:n < 32):Zv (c32 x) n=c32 (x >>> UInt32.ofNat n):=by
 unfold Zv
 rw [show ((2:Int) ^ n)=((2 ^ n:Nat):Int) by push_cast; rfl,Int.fdiv_eq_ediv_of_nonneg _ (Int.natCast_nonneg _),c32,← Int.natCast_ediv,c32,UInt32.toNat_shiftRight,UInt32.toNat_ofNat_of_lt' (show n < UInt32.size by unfold UInt32.size; omega),Nat.mod_eq_of_lt h,Nat.shiftRight_eq_div_pow]
theorem qtL (x:UInt32):inW (c32 x):=⟨Int.natCast_nonneg _,by have:=qEQ x; show ((x.toNat:Nat):Int) < _; omega⟩
def rot (x:UInt32) (n:Nat):UInt32:=(x <<< UInt32.ofNat (32 - n)) ||| (x >>> UInt32.ofNat n)
end Go.Rx
end
set_option maxRecDepth 100000
noncomputable section
namespace Go.Rx
open Go.Proofs
theorem qGW:∀ n < 32,0 < n→qd8 .u64 (IntKind.u64.wrap (0 - ((n:Nat):Int))) 31=((32 - n:Nat):Int):=by decide +kernel
theorem qGl:∀ n < 32,0 < n→qHf .u64 (32:Int) ((32 - n:Nat):Int)=((n:Nat):Int):=by decide +kernel
theorem qel (x:UInt32) (n:Nat) (h:n < 32) (h0:0 < n):zU (c32 x) ((n:Nat):Int)=some (c32 (rot x n)):=by
 unfold zU qfr Vg Ju
 have h64:qy (0 - ((n:Nat):Int)):=by unfold qy; omega
 simp only [run_bind,zE,qZ,ql h64,qGW n h h0,qGl n h h0]
 rw [ql (show (0:Int)≤((32 - n:Nat):Int) by omega),ql (show (0:Int)≤((n:Nat):Int) by omega),Int.toNat_natCast,Int.toNat_natCast,Nat.min_eq_left (show 32 - n≤32 by omega),Nat.min_eq_left (show n≤32 by omega),qtH x _ (by omega),qtB x n h,qHC]
 rfl
abbrev wAt {n:Nat} (v:Vector UInt32 n) (k:Nat):UInt32:=v.toList.getD k 0
abbrev bAt (l:List UInt8) (k:Nat):UInt32:=(l.getD k 0).toUInt32
def qq0 (b:List UInt8) (k:Nat) (w:Vector UInt32 64):Vector UInt32 64:=
 if k < 16 then w.setIfInBounds k ((bAt b (4 * k) <<< UInt32.ofNat 24) ||| (bAt b (4 * k + 1) <<< UInt32.ofNat 16) ||| (bAt b (4 * k + 2) <<< UInt32.ofNat 8) ||| bAt b (4 * k + 3))
 else w.setIfInBounds k (wAt w (k - 16) + wAt w (k - 7) + (rot (wAt w (k - 15)) 7 ^^^ rot (wAt w (k - 15)) 18 ^^^ (wAt w (k - 15) >>> UInt32.ofNat 3)) + (rot (wAt w (k - 2)) 17 ^^^ rot (wAt w (k - 2)) 19 ^^^ (wAt w (k - 2) >>> UInt32.ofNat 10)))
def qot (b:List UInt8):Vector UInt32 64:=Z6 (qq0 b) 64 0 (Vector.replicate 64 0)
theorem qHH (c:UInt8):IntKind.u32.wrap ((c.toNat:Nat):Int)=c32 c.toUInt32:=by
 rw [qhs,Nat.mod_eq_of_lt (by have:=c.toNat_lt; omega),c32,UInt8.toNat_toUInt32]
theorem qHl {N:Nat} {o:Vector UInt32 64} {b:List UInt8} {w:Vector UInt32 64} {k:Nat} (hb:b.length=64) (hk:k < 16):(vQ N o b (w,(k:Int))).run some=some (.inl (qq0 b k w,((k + 1:Nat):Int))):=by
 have g:∀ j < 4,zi b ((4:Int) * (k:Int) + ((j:Nat):Int))=some (b.getD (4 * k + j) 0):=fun j hj=>by
  rw [show (4:Int) * (k:Int) + ((j:Nat):Int)=((4 * k + j:Nat):Int) by omega]; exact vM (by omega)
 have g0:zi b ((4:Int) * (k:Int))=some (b.getD (4 * k) 0):=by have:=g 0 (by omega); simpa using this
 have g1:zi b ((4:Int) * (k:Int) + 1)=some (b.getD (4 * k + 1) 0):=g 1 (by omega)
 have g2:zi b ((4:Int) * (k:Int) + 2)=some (b.getD (4 * k + 2) 0):=g 2 (by omega)
 have g3:zi b ((4:Int) * (k:Int) + 3)=some (b.getD (4 * k + 3) 0):=g 3 (by omega)
 have c0:qy ((4:Int) * (k:Int)):=by unfold qy; omega
 have c1:qy ((4:Int) * (k:Int) + 1):=by unfold qy; omega
 have c2:qy ((4:Int) * (k:Int) + 2):=by unfold qy; omega
 have c3:qy ((4:Int) * (k:Int) + 3):=by unfold qy; omega
 have c4:qy ((k:Int) + 1):=by unfold qy; omega
 have d1:decide ((k:Int) < 64)=true:=decide_eq_true (by omega)
 have d2:decide ((k:Int) < 16)=true:=decide_eq_true (by omega)
 have p8:(0:Int)≤8:=by omega
 have p16:(0:Int)≤16:=by omega
 have p24:(0:Int)≤24:=by omega
 have pk:(0:Int)≤(k:Int)∧(k:Int) < ((64:Nat):Int):=by omega
 have pk2:k < 64:=by omega
 unfold vQ qq0
 rw [if_pos hk]
 simp only [qP,run_bind,zE,qZ,d1,d2,cond_true,ql c0,ql c1,ql c2,ql c3,g0,g1,g2,g3,Option.bind_some,ql p8,ql p16,ql p24,qHH,qtH _ 24 (by omega),qtH _ 16 (by omega),qtH _ 8 (by omega),qHC,ql (qtL _),ql pk,UInt32.ofNat_toNat,Int.toNat_natCast,ql pk2,ql c4]
 rw [zw]
theorem qHd {N:Nat} {o:Vector UInt32 64} {b:List UInt8} {w:Vector UInt32 64} {k:Nat} (h1:¬ k < 16) (hk:k < 64):(vQ N o b (w,(k:Int))).run some=some (.inl (qq0 b k w,((k + 1:Nat):Int))):=by
 have c4:qy ((k:Int) + 1):=by unfold qy; omega
 have d1:decide ((k:Int) < 64)=true:=decide_eq_true (by omega)
 have d2:decide ((k:Int) < 16)=false:=decide_eq_false (by omega)
 have e15:(k:Int) - 15=((k - 15:Nat):Int):=by omega
 have e2:(k:Int) - 2=((k - 2:Nat):Int):=by omega
 have e16:(k:Int) - 16=((k - 16:Nat):Int):=by omega
 have e7:(k:Int) - 7=((k - 7:Nat):Int):=by omega
 have i15:qy (((k - 15:Nat)):Int):=by unfold qy; omega
 have i2:qy (((k - 2:Nat)):Int):=by unfold qy; omega
 have i16:qy (((k - 16:Nat)):Int):=by unfold qy; omega
 have i7:qy (((k - 7:Nat)):Int):=by unfold qy; omega
 have p15:(0:Int)≤((k - 15:Nat):Int)∧((k - 15:Nat):Int) < ((64:Nat):Int):=by omega
 have p2:(0:Int)≤((k - 2:Nat):Int)∧((k - 2:Nat):Int) < ((64:Nat):Int):=by omega
 have p16:(0:Int)≤((k - 16:Nat):Int)∧((k - 16:Nat):Int) < ((64:Nat):Int):=by omega
 have p7:(0:Int)≤((k - 7:Nat):Int)∧((k - 7:Nat):Int) < ((64:Nat):Int):=by omega
 have q15:k - 15 < 64:=by omega
 have q2:k - 2 < 64:=by omega
 have q16:k - 16 < 64:=by omega
 have q7:k - 7 < 64:=by omega
 have p3:(0:Int)≤3:=by omega
 have p10:(0:Int)≤10:=by omega
 have pk:(0:Int)≤(k:Int)∧(k:Int) < ((64:Nat):Int):=by omega
 have r7:=fun x=>qel x 7 (by omega) (by omega)
 have r18:=fun x=>qel x 18 (by omega) (by omega)
 have r17:=fun x=>qel x 17 (by omega) (by omega)
 have r19:=fun x=>qel x 19 (by omega) (by omega)
 unfold vQ qq0
 rw [if_neg h1]
 simp only [qP,run_bind,zE,qZ,d1,d2,cond_true,cond_false]
 rw [e15,e2,e16,e7]
 rw [ql i15,ql p15,Int.toNat_natCast,ql q15,ql i2,ql p2,Int.toNat_natCast,ql q2,ql i16,ql p16,Int.toNat_natCast,ql q16,ql i7,ql p7,Int.toNat_natCast,ql q7]
 show (Option.bind (zU (c32 (wAt w (k - 15))) ((7:Nat):Int)) _)=_
 rw [r7,Option.bind_some]
 show (Option.bind (zU (c32 (wAt w (k - 15))) ((18:Nat):Int)) _)=_
 rw [r18,Option.bind_some,ql p3]
 show (Option.bind (zU (c32 (wAt w (k - 2))) ((17:Nat):Int)) _)=_
 rw [r17,Option.bind_some]
 show (Option.bind (zU (c32 (wAt w (k - 2))) ((19:Nat):Int)) _)=_
 rw [r19,Option.bind_some,ql p10,ql pk]
 simp only [qzV,qAm,qtB _ 3 (by omega),qtB _ 10 (by omega),ql (qtL _),Int.toNat_natCast,UInt32.ofNat_toNat,ql hk,ql c4]
 rw [zw]
theorem qEE {N:Nat} {b:List UInt8} (hN:64 < N) (hb:b.length=64):qav N b=some (qot b):=by
 have key:qar N (Vector.replicate 64 0) b (Vector.replicate 64 0) 0=some (qot b,(64:Int),false):=by
  refine (QX (σ:=Vector UInt32 64) (B:=vQ N (Vector.replicate 64 0) b) (g:=some) (at_:=fun k s=>(s,(k:Int))) (I:=fun _ _=>True) (f:=qq0 b) (n:=64)
   (fin:=fun s=>(s,(64:Int),false)) (fun k s hk _=>⟨?_,trivial⟩) (fun s _=>?_) N 0 (Vector.replicate 64 0) trivial (Nat.zero_le _) (by omega))
  ·by_cases h:k < 16
   ·exact qHl hb h
   ·exact qHd h hk
  ·unfold vQ
   rfl
 unfold qav qbt
 rw [run_bind,key,Option.bind_some,qZ]
def tW (K w:Vector UInt32 64) (i:Nat) (x:Vector UInt32 8):UInt32:=wAt x 7 + (rot (wAt x 4) 6 ^^^ rot (wAt x 4) 11 ^^^ rot (wAt x 4) 25) + ((wAt x 4 &&& wAt x 5) ^^^ (~~~(wAt x 4) &&& wAt x 6)) + wAt K i + wAt w i
def uW (x:Vector UInt32 8):UInt32:=(rot (wAt x 0) 2 ^^^ rot (wAt x 0) 13 ^^^ rot (wAt x 0) 22) + ((wAt x 0 &&& wAt x 1) ^^^ (wAt x 0 &&& wAt x 2) ^^^ (wAt x 1 &&& wAt x 2))
def qvH (K w:Vector UInt32 64) (i:Nat) (x:Vector UInt32 8):Vector UInt32 8:=
 ((XI x 1 7).setIfInBounds 0 (tW K w i x + uW x)).setIfInBounds 4 (wAt ((XI x 1 7).setIfInBounds 0 (tW K w i x + uW x)) 4 + tW K w i x)
def qze (x:Vector UInt32 8) (k:Nat) (s:Vector UInt32 8):Vector UInt32 8:=s.setIfInBounds k (wAt s k + wAt x k)
def qtG (s:Vector UInt32 8) (K:Vector UInt32 64) (b:List UInt8):Vector UInt32 8:=Z6 (qze (Z6 (qvH K (qot b)) 64 0 s)) 8 0 s
theorem qGT {N:Nat} {s:Vector UInt32 8} {K w:Vector UInt32 64} {x:Vector UInt32 8} {k:Nat} (hk:k < 64):(Q8 N s K w (x,(k:Int))).run some=some (.inl (qvH K w k x,((k + 1:Nat):Int))):=by
 have c4:qy ((k:Int) + 1):=by unfold qy; omega
 have d1:decide ((k:Int) < 64)=true:=decide_eq_true (by omega)
 have pk:(0:Int)≤(k:Int)∧(k:Int) < ((64:Nat):Int):=by omega
 have hj:∀ j < 8,(0:Int)≤((j:Nat):Int)∧((j:Nat):Int) < ((8:Nat):Int):=fun j hj=>by omega
 have j0:(0:Int)≤(0:Int)∧(0:Int) < ((8:Nat):Int):=hj 0 (by omega)
 have j1:(0:Int)≤(1:Int)∧(1:Int) < ((8:Nat):Int):=hj 1 (by omega)
 have j2:(0:Int)≤(2:Int)∧(2:Int) < ((8:Nat):Int):=hj 2 (by omega)
 have j4:(0:Int)≤(4:Int)∧(4:Int) < ((8:Nat):Int):=hj 4 (by omega)
 have j5:(0:Int)≤(5:Int)∧(5:Int) < ((8:Nat):Int):=hj 5 (by omega)
 have j6:(0:Int)≤(6:Int)∧(6:Int) < ((8:Nat):Int):=hj 6 (by omega)
 have j7:(0:Int)≤(7:Int)∧(7:Int) < ((8:Nat):Int):=hj 7 (by omega)
 have n0:0 < 8:=by omega
 have n1:1 < 8:=by omega
 have n2:2 < 8:=by omega
 have n4:4 < 8:=by omega
 have n5:5 < 8:=by omega
 have n6:6 < 8:=by omega
 have n7:7 < 8:=by omega
 have r:=fun x n h h0=>qel x n h h0
 unfold Q8 qvH tW uW
 rw [qP,d1,cond_true]
 simp only [run_bind,zE,qZ]
 rw [ql j0,ql n0,ql j4,ql n4,ql j7,ql n7]
 show (Option.bind (zU (c32 (wAt x 4)) ((6:Nat):Int)) _)=_
 rw [r _ 6 (by omega) (by omega),Option.bind_some]
 show (Option.bind (zU (c32 (wAt x 4)) ((11:Nat):Int)) _)=_
 rw [r _ 11 (by omega) (by omega),Option.bind_some]
 show (Option.bind (zU (c32 (wAt x 4)) ((25:Nat):Int)) _)=_
 rw [r _ 25 (by omega) (by omega),Option.bind_some,ql j5,ql n5,ql j6,ql n6,ql pk,Int.toNat_natCast,ql hk]
 rw [ql pk,ql hk]
 show (Option.bind (zU (c32 (wAt x 0)) ((2:Nat):Int)) _)=_
 rw [r _ 2 (by omega) (by omega),Option.bind_some]
 show (Option.bind (zU (c32 (wAt x 0)) ((13:Nat):Int)) _)=_
 rw [r _ 13 (by omega) (by omega),Option.bind_some]
 show (Option.bind (zU (c32 (wAt x 0)) ((22:Nat):Int)) _)=_
 rw [r _ 22 (by omega) (by omega),Option.bind_some]
 rw [ql j1,ql n1,ql j2,ql n2,ql j1,ql n1,ql j2,ql n2,ql j0]
 simp only [qzV,qHS,qHQ,qAm,ql (qtL _),Int.toNat_natCast,UInt32.ofNat_toNat,ql n0,ql j4,ql n4,ql c4]
 rw [zw]
theorem qyD {N:Nat} {s:Vector UInt32 8} {K:Vector UInt32 64} {b:List UInt8} (hN:64 < N) (hb:b.length=64):Vy N s K b=some (qtG s K b):=by
 have k1:YS N s K (qot b) s 0=some (Z6 (qvH K (qot b)) 64 0 s,(64:Int),false):=by
  refine (QX (σ:=Vector UInt32 8) (B:=Q8 N s K (qot b)) (g:=some) (at_:=fun k s=>(s,(k:Int))) (I:=fun _ _=>True) (f:=qvH K (qot b)) (n:=64)
   (fin:=fun s=>(s,(64:Int),false)) (fun k x hk _=>⟨qGT hk,trivial⟩) (fun x _=>?_) N 0 s trivial (Nat.zero_le _) (by omega))
  unfold Q8
  rfl
 have k2:∀ x:Vector UInt32 8,Wy N K x s 0=some (Z6 (qze x) 8 0 s,(8:Int),false):=fun x=>by
  refine (QX (σ:=Vector UInt32 8) (B:=Z_ N K x) (g:=some) (at_:=fun k s=>(s,(k:Int))) (I:=fun _ _=>True) (f:=qze x) (n:=8)
   (fin:=fun s=>(s,(8:Int),false)) (fun k y hk _=>⟨?_,trivial⟩) (fun y _=>?_) N 0 s trivial (Nat.zero_le _) (by omega))
  ·have c4:qy ((k:Int) + 1):=by unfold qy; omega
   have d1:decide ((k:Int) < 8)=true:=decide_eq_true (by omega)
   have pk:(0:Int)≤(k:Int)∧(k:Int) < ((8:Nat):Int):=by omega
   unfold Z_ qze
   simp only [qP,run_bind,zE,qZ,d1,cond_true]
   rw [ql pk,Int.toNat_natCast,ql hk,ql pk,ql hk,ql pk]
   simp only [qAm,ql (qtL _),Int.toNat_natCast,UInt32.ofNat_toNat,ql hk,ql c4]
   rw [zw]
  ·unfold Z_
   rfl
 unfold Vy KO
 rw [run_bind,qEE hN hb,Option.bind_some,run_bind,k1,Option.bind_some,run_bind,k2,Option.bind_some,qZ]
 rfl
end Go.Rx
end
set_option maxRecDepth 100000
noncomputable section
namespace Go.Rx
open Go.Proofs
def qH8:Vector UInt32 8:=#v[1779033703,3144134277,1013904242,2773480762,1359893119,2600822924,528734635,1541459225]
def qH1:Vector UInt32 64:=#v[1116352408,1899447441,3049323471,3921009573,961987163,1508970993,2453635748,2870763221,
 3624381080,310598401,607225278,1426881987,1925078388,2162078206,2614888103,3248222580,
 3835390401,4022224774,264347078,604807628,770255983,1249150122,1555081692,1996064986,
 2554220882,2821834349,2952996808,3210313671,3336571891,3584528711,113926993,338241895,
 666307205,773529912,1294757372,1396182291,1695183700,1986661051,2177026350,2456956037,
 2730485921,2820302411,3259730800,3345764771,3516065817,3600352804,4094571909,275423344,
 430227734,506948616,659060556,883997877,958139571,1322822218,1537002063,1747873779,
 1955562222,2024104815,2227730452,2361852424,2428436474,2756734187,3204031479,3329325298]
def Wg (L:Nat):Nat:=(119 - L % 64) % 64
theorem qvw (n:Int):inB (IntKind.u8.wrap n):=by
 unfold inB
 have:IntKind.u8.wrap n=n % 256:=by simp [IntKind.wrap,IntKind.bits,IntKind.signed]
 rw [this]; omega
theorem qFf (a b:Nat):((a:Nat):Int).tmod ((b:Nat):Int)=((a % b:Nat):Int):=rfl
theorem qDP (a b:Nat):((a:Nat):Int).tdiv ((b:Nat):Int)=((a / b:Nat):Int):=rfl
theorem qzk {n k:Nat} (h:k≤2000000000):Vc n n k 1:=⟨rfl,by unfold zh; omega⟩
theorem qHz {N:Nat} {o:Vector UInt8 32} {b:List UInt8} (hb:b.length≤1000000000) (hN:64 < N):qc6 N o b (b++[128])=some (b++[128]++List.replicate (Wg b.length) 0,false):=by
 have hz:Wg b.length < 64:=Nat.mod_lt _ (by omega)
 have h56:(b.length + 1 + Wg b.length) % 64=56:=by unfold Wg; omega
 have hlen:∀ k,(b++[128]++List.replicate k (0:UInt8)).length=b.length + 1 + k:=fun k=>by simp; omega
 have hne:∀ k,k < Wg b.length→(b.length + 1 + k) % 64≠56:=fun k hk=>by unfold Wg at *; omega
 have e0:qc6 N o b (b++[128])=q0 (WZ N o b) some N (b++[128]++List.replicate 0 (0:UInt8)):=by rw [List.replicate_zero,List.append_nil]; rfl
 rw [e0]
 refine (QX (σ:=Unit) (B:=WZ N o b) (g:=some) (at_:=fun k _=>b++[128]++List.replicate k (0:UInt8)) (I:=fun _ _=>True) (f:=fun _ s=>s) (n:=Wg b.length)
  (fin:=fun _=>(b++[128]++List.replicate (Wg b.length) 0,false)) (fun k s hk _=>⟨?_,trivial⟩) (fun s _=>?_) N 0 () trivial (Nat.zero_le _) (by omega))
 ·unfold WZ
  have c1:(64:Int)≠0:=by omega
  have e:decide ((((b++[128]++List.replicate k (0:UInt8)).length:Nat):Int).tmod 64=56)=false:=decide_eq_false (by
   rw [hlen]
   have:=hne k hk
   show ¬ (((b.length + 1 + k) % 64:Nat):Int)=56
   omega)
  have c2:Vc (b++[128]++List.replicate k (0:UInt8)).length (b++[128]++List.replicate k (0:UInt8)).length ((b++[128]++List.replicate k (0:UInt8))++[UInt8.ofNat 0]).length 1:=qzk (by rw [List.length_append,hlen]; simp; omega)
  rw [zE,ql c1,qP,e,Bool.not_false,cond_true,zE,ql c2,qZ]
  rw [List.replicate_succ',← List.append_assoc]
  rfl
 ·unfold WZ
  have c1:(64:Int)≠0:=by omega
  have e:decide ((((b++[128]++List.replicate (Wg b.length) (0:UInt8)).length:Nat):Int).tmod 64=56)=true:=decide_eq_true (by
   rw [hlen]
   show (((b.length + 1 + Wg b.length) % 64:Nat):Int)=56
   omega)
  rw [zE,ql c1,qP,e,Bool.not_true,cond_false,qZ]
def qFk (L k:Nat):UInt8:=UInt8.ofNat (IntKind.u8.wrap (Zv (qGV .u64 (IntKind.u64.wrap ((L:Nat):Int)) 8) (min ((8:Int) * ((7:Int) - (k:Int))).toNat 64))).toNat
def qij (L k:Nat) (l:List UInt8):List UInt8:=l++[qFk L k]
theorem qwa {L:Nat}:∀ (m k:Nat) (l:List UInt8),(Z6 (qij L) m k l).length=l.length + m
 | 0,_,_=>rfl
 | m + 1,k,l=>by
  show (Z6 (qij L) m (k + 1) (qij L k l)).length=_
  rw [qwa m]; unfold qij; rw [List.length_append]; simp; omega
theorem qGF {N:Nat} {o:Vector UInt8 32} {b l:List UInt8} (hl:l.length≤1500000000) (hN:64 < N):qio N o b l 0=some (Z6 (qij b.length) 8 0 l,(8:Int),false):=by
 refine (QX (σ:=List UInt8) (B:=qaI N o b) (g:=some) (at_:=fun k s=>(s,(k:Int))) (I:=fun k s=>s.length=l.length + k) (f:=qij b.length) (n:=8)
  (fin:=fun s=>(s,(8:Int),false)) (fun k s hk hs=>⟨?_,?_⟩) (fun s _=>?_) N 0 l rfl (Nat.zero_le _) (by omega))
 ·have d1:decide ((k:Int) < 8)=true:=decide_eq_true (by omega)
  have c1:qy ((7:Int) - (k:Int)):=by unfold qy; omega
  have c2:qy ((8:Int) * ((7:Int) - (k:Int))):=by unfold qy; omega
  have c3:(0:Int)≤(8:Int) * ((7:Int) - (k:Int)):=by omega
  have c4:qy ((k:Int) + 1):=by unfold qy; omega
  have c5:Vc s.length s.length (s++[qFk b.length k]).length 1:=qzk (by rw [List.length_append,hs]; simp; omega)
  unfold qaI
  rw [qP,d1,cond_true]
  simp only [zE,qZ]
  rw [ql c1,ql c2,ql c3,ql (qvw _)]
  show chk (Vc s.length s.length (s++[qFk b.length k]).length 1) _=_
  rw [ql c5,ql c4,zw]
  rfl
 ·unfold qij; rw [List.length_append,hs]; simp; omega
 ·unfold qaI
  rfl
def chF (K:Vector UInt32 64):Nat→Vector UInt32 8→List UInt8→Vector UInt32 8
 | 0,s,_=>s
 | m + 1,s,l=>chF K m (qtG s K (l.take 64)) (l.drop 64)
theorem qFQ {N : Nat} {o : List UInt8} {o2 : Vector UInt8 32} {o3 : Vector UInt32 8} {K : Vector UInt32 64} (hN : 64 < N) : ∀ (m n : Nat) (s : Vector UInt32 8) (l : List UInt8), l.length = 64 * m → m < n →
    q0 (XC N o o2 o3 K) some n (s,l)=some (.inr (chF K m s l,[],false))
 | 0,n + 1,s,l,hl,_=>by
  have:l=[]:=List.length_eq_zero_iff.1 (by omega)
  subst this
  exact zK (by unfold XC; rfl) n
 | m + 1,n + 1,s,l,hl,hn=>by
  have d1:decide ((0:Int) < ((l.length:Nat):Int))=true:=decide_eq_true (by omega)
  have c1:(0:Int)≤0∧(0:Int)≤64∧(64:Int)≤((l.length:Nat):Int):=by omega
  have c2:(0:Int)≤64∧(64:Int)≤((l.length:Nat):Int):=by omega
  have ht:((l.take 64).drop 0).length=64:=by rw [List.drop_zero,List.length_take]; omega
  rw [Ja (v':=(qtG s K (l.take 64),l.drop 64)) (by
   unfold XC
   rw [qP,d1,cond_true,zE,ql c1,run_bind,qyD hN ht,Option.bind_some,zE,ql c2,qZ,List.drop_zero]) n]
  exact qFQ hN m n _ _ (by rw [List.length_drop]; omega) (by omega)
 | _,0,_,_,_,hn=>by omega
theorem qCW {N m : Nat} {all : List UInt8} {o2 : Vector UInt8 32} {s : Vector UInt32 8} {K : Vector UInt32 64} (hN : 64 < N) (hm : m + 1 < N) (hl : all.length = 64 * (m + 1)) :
    Kh N all o2 s K=some (.inr (chF K (m + 1) s all,[],false)):=by
 have d1:decide ((0:Int) < ((all.length:Nat):Int))=true:=decide_eq_true (by omega)
 have c1:(0:Int)≤0∧(0:Int)≤64∧(64:Int)≤((all.length:Nat):Int):=by omega
 have c2:(0:Int)≤64∧(64:Int)≤((all.length:Nat):Int):=by omega
 have ht:((all.take 64).drop 0).length=64:=by rw [List.drop_zero,List.length_take]; omega
 have hrun:(Ks N all o2 s K ()).run some=some (.inr (.inl (qtG s K (all.take 64),all.drop 64))):=by
  unfold Ks
  rw [qP,d1,cond_true,zE,ql c1,zE,ql rfl,run_bind,qyD hN ht,Option.bind_some,zE,ql c2,zE,ql rfl,qZ,List.drop_zero]
 obtain ⟨N',rfl⟩:∃ N',N=N' + 1:=⟨N - 1,by omega⟩
 have e:Kh (N' + 1) all o2 s K=q0 (Ks (N' + 1) all o2 s K) (qcp (N' + 1) (N' + 1) (all,o2,s,K)) (N' + 1) ():=rfl
 rw [e,zK hrun]
 exact qFQ (o:=all) (o2:=o2) (o3:=s) hN m (N' + 1) _ _ (by rw [List.length_drop]; omega) (by omega)
def qHh (s:Vector UInt32 8) (k:Nat):UInt8:=UInt8.ofNat (IntKind.u8.wrap (c32 (wAt s (k / 4) >>> UInt32.ofNat (24 - 8 * (k % 4))))).toNat
def qDI (s:Vector UInt32 8) (k:Nat) (o:Vector UInt8 32):Vector UInt8 32:=o.setIfInBounds k (qHh s k)
def qHD (s:Vector UInt32 8):Vector UInt8 32:=Z6 (qDI s) 32 0 (Vector.replicate 32 0)
theorem qHj {N:Nat} {o:Vector UInt8 32} {s:Vector UInt32 8} (hN:64 < N):qbF N o s (Vector.replicate 32 0) 0=some (qHD s,(32:Int),false):=by
 refine (QX (σ:=Vector UInt8 32) (B:=Kq N o s) (g:=some) (at_:=fun k s=>(s,(k:Int))) (I:=fun _ _=>True) (f:=qDI s) (n:=32)
  (fin:=fun s=>(s,(32:Int),false)) (fun k x hk _=>⟨?_,trivial⟩) (fun x _=>?_) N 0 (Vector.replicate 32 0) trivial (Nat.zero_le _) (by omega))
 ·have d1:decide ((k:Int) < 32)=true:=decide_eq_true (by omega)
  have e1:(k:Int).tdiv 4=((k / 4:Nat):Int):=qDP k 4
  have e2:(k:Int).tmod 4=((k % 4:Nat):Int):=qFf k 4
  have h4:(4:Int)≠0:=by omega
  have c1:qy (((k / 4:Nat)):Int):=by unfold qy; omega
  have c2:(0:Int)≤((k / 4:Nat):Int)∧((k / 4:Nat):Int) < ((8:Nat):Int):=by omega
  have c3:k / 4 < 8:=by omega
  have c4:qy ((8:Int) * ((k % 4:Nat):Int)):=by unfold qy; omega
  have e3:(24:Int) - (8:Int) * ((k % 4:Nat):Int)=((24 - 8 * (k % 4):Nat):Int):=by omega
  have c5:qy ((24 - 8 * (k % 4):Nat):Int):=by unfold qy; omega
  have c6:(0:Int)≤((24 - 8 * (k % 4):Nat):Int):=by omega
  have c7:(0:Int)≤(k:Int)∧(k:Int) < ((32:Nat):Int):=by omega
  have c8:qy ((k:Int) + 1):=by unfold qy; omega
  unfold Kq qDI qHh
  rw [qP,d1,cond_true]
  simp only [zE,qZ]
  rw [e1,e2,e3,ql h4,ql c1,ql c2,Int.toNat_natCast,ql c3,ql h4,ql c4,ql c5,ql c6,ql c7,ql (qvw _),Int.toNat_natCast,ql hk,ql c8,Int.toNat_natCast,Nat.min_eq_left (show 24 - 8 * (k % 4)≤32 by omega)]
  rw [zw]
  show some (Sum.inl (x.setIfInBounds k (UInt8.ofNat (IntKind.u8.wrap (Zv (c32 (wAt s (k / 4))) (24 - 8 * (k % 4)))).toNat),_))=_
  rw [qtB _ _ (by omega)]
 ·unfold Kq
  rfl
def qoj (b:List UInt8):List UInt8:=Z6 (qij b.length) 8 0 (b++[128]++List.replicate (Wg b.length) 0)
def Jz (b:List UInt8):Vector UInt8 32:=qHD (chF qH1 ((qoj b).length / 64) qH8 (qoj b))
theorem qGA (b:List UInt8):∃ m,(qoj b).length=64 * (m + 1)∧m≤b.length:=by
 have h:(qoj b).length=b.length + 1 + Wg b.length + 8:=by unfold qoj; rw [qwa]; simp; omega
 rw [h]
 refine ⟨(b.length + 1 + Wg b.length + 8) / 64 - 1,?_,?_⟩
 ·unfold Wg; omega
 ·unfold Wg; omega
theorem qDX {l:List UInt8} (h:l.length≤1000000000):VG l=some ():=by
 unfold VG
 cases l with
 | nil=>kernel_rfl
 | cons x r=>
  show qgc (x::r)=_
  unfold qgc qcM
  have h2:Vc ([]:List UInt8).length 0 ([]++x::r).length 1:=⟨rfl,by rw [List.nil_append]; unfold zh; omega⟩
  rw [zE,ql (List.isEmpty_cons),zE,ql h2,qZ]
theorem qli {Z:Type} {a:Nat} {o:Option Z}:jN [(a,a)] o=o:=(jA rfl).trans (qDi o)
theorem qEn:qkD=some ():=by kernel_rfl
theorem qEo:qjs=some ():=by kernel_rfl
theorem qHy {N:Nat} {b:List UInt8} (hb:b.length≤1000000000) (hN:b.length + 100 < N):qds N b=some (Jz b):=by
 obtain ⟨m,hm,hmb⟩:=qGA b
 have c1:Vc (([]:List UInt8)++b).length (([]:List UInt8)++b).length ((([]:List UInt8)++b)++[UInt8.ofNat 128]).length 1:=qzk (by rw [List.nil_append,List.length_append]; simp; omega)
 have hpad:=qHz (N:=N) (o:=Vector.replicate 32 0) hb (by omega)
 have hlen:=qGF (N:=N) (o:=Vector.replicate 32 0) (b:=b) (l:=b++[128]++List.replicate (Wg b.length) 0) (by have:Wg b.length < 64:=Nat.mod_lt _ (by omega); simp; omega) (by omega)
 have hch:∀ (s:Vector UInt32 8) (K:Vector UInt32 64),Kh N (Z6 (qij b.length) 8 0 (b++[128]++List.replicate (Wg b.length) 0)) (Vector.replicate 32 0) s K=some (.inr (chF K (m + 1) s (qoj b),[],false)):=fun s K=>qCW (by omega) (by omega) hm
 have hd:(qoj b).length / 64=m + 1:=by rw [hm]; omega
 have e1:(([]:List UInt8)++b)++[UInt8.ofNat 128]=b++[128]:=rfl
 unfold qds qkP Jz
 rw [run_bind,qDX hb,Option.bind_some,zE,ql c1,run_bind,e1,qli,hpad,Option.bind_some]
 dsimp only
 rw [run_bind,qli,hlen,Option.bind_some]
 dsimp only
 rw [run_bind,qEn,Option.bind_some,run_bind,qEo,Option.bind_some,run_bind,qli,hch,Option.bind_some,qFB,run_bind,qHj (by omega),Option.bind_some,qZ,hd]
 rfl
end Go.Rx
end
set_option maxRecDepth 100000
noncomputable section
namespace Go.Rx
open Go.Proofs
section n
variable {N:Nat} [Zg N]
def YD (c:qd):Bool:=!decide (c.S=zSt)&&(stB c.S&&decide (c.V.length≤200))
theorem qGc (c:qd):KJ c=some (YD c):=by
 unfold KJ qif YD
 have e:eqE qn c.S (qe.mk 0 0)=decide (c.S=zSt):=qkw _ _
 have e2:decide (((c.V.length:Nat):Int)≤200)=decide (c.V.length≤200):=decide_eq_decide.2 (by omega)
 rw [qP,e,run_bind,qhm,Option.bind_some,qP,qZ,e2,qZ]
 cases decide (c.S=zSt)<;>cases stB c.S<;>rfl
end n
end Go.Rx
end
set_option maxRecDepth 100000
noncomputable section
namespace Go.Rx
open Go.Proofs
abbrev zF:qb:=qb.mk 0 (qd.mk zSt [])
abbrev zR:qa:=qa.mk (Vector.replicate 16 0) zSt []
def qky (l:List qb) (dead:qe) (k:Nat):Bool:=
 (if k=0 then decide (0≤(l.getD k zF).No) else decide ((l.getD (k - 1) zF).No < (l.getD k zF).No))&&(!decide (8≤(l.getD k zF).No)&&(YD (l.getD k zF).C&&slB dead (l.getD k zF).C.S))
def jF (r:qa):Bool:=stB r.zq&&(!(decide (r.F.length=0)&&decide (r.zq=zSt))&&JH (qky r.F r.zq) r.F.length)
def qut (l:List qa) (k:Nat):Bool:=jF (l.getD k zR)&&(decide (k=0)||lbB (l.getD (k - 1) zR).ID (l.getD k zR).ID)
def zM (b:qc):Bool:=JH (qut b.R) b.R.length&&decide (b.R.length≤10)
section n
variable {N:Nat} [Zg N]
theorem qD3 {f : qb} {dead : qe} {k : Nat} (h64 : qy ((k : Int) + 1)) :
    (Tree.cond (decide (((8:Int))≤(qb.No f))) (.ret (.inr (.inl ())))
     (Tree.bind (KJ (qb.C f)) fun r2=>Tree.cond (!r2) (.ret (.inr (.inl ())))
      (Tree.bind (QE N dead (qd.S (qb.C f))) fun r3=>Tree.cond (!r3) (.ret (.inr (.inl ())))
       (Tree.chk (qy ((k:Int) + 1)) (.ret (.inl ((k:Int) + 1):Int⊕(Unit⊕(Int×Bool)))))))).run some =
    some (if (!decide (8≤f.No)&&(YD f.C&&slB dead f.C.S))=true then .inl ((k:Int) + 1) else .inr (.inl ())):=by
 rw [qP,qZ,run_bind,qGc,Option.bind_some,qP,qZ,run_bind,qbW,Option.bind_some,qP,qZ,zE,ql h64,qZ]
 cases decide (8≤f.No)<;>cases YD f.C<;>cases slB dead f.C.S<;>rfl
theorem qGz {r : qa} (hN : r.F.length < N) (h62 : r.F.length ≤ 4611686018427387904) :
    qc_ N r r.F ((r.F.length:Nat):Int) 0=some (if JH (qky r.F r.zq) r.F.length then .inr (((r.F.length:Nat):Int),false) else .inl ()):=by
 refine qb1 (B:=qaJ N r r.F ((r.F.length:Nat):Int)) (g:=some) (q:=qky r.F r.zq) (fun k hk=>?_) ?_ hN
 ·have h64:qy ((k:Int) + 1):=by unfold qy; omega
  have ht:=qD3 (N:=N) (f:=r.F.getD k zF) (dead:=r.zq) h64
  unfold qaJ
  rw [qP,dec_lt hk,cond_true,run_bind,vM (d:=zF) hk,Option.bind_some,← zw]
  unfold qky
  by_cases h0:k=0
  ·have d0:decide ((k:Int)=0)=true:=decide_eq_true (by omega)
   rw [qP,d0,cond_true,if_pos h0,qP]
   by_cases h1:(0:Int)≤(r.F.getD k zF).No
   ·rw [decide_eq_true h1,cond_true,ht,Bool.true_and]
   ·have d1:decide ((0:Int) < (k:Int))=false:=decide_eq_false (by omega)
    rw [decide_eq_false h1,cond_false,qP,d1,cond_false,qZ]
    rfl
  ·have d0:decide ((k:Int)=0)=false:=decide_eq_false (by omega)
   have d1:decide ((0:Int) < (k:Int))=true:=decide_eq_true (by omega)
   have hp:qy ((k:Int) - 1):=by unfold qy; omega
   have hk1:k - 1 < r.F.length:=by omega
   rw [qP,d0,cond_false,if_neg h0,qP,d1,cond_true,zE,ql hp,run_bind,qur (Nat.pos_of_ne_zero h0),vM (d:=zF) hk1,Option.bind_some,qP]
   by_cases h2:(r.F.getD (k - 1) zF).No < (r.F.getD k zF).No
   ·rw [decide_eq_true h2,Bool.not_true,cond_false,ht,Bool.true_and]
   ·rw [decide_eq_false h2,Bool.not_false,cond_true,qZ]
    rfl
 ·unfold qaJ
  rw [qP,jw (Nat.lt_irrefl _),cond_false,qZ]
theorem qlK {r:qa} (hN:r.F.length < N) (h62:r.F.length≤4611686018427387904):qbv N r=some (jF r):=by
 have e0:eqE qn r.zq (qe.mk 0 0)=decide (r.zq=zSt):=qkw _ _
 have d0:decide (((r.F.length:Nat):Int)=0)=decide (r.F.length=0):=decide_eq_decide.2 (by omega)
 unfold qbv qjA jF
 rw [run_bind,qhm,Option.bind_some,qP,qZ,qP,d0,qP,e0,qZ,run_bind,qGz hN h62,Option.bind_some]
 cases stB r.zq<;>cases decide (r.F.length=0)<;>cases decide (r.zq=zSt)<;>cases JH (qky r.F r.zq) r.F.length<;>rfl
theorem qGP {b : qc} (hN : b.R.length < N) (h62 : b.R.length ≤ 4611686018427387904) (hF : ∀ k, k < b.R.length → (b.R.getD k zR).F.length < N ∧ (b.R.getD k zR).F.length ≤ 4611686018427387904) :
    qfx N b b.R ((b.R.length:Nat):Int) 0=some (if JH (qut b.R) b.R.length then .inr (((b.R.length:Nat):Int),false) else .inl ()):=by
 refine qb1 (B:=Ku N b b.R ((b.R.length:Nat):Int)) (g:=some) (q:=qut b.R) (fun k hk=>?_) ?_ hN
 ·have h64:qy ((k:Int) + 1):=by unfold qy; omega
  unfold Ku
  rw [qP,dec_lt hk,cond_true,run_bind,vM (d:=zR) hk,Option.bind_some,run_bind,qlK (hF k hk).1 (hF k hk).2,Option.bind_some,qP,qZ,qP,qGq,zE,zE,ql h64,qZ,zw]
  unfold qut
  cases jF (b.R.getD k zR) with
  | false=>rfl
  | true=>
   by_cases h0:k=0
   ·rw [decide_eq_true h0]; rfl
   ·have hp:qy ((k:Int) - 1):=by unfold qy; omega
    have hk1:k - 1 < b.R.length:=by omega
    rw [decide_eq_false h0,Bool.not_true,cond_false,Bool.not_false,cond_true,ql hp,run_bind,qur (Nat.pos_of_ne_zero h0),vM (d:=zR) hk1,Option.bind_some,run_bind,qEu,Option.bind_some,qP,qZ,zE,ql (show qy ((k + 1:Nat):Int) by rw [← zw]; exact h64),qZ]
    cases lbB (b.R.getD (k - 1) zR).ID (b.R.getD k zR).ID<;>rfl
 ·unfold Ku
  rw [qP,jw (Nat.lt_irrefl _),cond_false,qZ]
theorem qGy {b:qc} (hN:b.R.length < N) (h62:b.R.length≤4611686018427387904) (hF:∀ k,k < b.R.length→(b.R.getD k zR).F.length < N∧(b.R.getD k zR).F.length≤4611686018427387904):Xm N b=some (zM b):=by
 have e2:decide (((b.R.length:Nat):Int)≤10)=decide (b.R.length≤10):=decide_eq_decide.2 (by omega)
 unfold Xm qhO zM
 rw [run_bind,qGP hN h62 hF,Option.bind_some]
 cases JH (qut b.R) b.R.length with
 | false=>rfl
 | true=>show (Tree.run some (Tree.ret (decide (((b.R.length:Nat):Int)≤10))))=_; rw [qZ,e2]; rfl
end n
theorem XG {r:qa}:jF r=true↔stB r.zq=true∧(r.F.length≠0∨r.zq≠zSt)∧∀ k,k < r.F.length→qky r.F r.zq k=true:=by
 unfold jF
 rw [Bool.and_eq_true,Bool.and_eq_true,W6,Bool.not_eq_true',Bool.and_eq_false_iff,decide_eq_false_iff_not,decide_eq_false_iff_not]
theorem J6 {l:List qb} {dead:qe} {k:Nat}:qky l dead k=true↔(if k=0 then 0≤(l.getD k zF).No else (l.getD (k - 1) zF).No < (l.getD k zF).No)∧(l.getD k zF).No < 8∧YD (l.getD k zF).C=true∧slB dead (l.getD k zF).C.S=true:=by
 unfold qky
 rw [Bool.and_eq_true,Bool.and_eq_true,Bool.and_eq_true,Bool.not_eq_true',decide_eq_false_iff_not,Int.not_le]
 refine and_congr ?_ Iff.rfl
 split<;>exact decide_eq_true_iff
theorem qwj {r:qa} (h:jF r=true):∀ k,k < r.F.length→(k:Int)≤(r.F.getD k zF).No
 | 0,hk=>by
  have:=(J6.1 ((XG.1 h).2.2 0 hk)).1
  rw [if_pos rfl] at this; exact this
 | k + 1,hk=>by
  have:=(J6.1 ((XG.1 h).2.2 (k + 1) hk)).1
  rw [if_neg (by omega)] at this
  have ih:=qwj h k (by omega)
  rw [show k + 1 - 1=k by omega] at this
  omega
theorem qbd {r:qa} (h:jF r=true):r.F.length≤8:=by
 by_cases e:r.F.length=0
 ·omega
 ·have h1:=qwj h (r.F.length - 1) (by omega)
  have h2:=(J6.1 ((XG.1 h).2.2 (r.F.length - 1) (by omega))).2.1
  omega
theorem WR {b:qc}:zM b=true↔(∀ k,k < b.R.length→jF (b.R.getD k zR)=true∧(k=0∨lbB (b.R.getD (k - 1) zR).ID (b.R.getD k zR).ID=true))∧b.R.length≤10:=by
 unfold zM
 rw [Bool.and_eq_true,decide_eq_true_iff,W6]
 refine and_congr (forall_congr' fun k=>imp_congr_right fun _=>?_) Iff.rfl
 show (jF (b.R.getD k zR)&&(decide (k=0)||lbB (b.R.getD (k - 1) zR).ID (b.R.getD k zR).ID))=true↔_
 rw [Bool.and_eq_true,Bool.or_eq_true,decide_eq_true_iff]
theorem qhW {c:qd} (h:YD c=true):c.V.length≤200:=by
 unfold YD at h
 simp only [Bool.and_eq_true,decide_eq_true_iff] at h
 exact h.2.2
end Go.Rx
end
set_option maxRecDepth 100000
noncomputable section
namespace Go.Rx
open Go.Proofs
section n
variable {N:Nat} [Zg N]
def QH (N:Nat) (b:qc):Prop:=b.R.length < N∧b.R.length≤4611686018427387904∧∀ k,k < b.R.length→(b.R.getD k zR).F.length < N∧(b.R.getD k zR).F.length≤4611686018427387904
theorem qik {b:qc} (h:QH N b):Xm N b=some (zM b):=qGy h.1 h.2.1 h.2.2
theorem qhR {l:List UInt8} (h:l.length≤50000):qaW N l=some (Jz l):=by
 unfold qaW qoe
 rw [zE,ql (show qlT l.length by unfold qlT; omega),run_bind,qHy (by omega) (by have:=big N; omega),Option.bind_some,qZ]
end n
end Go.Rx
end
set_option maxRecDepth 100000
noncomputable section
namespace Go.Rx
open Go.Proofs
open Go.Lib (compareBytes)
theorem qyl:∀ l:List UInt8,compareBytes l l=0
 | []=>rfl
 | x::l=>by
  unfold compareBytes
  rw [if_neg (UInt8.lt_irrefl x),if_neg (UInt8.lt_irrefl x)]
  exact qyl l
theorem qt1:∀ a b c:List UInt8,compareBytes a b < 0→compareBytes b c < 0→compareBytes a c < 0
 | [],[],_,h,_=>by simp [compareBytes] at h
 | [],_::_,[],_,h=>by simp [compareBytes] at h
 | [],_::_,_::_,_,_=>by simp [compareBytes]
 | _::_,[],_,h,_=>by simp [compareBytes] at h
 | _::_,_::_,[],_,h=>by simp [compareBytes] at h
 | x::a,y::b,z::c,h1,h2=>by
  unfold compareBytes at h1 h2 ⊢
  simp only [UInt8.lt_iff_toNat_lt] at h1 h2 ⊢
  by_cases hxy:x.toNat < y.toNat
  ·by_cases hyz:y.toNat < z.toNat
   ·rw [if_pos (by omega)]; decide
   ·rw [if_neg hyz] at h2
    by_cases hzy:z.toNat < y.toNat
    ·rw [if_pos hzy] at h2; simp at h2
    ·rw [if_pos (by omega)]; decide
  ·rw [if_neg hxy] at h1
   by_cases hyx:y.toNat < x.toNat
   ·rw [if_pos hyx] at h1; simp at h1
   ·rw [if_neg hyx] at h1
    by_cases hyz:y.toNat < z.toNat
    ·rw [if_pos (by omega)]; decide
    ·rw [if_neg hyz] at h2
     by_cases hzy:z.toNat < y.toNat
     ·rw [if_pos hzy] at h2; simp at h2
     ·rw [if_neg hzy] at h2
      rw [if_neg (by omega),if_neg (by omega)]
      exact qt1 a b c h1 h2
theorem qBt:∀ a b:List UInt8,(compareBytes a b < 0∧compareBytes b a > 0)∨a=b∨(compareBytes b a < 0∧compareBytes a b > 0)
 | [],[]=>.inr (.inl rfl)
 | [],_::_=>.inl ⟨by simp [compareBytes],by simp [compareBytes]⟩
 | _::_,[]=>.inr (.inr ⟨by simp [compareBytes],by simp [compareBytes]⟩)
 | x::a,y::b=>by
  unfold compareBytes
  by_cases h:x < y
  ·have h':¬ y < x:=fun h'=>by rw [UInt8.lt_iff_toNat_lt] at h h'; omega
   rw [if_pos h,if_neg h',if_pos h]
   exact .inl ⟨by omega,by omega⟩
  ·by_cases h':y < x
   ·rw [if_neg h,if_pos h',if_pos h']
    exact .inr (.inr ⟨by omega,by omega⟩)
   ·rw [if_neg h,if_neg h',if_neg h',if_neg h]
    have e:x=y:=by
     apply UInt8.toNat_inj.1
     rw [UInt8.lt_iff_toNat_lt] at h h'; omega
    subst e
    rcases qBt a b with h1 | h1 | h1
    ·exact .inl h1
    ·exact .inr (.inl (by rw [h1]))
    ·exact .inr (.inr h1)
theorem qDV {n:Nat} (h:n < 18446744073709551616):IntKind.u64.wrap ((n:Nat):Int)=((n:Nat):Int):=by
 have:IntKind.u64.wrap (n:Int)=(n:Int) % 18446744073709551616:=by simp [IntKind.wrap,IntKind.bits,IntKind.signed]
 rw [this]; omega
def ltB (a b:List UInt8):Bool:=decide (compareBytes a b < 0)
theorem Ys (a:List UInt8):ltB a a=false:=by unfold ltB; rw [qyl]; rfl
theorem qDd {a b c:List UInt8} (h1:ltB a b=true) (h2:ltB b c=true):ltB a c=true:=decide_eq_true (qt1 a b c (of_decide_eq_true h1) (of_decide_eq_true h2))
theorem qlw (a b:List UInt8):(ltB a b=true∧ltB b a=false)∨a=b∨(ltB b a=true∧ltB a b=false):=by
 rcases qBt a b with h | h | h
 ·exact .inl ⟨decide_eq_true h.1,decide_eq_false (by omega)⟩
 ·exact .inr (.inl h)
 ·exact .inr (.inr ⟨decide_eq_true h.1,decide_eq_false (by omega)⟩)
theorem qoL:∀ a b:List UInt8,Op.bytesLess a b=ltB a b
 | [],[]=>rfl
 | [],_::_=>rfl
 | _::_,[]=>rfl
 | x::a,y::b=>by
  have ih:=qoL a b
  unfold Op.bytesLess
  rw [ih]
  unfold ltB
  rw [show compareBytes (x::a) (y::b)=if x < y then -1 else if y < x then 1 else compareBytes a b from rfl]
  by_cases h:x < y
  ·rw [if_pos h,decide_eq_true h]; rfl
  ·rw [if_neg h,decide_eq_false h,Bool.false_or]
   by_cases h':y < x
   ·rw [if_pos h']
    have:(x == y)=false:=by
     rw [beq_eq_false_iff_ne]
     intro e; subst e; exact h h'
    rw [this]; rfl
   ·have e : x = y := by
       apply UInt8.toNat_inj.1
       rw [UInt8.lt_iff_toNat_lt] at h h'; omega
    subst e
    rw [if_neg h]
    simp
theorem qlE (a b:Vector UInt8 16):lbB a b=ltB a.toList b.toList:=by
 unfold lbB
 by_cases h:a=b
 ·subst h; rw [decide_eq_true rfl,Ys]; rfl
 ·rw [decide_eq_false h]; rfl
def ltD (a b:Vector UInt8 32):Bool:=ltB a.toList b.toList
theorem eqD (a b:Vector UInt8 32):eqE (.ba 32) a b=decide (a=b):=Bool.eq_iff_iff.2 ((Jg (.ba 32) a b).trans (decide_eq_true_iff (p:=(a:Vector UInt8 32)=b)).symm)
def qad (a b:qd):Bool:=if a.S=b.S then (if Jz a.V=Jz b.V then ltB a.V b.V else ltD (Jz a.V) (Jz b.V)) else slB a.S b.S
def cJ (a b:qd):qd:=if qad a b=true then b else a
def mxS (a b:qe):qe:=if slB a b=true then b else a
theorem qls (a b:qe):(slB a b=true∧slB b a=false)∨a=b∨(slB b a=true∧slB a b=false):=by
 obtain ⟨a1,a2⟩:=a
 obtain ⟨b1,b2⟩:=b
 unfold slB
 simp only [decide_eq_true_iff,decide_eq_false_iff_not,Prod.mk.injEq]
 omega
theorem X7 (a:qe):slB a a=false:=by
 unfold slB
 exact decide_eq_false (by omega)
theorem qrJ {a b c:qe} (h1:slB a b=true) (h2:slB b c=true):slB a c=true:=by
 unfold slB at *
 rw [decide_eq_true_iff] at *
 omega
end Go.Rx
end
set_option maxRecDepth 100000
noncomputable section
namespace Go.Rx
open Go.Proofs
section n
variable {N:Nat} [Zg N]
def qHv:Option Nat→Int
 | some i=>(i:Int)
 | none=>-1
theorem qaE {p:Nat→Bool} {n i:Nat} (h:jT p n 0=some i):i < n∧p i=true:=by
 obtain ⟨h1,_,h2,_⟩:=qgb h
 exact ⟨by omega,h1⟩
end n
end Go.Rx
end
set_option maxRecDepth 100000
noncomputable section
namespace Go.Rx
open Go.Proofs
section n
variable {N:Nat} [Zg N]
theorem qGj (r:qa):∃ b,Qi N r=some b:=by
 unfold Qi Yf
 by_cases h:r.F.length≤12
 ·have d:decide ((12:Int) < ((r.F.length:Nat):Int))=false:=decide_eq_false (by omega)
  have key:Wh N r 0=some (if JH (fun k=>decide ((r.F.getD k zF).C.V.length≤300)) r.F.length then .inr (((r.F.length:Nat):Int),false) else .inl ()):=by
   refine qb1 (B:=ZN N r) (g:=some) (q:=fun k=>decide ((r.F.getD k zF).C.V.length≤300)) (fun k hk=>?_) ?_ (by have:=big N; omega)
   ·unfold ZN
    have e:decide ((300:Int) < (((r.F.getD k zF).C.V.length:Nat):Int))=!decide ((r.F.getD k zF).C.V.length≤300):=qDK (c:=300)
    rw [qP,dec_lt hk,cond_true,run_bind,vM (d:=zF) hk,Option.bind_some,qP,qZ,e,zE,ql (show qy ((k:Int) + 1) by unfold qy; omega),qZ,zw]
    cases decide ((r.F.getD k zF).C.V.length≤300)<;>rfl
   ·unfold ZN
    rw [qP,jw (Nat.lt_irrefl _),cond_false,qZ]
  rw [qP,d,cond_false,run_bind,key,Option.bind_some]
  cases JH (fun k=>decide ((r.F.getD k zF).C.V.length≤300)) r.F.length
  ·exact ⟨_,rfl⟩
  ·exact ⟨_,rfl⟩
 ·have d:decide ((12:Int) < ((r.F.length:Nat):Int))=true:=decide_eq_true (by omega)
  exact ⟨false,by rw [qP,d,cond_true,qZ]⟩
theorem qFX (b:qc):∃ x,Xg N b=some x:=by
 unfold Xg Yb
 by_cases h:b.R.length≤14
 ·have d:decide ((14:Int) < ((b.R.length:Nat):Int))=false:=decide_eq_false (by omega)
  have key:Wc N b 0=some (if JH (fun k=>(Qi N (b.R.getD k zR)).getD false) b.R.length then .inr (((b.R.length:Nat):Int),false) else .inl ()):=by
   refine qb1 (B:=ZC N b) (g:=some) (q:=fun k=>(Qi N (b.R.getD k zR)).getD false) (fun k hk=>?_) ?_ (by have:=big N; omega)
   ·obtain ⟨x,e⟩:=qGj (N:=N) (b.R.getD k zR)
    unfold ZC
    rw [qP,dec_lt hk,cond_true,run_bind,vM (d:=zR) hk,Option.bind_some,run_bind,e,Option.bind_some,qP,qZ,zE,ql (show qy ((k:Int) + 1) by unfold qy; omega),qZ,zw]
    cases x<;>rfl
   ·unfold ZC
    rw [qP,jw (Nat.lt_irrefl _),cond_false,qZ]
  rw [qP,d,cond_false,run_bind,key,Option.bind_some]
  cases JH (fun k=>(Qi N (b.R.getD k zR)).getD false) b.R.length
  ·exact ⟨_,rfl⟩
  ·exact ⟨_,rfl⟩
 ·have d:decide ((14:Int) < ((b.R.length:Nat):Int))=true:=decide_eq_true (by omega)
  exact ⟨false,by rw [qP,d,cond_true,qZ]⟩
end n
theorem qrI:∀ l:List qa,∃ M:Nat,∀ k,k < l.length→(l.getD k zR).F.length≤M
 | []=>⟨0,fun k hk=>by simp at hk⟩
 | r::l=>by
  obtain ⟨M,h⟩:=qrI l
  refine ⟨r.F.length + M,fun k hk=>?_⟩
  cases k with
  | zero=>simp
  | succ k=>
   have:=h k (by simpa using hk)
   simp only [List.getD_cons_succ]; omega
theorem qHP (b:qc) (h1:b.R.length≤4611686018427387904) (h2:∀ k,k < b.R.length→(b.R.getD k zR).F.length≤4611686018427387904):∃ M:Nat,∀ N,M≤N→QH N b:=by
 obtain ⟨M,h⟩:=qrI b.R
 refine ⟨M + b.R.length + 1,fun N hN=>⟨by omega,h1,fun k hk=>⟨by have:=h k hk; omega,h2 k hk⟩⟩⟩
end Go.Rx
end
set_option maxRecDepth 100000
noncomputable section
namespace Go.Rx
open Go.Proofs
def qld (l:List qa) (id:Vector UInt8 16):Option Nat:=jT (fun k=>decide ((l.getD k zR).ID=id)) l.length 0
def qnD (l:List qb) (no:Int):Option Nat:=jT (fun k=>decide ((l.getD k zF).No=no)) l.length 0
def recAt (b:qc) (id:Vector UInt8 16):qa×Bool:=match qld b.R id with
 | some i=>(b.R.getD i zR,true)
 | none=>(zR,false)
def cellAt (r:qa) (no:Int):qd×Bool:=match qnD r.F no with
 | some i=>((r.F.getD i zF).C,true)
 | none=>(qd.mk zSt [],false)
end Go.Rx
end
set_option maxRecDepth 100000
noncomputable section
namespace Go.Rx
open Go.Proofs
def cO (l:List qb) (no:Int):Option qd:=(l.find? fun f=>decide (f.No=no)).map fun f=>f.C
theorem qpU {no:Int}:cO [] no=none:=rfl
theorem qlz {f:qb} {l:List qb} {no:Int}:cO (f::l) no=if f.No=no then some f.C else cO l no:=by
 unfold cO
 rw [List.find?_cons]
 by_cases h:f.No=no
 ·rw [decide_eq_true h,if_pos h]; rfl
 ·rw [decide_eq_false h,if_neg h]
theorem qlN {l:List qb} {no:Int} {c:qd} (h:cO l no=some c):∃ f,f∈l∧f.No=no∧f.C=c:=by
 unfold cO at h
 obtain ⟨f,h1,h2⟩:=Option.map_eq_some_iff.1 h
 exact ⟨f,List.mem_of_find?_eq_some h1,of_decide_eq_true (List.find?_some (p:=fun f:qb=>decide (f.No=no)) h1),h2⟩
def jC:Option qd→Option qd→Option qd
 | some x,some y=>some (cJ x y)
 | some x,none=>some x
 | none,y=>y
def JS (g:Int→Option qd) (f:qb) (no:Int):Option qd:=if f.No=no then jC (g no) (some f.C) else g no
theorem qtS {g:Int→Option qd} {f:qb} {no:Int}:JS g f no=if f.No=no then jC (g no) (some f.C) else g no:=rfl
theorem qry:∀ {l:List qb} {g:Int→Option qd} {no:Int},(l.map fun f=>f.No).Nodup→l.foldl JS g no=jC (g no) (cO l no)
 | [],g,no,_=>by rw [qpU]; show g no=_; cases g no<;>rfl
 | f::l,g,no,h=>by
  rw [List.map_cons,List.nodup_cons] at h
  rw [List.foldl_cons,qry h.2,qlz]
  unfold JS
  by_cases e:f.No=no
  ·rw [if_pos e,if_pos e]
   have:cO l no=none:=by
    cases hc:cO l no with
    | none=>rfl
    | some c=>
     obtain ⟨x,hx,hx2,_⟩:=qlN hc
     exact (h.1 (List.mem_map.2 ⟨x,hx,by rw [hx2,e]⟩)).elim
   rw [this]
   cases g no<;>rfl
  ·rw [if_neg e,if_neg e]
def W3 (no:Int) (M:List (Int×qd×Nat)):Option qd:=(fnd (β:=qd) (.i .i64) no M).map (·.1)
theorem qvy {q k:Int} {p:qd} {c:Nat} {M:List (Int×qd×Nat)}:W3 q (Qz (β:=qd) (.i .i64) k p c M).2=if q=k then some p else W3 q M:=by
 have:=@qnq (El (.i .i64)) qd (Z2 (.i .i64)) k q p c M
 rw [show W3 q (Qz (β:=qd) (.i .i64) k p c M).2=@qnt (El (.i .i64)) qd (Z2 (.i .i64)) q (@qdx (El (.i .i64)) qd (Z2 (.i .i64)) k p c M).2 from rfl,this]
 by_cases h:q=k
 ·rw [if_pos h]; exact if_pos h
 ·rw [if_neg h]; exact if_neg h
def qeM (dead:qe) (k:Nat):Option qd→List qb
 | some c=>if slB dead c.S=true then [qb.mk (k:Int) c] else []
 | none=>[]
def QR (g:Int→Option qd) (dead:qe):Nat→Nat→List qb
 | 0,_=>[]
 | m + 1,k=>qeM dead k (g (k:Int))++QR g dead m (k + 1)
theorem qlc {g:Int→Option qd} {dead:qe}:∀ {m k:Nat} {s:List qb},Z6 (fun k s=>s++qeM dead k (g (k:Int))) m k s=s++QR g dead m k
 | 0,_,s=>by unfold Z6 QR; rw [List.append_nil]
 | m + 1,k,s=>by
  unfold Z6 QR
  rw [qlc,List.append_assoc]
theorem qrV {dead:qe} {k:Nat} {c:Option qd}:(qeM dead k c).length≤1:=by
 cases c with
 | none=>exact Nat.zero_le _
 | some c=>
  show (if slB dead c.S=true then [qb.mk (k:Int) c] else []).length≤1
  by_cases h:slB dead c.S=true
  ·rw [if_pos h]; exact Nat.le_refl _
  ·rw [if_neg h]; exact Nat.zero_le _
def rJ (a b:qa):qa:=qa.mk a.ID (mxS a.zq b.zq) (QR (fun no=>jC (cO a.F no) (cO b.F no)) (mxS a.zq b.zq) 8 0)
theorem quz {r:qa} (h:jF r=true):(r.F.map fun f=>f.No).Nodup:=by
 have hlt:∀ (d a:Nat),a + d + 1 < r.F.length→(r.F.getD a zF).No < (r.F.getD (a + d + 1) zF).No:=by
  intro d
  induction d with
  | zero=>
   intro a ha
   have:=(J6.1 ((XG.1 h).2.2 (a + 0 + 1) ha)).1
   rw [if_neg (by omega),show a + 0 + 1 - 1=a by omega] at this
   exact this
  | succ d ih=>
   intro a ha
   have h1:=ih a (by omega)
   have:=(J6.1 ((XG.1 h).2.2 (a + (d + 1) + 1) ha)).1
   rw [if_neg (by omega),show a + (d + 1) + 1 - 1=a + d + 1 by omega] at this
   omega
 rw [List.nodup_iff_pairwise_ne,List.pairwise_iff_getElem]
 intro i j hi hj hij
 rw [List.length_map] at hi hj
 have:=hlt (j - i - 1) i (by omega)
 rw [show i + (j - i - 1) + 1=j by omega,List.getD_eq_getElem?_getD,List.getD_eq_getElem?_getD,List.getElem?_eq_getElem hi,List.getElem?_eq_getElem hj] at this
 rw [List.getElem_map,List.getElem_map]
 show r.F[i].No≠r.F[j].No
 have:r.F[i].No < r.F[j].No:=this
 omega
theorem qpK {r:qa} (h:jF r=true):∀ k,k < r.F.length→YD (r.F.getD k zF).C=true:=fun j hj=>(J6.1 ((XG.1 h).2.2 j hj)).2.2.1
def qc9 (g:Int→Option qd):Prop:=∀ no c,g no=some c→c.V.length≤200
theorem qFO (a b:qd):cJ a b=a∨cJ a b=b:=by
 unfold cJ
 split
 ·exact .inr rfl
 ·exact .inl rfl
theorem qzq {g:Int→Option qd} {f:qb} (hg:qc9 g) (hf:f.C.V.length≤200):qc9 (JS g f):=by
 intro no c h
 unfold JS at h
 split at h
 ·cases e:g no with
  | none=>rw [e] at h; obtain rfl:=Option.some.inj h; exact hf
  | some x=>
   rw [e] at h
   obtain rfl:=Option.some.inj h
   rcases qFO x f.C with h1 | h1
   ·rw [h1]; exact hg no x e
   ·rw [h1]; exact hf
 ·exact hg no c h
end Go.Rx
end
set_option maxRecDepth 100000
noncomputable section
namespace Go.Rx
open Go.Proofs
open Go.Lib (compareBytes)
theorem qr8 {a b c:Vector UInt8 16} (h1:lbB a b=true) (h2:lbB b c=true):lbB a c=true:=by
 rw [qlE] at *; exact qDd h1 h2
theorem qF3 (a b:Vector UInt8 16):(lbB a b=true∧lbB b a=false)∨a=b∨(lbB b a=true∧lbB a b=false):=by
 rw [qlE,qlE]
 rcases qlw a.toList b.toList with h | h | h
 ·exact .inl h
 ·exact .inr (.inl (Vector.toList_inj.1 h))
 ·exact .inr (.inr h)
end Go.Rx
end
set_option maxRecDepth 100000
noncomputable section
namespace Go.Rx
open Go.Proofs
theorem qdF {α:Type} {l:List α} {d:α} {P:α→Prop}:(∀ k,k < l.length→P (l.getD k d))↔∀ x∈l,P x:=by
 constructor
 ·intro h x hx
  obtain ⟨i,hi,rfl⟩:=List.getElem_of_mem hx
  have:=h i hi
  rw [List.getD_eq_getElem?_getD,List.getElem?_eq_getElem hi] at this
  exact this
 ·intro h k hk
  rw [List.getD_eq_getElem?_getD,List.getElem?_eq_getElem hk]
  exact h _ (List.getElem_mem hk)
theorem qeN {α:Type} {R:α→α→Prop} (ht:∀ a b c,R a b→R b c→R a c) {d:α} {l:List α}:(∀ k,k + 1 < l.length→R (l.getD k d) (l.getD (k + 1) d))↔l.Pairwise R:=by
 have gd:∀ k (h:k < l.length),l.getD k d=l[k]:=fun k h=>by rw [List.getD_eq_getElem?_getD,List.getElem?_eq_getElem h]; rfl
 rw [List.pairwise_iff_getElem]
 constructor
 ·intro h i j hi hj hij
  have key:∀ m,∀ hm:i + m + 1 < l.length,R l[i] l[i + m + 1]:=by
   intro m
   induction m with
   | zero=>
    intro hm
    have:=h i hm
    rw [gd i hi,gd (i + 1) hm] at this; exact this
   | succ m ih=>
    intro hm
    have h1:=ih (by omega)
    have h2:=h (i + m + 1) hm
    rw [gd (i + m + 1) (by omega),gd (i + m + 1 + 1) hm] at h2
    exact ht _ _ _ h1 h2
  have:=key (j - i - 1) (by omega)
  have e:i + (j - i - 1) + 1=j:=by omega
  simp only [e] at this
  exact this
 ·intro h k hk
  rw [gd k (by omega),gd (k + 1) hk]
  exact h k (k + 1) (by omega) hk (by omega)
abbrev qre (l:List qb):Prop:=l.Pairwise fun f g=>f.No < g.No
theorem Wv {r:qa}:jF r=true↔stB r.zq=true∧(r.F≠[]∨r.zq≠zSt)∧qre r.F∧∀ f∈r.F,0≤f.No∧f.No < 8∧YD f.C=true∧slB r.zq f.C.S=true:=by
 have hne:r.F.length≠0↔r.F≠[]:=by
  rw [Ne,Ne,List.length_eq_zero_iff]
 constructor
 ·intro h
  have hr:=XG.1 h
  refine ⟨hr.1,hr.2.1.imp hne.1 id,(qeN (R:=fun f g:qb=>f.No < g.No) (fun a b c h1 h2=>Int.lt_trans h1 h2) (d:=zF)).1 fun k hk=>?_,(qdF (d:=zF)).1 fun k hk=>?_⟩
  ·have:=(J6.1 (hr.2.2 (k + 1) hk)).1
   rw [if_neg (by omega)] at this
   exact this
  ·have h1:=J6.1 (hr.2.2 k hk)
   have h2:=qwj h k hk
   exact ⟨by omega,h1.2.1,h1.2.2.1,h1.2.2.2⟩
 ·rintro ⟨h1,h2,h3,h4⟩
  refine XG.2 ⟨h1,h2.imp hne.2 id,fun k hk=>J6.2 ⟨?_,?_⟩⟩
  ·by_cases h0:k=0
   ·rw [if_pos h0]; exact ((qdF (d:=zF)).2 h4 k hk).1
   ·rw [if_neg h0]
    have:=(qeN (R:=fun f g:qb=>f.No < g.No) (fun a b c h1 h2=>Int.lt_trans h1 h2) (d:=zF)).2 h3 (k - 1) (by omega)
    rw [show k - 1 + 1=k by omega] at this
    exact this
  ·have:=(qdF (d:=zF)).2 h4 k hk
   exact this.2
theorem qaC {g:Int→Option qd} {dead:qe}:∀ {m k:Nat} {f:qb},f∈QR g dead m k→(k:Int)≤f.No∧f.No < ((k + m:Nat):Int)∧g f.No=some f.C∧slB dead f.C.S=true
 | 0,_,_,h=>absurd h List.not_mem_nil
 | m + 1,k,f,h=>by
  unfold QR at h
  rcases List.mem_append.1 h with h | h
  ·cases e:g (k:Int) with
   | none=>rw [e] at h; exact absurd h List.not_mem_nil
   | some c=>
    rw [e] at h
    have h:f∈(if slB dead c.S=true then [qb.mk (k:Int) c] else []):=h
    split at h
    ·rename_i hs
     obtain rfl:=List.mem_singleton.1 h
     exact ⟨Int.le_refl _,by show (k:Int) < _; omega,e,hs⟩
    ·exact absurd h List.not_mem_nil
  ·have:=qaC h
   exact ⟨by omega,by omega,this.2.2⟩
theorem qiQ {g:Int→Option qd} {dead:qe}:∀ {m k:Nat},qre (QR g dead m k)
 | 0,_=>List.Pairwise.nil
 | m + 1,k=>by
  unfold QR
  refine List.pairwise_append.2 ⟨?_,qiQ,fun a ha b hb=>?_⟩
  ·have:=qrV (dead:=dead) (k:=k) (c:=g (k:Int))
   match hk:qeM dead k (g (k:Int)),this with
   | [],_=>exact List.Pairwise.nil
   | [x],_=>exact List.pairwise_singleton _ _
  ·have h1:=qaC hb
   cases e:g (k:Int) with
   | none=>rw [e] at ha; exact absurd ha List.not_mem_nil
   | some c=>
    rw [e] at ha
    have ha:a∈(if slB dead c.S=true then [qb.mk (k:Int) c] else []):=ha
    split at ha
    ·obtain rfl:=List.mem_singleton.1 ha
     show (k:Int) < b.No
     omega
    ·exact absurd ha List.not_mem_nil
theorem qB1 {l:List qb} (h:qre l) {f:qb} (hf:f∈l):cO l f.No=some f.C:=by
 induction l with
 | nil=>exact absurd hf List.not_mem_nil
 | cons x l ih=>
  rw [qlz]
  have hp:=List.pairwise_cons.1 h
  rcases List.mem_cons.1 hf with rfl | hf
  ·rw [if_pos rfl]
  ·have:=hp.1 f hf
   rw [if_neg (by omega),ih hp.2 hf]
theorem qn_ {r:qa} (h:jF r=true) {no:Int} {c:qd} (hc:cO r.F no=some c):0≤no∧no < 8∧YD c=true∧slB r.zq c.S=true:=by
 obtain ⟨f,hf,rfl,rfl⟩:=qlN hc
 exact (Wv.1 h).2.2.2 f hf
theorem qC2 {g:Int→Option qd} {dead:qe} {no:Int} (h0:0≤no) (h8:no < 8):cO (QR g dead 8 0) no=(g no).filter fun c=>slB dead c.S:=by
 have key:∀ (m k:Nat),(k:Int)≤no→no < ((k + m:Nat):Int)→cO (QR g dead m k) no=(g no).filter fun c=>slB dead c.S:=by
  intro m
  induction m with
  | zero=>intro k h1 h2; omega
  | succ m ih=>
   intro k h1 h2
   unfold QR
   have app:∀ (a b:List qb),cO (a++b) no=(cO a no).or (cO b no):=by
    intro a b
    unfold cO
    rw [List.find?_append]
    cases List.find? (fun f:qb=>decide (f.No=no)) a<;>rfl
   rw [app]
   by_cases e:no=(k:Int)
   ·subst e
    have hn:cO (QR g dead m (k + 1)) (k:Int)=none:=by
     cases hc:cO (QR g dead m (k + 1)) (k:Int) with
     | none=>rfl
     | some c=>
      obtain ⟨f,hf,h3,_⟩:=qlN hc
      have:=(qaC hf).1
      omega
    rw [hn]
    cases hg:g (k:Int) with
    | none=>rfl
    | some c=>
     show (cO (if slB dead c.S=true then [qb.mk (k:Int) c] else []) (k:Int)).or none=_
     rw [Option.or_none]
     by_cases hs:slB dead c.S=true
     ·rw [if_pos hs,qlz,if_pos (show (qb.mk (k:Int) c).No=(k:Int) from rfl),Option.filter_some,if_pos hs]; rfl
     ·rw [if_neg hs,qpU,Option.filter_some,if_neg hs]
   ·have hn : cO (qeM dead k (g (k : Int))) no = none := by
       cases hg:g (k:Int) with
       | none=>rfl
       | some c=>
        show cO (if slB dead c.S=true then [qb.mk (k:Int) c] else []) no=none
        by_cases hs:slB dead c.S=true
        ·rw [if_pos hs,qlz,if_neg (fun h=>e h.symm),qpU]
        ·rw [if_neg hs,qpU]
    rw [hn,Option.none_or,ih (k + 1) (by omega) (by omega)]
 exact key 8 0 (by omega) (by omega)
theorem qGU (a b:qe):mxS a b=a∨mxS a b=b:=by
 unfold mxS
 split
 ·exact .inr rfl
 ·exact .inl rfl
theorem qn5 {s:qe} (h:stB s=true) (hz:s≠zSt):slB zSt s=true:=by
 unfold stB at h
 rw [decide_eq_false hz] at h
 simp only [Bool.false_or,Bool.and_eq_true,decide_eq_true_iff] at h
 unfold slB
 exact decide_eq_true (.inl h.1.1.1)
theorem qH6 {x y:qd}:slB (cJ x y).S x.S=false∧slB (cJ x y).S y.S=false:=by
 unfold cJ
 by_cases h:qad x y=true
 ·rw [if_pos h]
  unfold qad at h
  by_cases e:x.S=y.S
  ·rw [e]; exact ⟨X7 _,X7 _⟩
  ·rw [if_neg e] at h
   rcases qls x.S y.S with h1 | h1 | h1
   ·exact ⟨h1.2,X7 _⟩
   ·exact (e h1).elim
   ·rw [h] at h1; simp at h1
 ·rw [if_neg h]
  unfold qad at h
  by_cases e:x.S=y.S
  ·rw [e]; exact ⟨X7 _,X7 _⟩
  ·rw [if_neg e] at h
   rcases qls x.S y.S with h1 | h1 | h1
   ·exact (h h1.1).elim
   ·exact (e h1).elim
   ·exact ⟨X7 _,h1.2⟩
theorem qHw {a b c:qe} (h1:slB b a=false) (h2:slB c a=true):slB c b=true:=by
 rcases qls a b with h | h | h
 ·exact qrJ h2 h.1
 ·subst h; exact h2
 ·rw [h1] at h; simp at h
theorem qu4 {a b:qa} (ha:jF a=true) (hb:jF b=true) {no:Int} {c:qd} (h:jC (cO a.F no) (cO b.F no)=some c):0≤no∧no < 8∧YD c=true:=by
 cases ea:cO a.F no with
 | none=>
  rw [ea] at h
  cases eb:cO b.F no with
  | none=>rw [eb] at h; cases h
  | some y=>
   rw [eb] at h
   obtain rfl:=Option.some.inj h
   have:=qn_ hb eb; exact ⟨this.1,this.2.1,this.2.2.1⟩
 | some x=>
  have hx:=qn_ ha ea
  rw [ea] at h
  cases eb:cO b.F no with
  | none=>
   rw [eb] at h
   obtain rfl:=Option.some.inj h
   exact ⟨hx.1,hx.2.1,hx.2.2.1⟩
  | some y=>
   have hy:=qn_ hb eb
   rw [eb] at h
   obtain rfl:=Option.some.inj h
   refine ⟨hx.1,hx.2.1,?_⟩
   rcases qFO x y with e | e
   ·rw [e]; exact hx.2.2.1
   ·rw [e]; exact hy.2.2.1
theorem qzo (a b:qa):(rJ a b).F=QR (fun no=>jC (cO a.F no) (cO b.F no)) (mxS a.zq b.zq) 8 0:=rfl
theorem qHJ {a b:qa} (ha:jF a=true) (hb:jF b=true) (no:Int):cO (rJ a b).F no=(jC (cO a.F no) (cO b.F no)).filter fun c=>slB (mxS a.zq b.zq) c.S:=by
 by_cases h:0≤no∧no < 8
 ·rw [qzo,qC2 h.1 h.2]
 ·have e1 : jC (cO a.F no) (cO b.F no) = none := by
     cases e:jC (cO a.F no) (cO b.F no) with
     | none=>rfl
     | some c=>have:=qu4 ha hb e; exact (h ⟨this.1,this.2.1⟩).elim
  rw [e1]
  cases e:cO (rJ a b).F no with
  | none=>rfl
  | some c=>
   obtain ⟨f,hf,h3,_⟩:=qlN e
   rw [qzo] at hf
   have:=qaC (m:=8) (k:=0) hf
   exact (h ⟨by omega,by omega⟩).elim
theorem qHU (a b:qa):(rJ a b).ID=a.ID:=rfl
theorem qx5 (a b:qa):(rJ a b).zq=mxS a.zq b.zq:=rfl
theorem qFE {a b:qe} (ha:stB a=true) (hb:stB b=true) (h:mxS a b=zSt):a=zSt∧b=zSt:=by
 by_cases e:b=zSt
 ·subst e
  unfold mxS at h
  by_cases hs:slB a zSt=true
  ·exfalso
   by_cases ea:a=zSt
   ·subst ea; rw [X7] at hs; simp at hs
   ·have:=qrJ (qn5 ha ea) hs
    rw [X7] at this; simp at this
  ·rw [if_neg hs] at h; exact ⟨h,rfl⟩
 ·exfalso
  unfold mxS at h
  by_cases hs:slB a b=true
  ·rw [if_pos hs] at h; exact e h
  ·rw [if_neg hs] at h
   subst h
   exact hs (qn5 hb e)
theorem qvp {a b:qa} (ha:jF a=true) (hb:jF b=true):jF (rJ a b)=true:=by
 have hA:=Wv.1 ha
 have hB:=Wv.1 hb
 refine Wv.2 ⟨?_,?_,by rw [qzo]; exact qiQ,fun f hf=>?_⟩
 ·rw [qx5]
  rcases qGU a.zq b.zq with e | e
  ·rw [e]; exact hA.1
  ·rw [e]; exact hB.1
 ·by_cases hz:(rJ a b).zq=zSt
  ·left
   intro hF
   obtain ⟨za,zb⟩:=qFE hA.1 hB.1 hz
   have hne:a.F≠[]:=hA.2.1.resolve_right (fun h=>h za)
   obtain ⟨f,l,e⟩:=List.exists_cons_of_ne_nil hne
   have hf:f∈a.F:=by rw [e]; exact List.mem_cons_self ..
   have hca:=qB1 hA.2.2.1 hf
   have hfl:=(hA.2.2.2 f hf).2.2.2
   have hn:cO (rJ a b).F f.No=none:=by rw [hF]; rfl
   rw [qHJ ha hb,hca] at hn
   rw [qx5] at hz
   rw [hz] at hn
   rw [za] at hfl
   cases hcb:cO b.F f.No with
   | none=>
    rw [hcb] at hn
    have hn:(some f.C).filter (fun c=>slB zSt c.S)=none:=hn
    rw [Option.filter_some,if_pos hfl] at hn; cases hn
   | some y=>
    rw [hcb] at hn
    have hn:(some (cJ f.C y)).filter (fun c=>slB zSt c.S)=none:=hn
    rw [Option.filter_some,if_pos (qHw qH6.1 hfl)] at hn; cases hn
  ·exact .inr hz
 ·rw [qzo] at hf
  have h1:=qaC (m:=8) (k:=0) hf
  have h2:=qu4 ha hb h1.2.2.1
  exact ⟨h2.1,h2.2.1,h2.2.2,h1.2.2.2⟩
def rO (l:List qa) (id:Vector UInt8 16):Option qa:=l.find? fun r=>decide (r.ID=id)
theorem qBp {id:Vector UInt8 16}:rO [] id=none:=rfl
theorem qgz {r:qa} {l:List qa} {id:Vector UInt8 16}:rO (r::l) id=if r.ID=id then some r else rO l id:=by
 unfold rO
 rw [List.find?_cons]
 by_cases h:r.ID=id
 ·rw [decide_eq_true h,if_pos h]
 ·rw [decide_eq_false h,if_neg h]
theorem KS {l:List qa} {id:Vector UInt8 16} {r:qa} (h:rO l id=some r):r∈l∧r.ID=id:=
 ⟨List.mem_of_find?_eq_some h,of_decide_eq_true (List.find?_some (p:=fun r:qa=>decide (r.ID=id)) h)⟩
abbrev qby (l:List qa):Prop:=l.Pairwise fun a b=>lbB a.ID b.ID=true
def qqr (l:List qa):Prop:=qby l∧∀ r∈l,jF r=true
theorem Xy {b:qc}:zM b=true↔qqr b.R∧b.R.length≤10:=by
 rw [WR]
 refine and_congr ?_ Iff.rfl
 have ht:∀ a b c:qa,lbB a.ID b.ID=true→lbB b.ID c.ID=true→lbB a.ID c.ID=true:=fun _ _ _ h1 h2=>qr8 h1 h2
 constructor
 ·intro h
  refine ⟨(qeN (R:=fun a b:qa=>lbB a.ID b.ID=true) ht (d:=zR)).1 fun k hk=>?_,(qdF (d:=zR)).1 fun k hk=>(h k hk).1⟩
  rcases (h (k + 1) hk).2 with e | e
  ·omega
  ·exact e
 ·rintro ⟨h1,h2⟩ k hk
  refine ⟨(qdF (d:=zR)).2 h2 k hk,?_⟩
  by_cases h0:k=0
  ·exact .inl h0
  ·have:=(qeN (R:=fun a b:qa=>lbB a.ID b.ID=true) ht (d:=zR)).2 h1 (k - 1) (by omega)
   rw [show k - 1 + 1=k by omega] at this
   exact .inr this
theorem qrT {l:List qa} (h:qby l) {r:qa} (hr:r∈l):rO l r.ID=some r:=by
 induction l with
 | nil=>exact absurd hr List.not_mem_nil
 | cons x l ih=>
  rw [qgz]
  have hp:=List.pairwise_cons.1 h
  rcases List.mem_cons.1 hr with rfl | hr
  ·rw [if_pos rfl]
  ·have:=hp.1 r hr
   rw [if_neg (fun e=>by rw [e,qne] at this; cases this),ih hp.2 hr]
def jR:Option qa→Option qa→Option qa
 | some x,some y=>some (rJ x y)
 | some x,none=>some x
 | none,y=>y
def qoV (a b c:List qa):Prop:=qby c∧∀ id,rO c id=jR (rO a id) (rO b id)
theorem qCO {a b c:List qa} (ha:qqr a) (hb:qqr b) (h:qoV a b c):qqr c:=by
 refine ⟨h.1,fun r hr=>?_⟩
 have e:=h.2 r.ID
 rw [qrT h.1 hr] at e
 cases ea:rO a r.ID with
 | none=>
  rw [ea] at e
  have e:some r=rO b r.ID:=e
  exact hb.2 r (KS e.symm).1
 | some x=>
  rw [ea] at e
  cases eb:rO b r.ID with
  | none=>
   rw [eb] at e
   obtain rfl:=Option.some.inj e
   exact ha.2 r (KS ea).1
  | some y=>
   rw [eb] at e
   obtain rfl:=Option.some.inj e
   exact qvp (ha.2 x (KS ea).1) (hb.2 y (KS eb).1)
end Go.Rx
end
set_option maxRecDepth 100000
noncomputable section
namespace Go.Rx
open Go.Proofs
abbrev fl (d:qe) (o:Option qd):Option qd:=o.filter fun c=>slB d c.S
theorem quM {α:Type} [DecidableEq α]:∀ {l m:List α},l.Nodup→(∀ x∈l,x∈m)→l.length≤m.length
 | [],_,_,_=>Nat.zero_le _
 | x::l,m,h,hm=>by
  rw [List.nodup_cons] at h
  have hx:=hm x (List.mem_cons_self ..)
  have:=quM (l:=l) (m:=m.erase x) h.2 fun y hy=>(List.mem_erase_of_ne (fun e=>by subst e; exact h.1 hy)).2 (hm y (List.mem_cons_of_mem _ hy))
  rw [List.length_erase_of_mem hx] at this
  have hp:0 < m.length:=List.length_pos_of_mem hx
  rw [List.length_cons]; omega
theorem qBc {l:List qa} (h:qby l):(l.map fun r=>r.ID).Nodup:=by
 rw [List.nodup_iff_pairwise_ne,List.pairwise_map]
 refine h.imp fun {a b} hab e=>?_
 rw [e,qne] at hab; cases hab
end Go.Rx
end
