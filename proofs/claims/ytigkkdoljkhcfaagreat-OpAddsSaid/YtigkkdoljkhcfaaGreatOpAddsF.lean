/- A part of the proof of OpAdds: the law returns true for every input, and its arguments read as before. No condition. -/
import Derived.Test.YtigkkdoljkhcfaaGreatProg
import Derived.Below
import Derived.Shelf.Strings.BuilderK
import Derived.WalkKit
import Derived.BigCall
import Derived.Laws.BitsAllLaws
import Derived.Test.YtigkkdoljkhcfaaGreatComE
set_option linter.unusedSimpArgs false
set_option linter.unusedVariables false
set_option linter.unusedSectionVars false
noncomputable section
namespace Go.Rx
theorem WG {α R:Type} (n:α→Option R):∀ t:Tree α,t.run n=(t.run some).bind n
 | .ret a=>rfl
 | .no=>rfl
 | .cond b s t=>by
  simp only [Tree.run]
  cases b
  ·exact WG n t
  ·exact WG n s
 | @Tree.chk _ p d t=>by
  simp only [Tree.run,chk]
  split
  ·exact WG n t
  ·rfl
 | .bind o k=>by
  simp only [Tree.run]
  cases o with
  | none=>rfl
  | some x=>exact WG n (k x)
 | .opt o s k=>by
  simp only [Tree.run]
  cases o with
  | none=>exact WG n s
  | some x=>exact WG n (k x)
 | .sum x f g=>by
  cases x with
  | inl a=>exact WG n (f a)
  | inr b=>exact WG n (g b)
section r
variable {α R:Type} {n:α→Option R}
theorem qS {a:α}:(Tree.ret a).run n=n a:=rfl
theorem qJ {b:Bool} {s t:Tree α}:(Tree.cond b s t).run n=bif b then s.run n else t.run n:=rfl
theorem zA {p:Prop} [Decidable p] {t:Tree α}:(Tree.chk p t).run n=chk p (t.run n):=rfl
theorem run_bind {β:Type} {o:Option β} {k:β→Tree α}:(Tree.bind o k).run n=o.bind fun x=>(k x).run n:=rfl
theorem qHe {β γ:Type} {x:γ} {f:β→Tree α} {g:γ→Tree α}:(Tree.sum (.inr x) f g).run n=(g x).run n:=rfl
end r
theorem JI {V W Y:Type} {B:V→Tree (V⊕W)} {g:W→Option Y} {v v':V} (h:(B v).run some=some (.inl v')) (N:Nat):q_ B g (N + 1) v=q_ B g N v':=by
 simp only [q_]
 rw [WG,h]; rfl
theorem zM {V W Y:Type} {B:V→Tree (V⊕W)} {g:W→Option Y} {v:V} {x:W} (h:(B v).run some=some (.inr x)) (N:Nat):q_ B g (N + 1) v=g x:=by
 simp only [q_]
 rw [WG,h]; rfl
theorem qjU {V W Y : Type} {B : V → Tree (V ⊕ W)} {g : W → Option Y} {I : V → Prop} {Q : Y → Prop} (m : V → Nat)
    (h:∀ v,I v→(∃ v',(B v).run some=some (.inl v')∧I v'∧m v' < m v)∨∃ x y,(B v).run some=some (.inr x)∧g x=some y∧Q y) :
    ∀ (N:Nat) (v:V),I v→m v < N→∃ y,q_ B g N v=some y∧Q y
 | 0,v,_,hm=>by omega
 | N + 1,v,hi,hm=>by
  rcases h v hi with ⟨v',h1,h2,h3⟩ | ⟨x,y,h1,h2,h3⟩
  ·rw [JI h1]
   exact qjU m h N v' h2 (by omega)
  ·rw [zM h1]
   exact ⟨y,h2,h3⟩
theorem qgg {W Y : Type} {B : Int → Tree (Int ⊕ W)} {g : W → Option Y} {p : Nat → Bool} {n : Nat} {hit : Nat → W} {fin : W}
    (h1:∀ k,k < n→(B (k:Int)).run some=some (if p k then .inr (hit k) else .inl ((k + 1:Nat):Int))) (h2:(B (n:Int)).run some=some (.inr fin)) :
    ∀ (N k:Nat),k≤n→n < N + k→q_ B g N (k:Int)=g (match Jo p (n - k) k with | some j=>hit j | none=>fin)
 | 0,k,hk,hN=>by omega
 | N + 1,k,hk,hN=>by
  by_cases e:k=n
  ·subst e
   rw [zM h2,Nat.sub_self]; rfl
  ·obtain ⟨m,hm⟩:∃ m,n - k=m + 1:=⟨n - k - 1,by omega⟩
   have h3:=h1 k (by omega)
   rw [hm]
   unfold Jo
   cases hp:p k with
   | true=>
    rw [hp,if_pos rfl] at h3
    rw [zM h3,if_pos rfl]
   | false=>
    rw [hp,if_neg (by simp)] at h3
    rw [JI h3,qgg h1 h2 N (k + 1) (by omega) (by omega),if_neg (by simp),show n - (k + 1)=m by omega]
def VB {σ:Type} (f:Nat→σ→σ):Nat→Nat→σ→σ
 | 0,_,s=>s
 | m + 1,k,s=>VB f m (k + 1) (f k s)
theorem ZS {σ W Y : Type} {V : Type} {B : V → Tree (V ⊕ W)} {g : W → Option Y} {at_ : Nat → σ → V} {I : Nat → σ → Prop} {f : Nat → σ → σ} {n : Nat} {fin : σ → W}
    (h1:∀ k s,k < n→I k s→(B (at_ k s)).run some=some (.inl (at_ (k + 1) (f k s)))∧I (k + 1) (f k s)) (h2:∀ s,I n s→(B (at_ n s)).run some=some (.inr (fin s))) :
    ∀ (N k:Nat) (s:σ),I k s→k≤n→n < N + k→q_ B g N (at_ k s)=g (fin (VB f (n - k) k s))
 | 0,k,s,_,hk,hN=>by omega
 | N + 1,k,s,hi,hk,hN=>by
  by_cases e:k=n
  ·subst e
   rw [zM (h2 s hi),Nat.sub_self]; rfl
  ·obtain ⟨m,hm⟩:∃ m,n - k=m + 1:=⟨n - k - 1,by omega⟩
   obtain ⟨h3,h4⟩:=h1 k s (by omega) hi
   rw [JI h3,ZS h1 h2 N (k + 1) _ h4 (by omega) (by omega),hm,show n - (k + 1)=m by omega]
   rfl
theorem qJ7 {α:Type} {l:List α} {k n:Nat} {d:α} (hn:l.length=n) (h:k < l.length):KH l n k=some (l.getD k d):=by
 unfold KH; rw [if_pos hn,List.getElem?_eq_getElem h]; simp [List.getD,List.getElem?_eq_getElem h]
theorem qm {α:Type} {p:Prop} [Decidable p] {x:Option α} (h:p):chk p x=x:=if_pos h
theorem qC6 {Z:Type} (o:Option Z):vg [] o=o:=rfl
theorem jK {Z:Type} {a b:Nat} {ps:List (Nat×Nat)} {o:Option Z} (h:a=b):vg ((a,b)::ps) o=vg ps o:=if_pos h
end Go.Rx
end
noncomputable section
namespace Go.Rx
section
variable {α R:Type} {n:α→Option R} {y:Option R}
theorem qD {a:α} (h:n a=y):(Tree.ret a).run n=y:=h
theorem q6 {p:Prop} [Decidable p] {t:Tree α} (h:p) (ht:t.run n=y):(Tree.chk p t).run n=y:=(qm h).trans ht
theorem qy {β:Type} {o:Option β} {k:β→Tree α} {x:β} (h:o=some x) (ht:(k x).run n=y):(Tree.bind o k).run n=y:=by subst h; exact ht
theorem w_t {b:Bool} {s t:Tree α} (h:b=true) (hs:s.run n=y):(Tree.cond b s t).run n=y:=by subst h; exact hs
theorem w_f {b:Bool} {s t:Tree α} (h:b=false) (ht:t.run n=y):(Tree.cond b s t).run n=y:=by subst h; exact ht
theorem qxY {β:Type} {o:Option β} {s:Tree α} {k:β→Tree α} (h:o=none) (hs:s.run n=y):(Tree.opt o s k).run n=y:=by subst h; exact hs
theorem qql {β:Type} {o:Option β} {s:Tree α} {k:β→Tree α} {x:β} (h:o=some x) (hk:(k x).run n=y):(Tree.opt o s k).run n=y:=by subst h; exact hk
theorem w_l {β γ:Type} {z:β⊕γ} {f:β→Tree α} {g:γ→Tree α} {x:β} (h:z=.inl x) (hk:(f x).run n=y):(Tree.sum z f g).run n=y:=by subst h; exact hk
theorem w_r {β γ:Type} {z:β⊕γ} {f:β→Tree α} {g:γ→Tree α} {x:γ} (h:z=.inr x) (hk:(g x).run n=y):(Tree.sum z f g).run n=y:=by subst h; exact hk
theorem vu {b:Bool} {s t:Tree α} {c:Bool} (h:b=c) (hs:c=true→s.run n=y) (ht:c=false→t.run n=y):(Tree.cond b s t).run n=y:=by
 subst h; cases b
 ·exact ht rfl
 ·exact hs rfl
end
theorem Q9 {k:Nat} (h:k≤4611686018427387904):qz ((k:Int) + 1):=by unfold qz; omega
end Go.Rx
end
noncomputable section
namespace Go.Rx
def qG:Ty:=.ag [.b,.i .i64,.i .i64,.s]
abbrev qg:=Bool×Int×Int×List UInt8
def qg.qbG (x:qg):Bool:=x.1
def qg.jA (x:qg):Int:=x.2.1
def qg.Len (x:qg):Int:=x.2.2.1
def qg.Lit (x:qg):List UInt8:=x.2.2.2
def qg.mk (x0:Bool) (x1:Int) (x2:Int) (x3:List UInt8):qg:=(x0,x1,x2,x3)
instance qg.dec:DecidableEq qg:=JE qG
def qn:Ty:=.ag [.i .i64,.i .i64]
abbrev qf:=Int×Int
def qf.N (x:qf):Int:=x.1
def qf.Rep (x:qf):Int:=x.2
def qf.mk (x0:Int) (x1:Int):qf:=(x0,x1)
instance qf.dec:DecidableEq qf:=JE qn
def qq:Ty:=.ag [qn,.s]
abbrev qd:=qf×List UInt8
def qd.S (x:qd):qf:=x.1
def qd.V (x:qd):List UInt8:=x.2
def qd.mk (x0:qf) (x1:List UInt8):qd:=(x0,x1)
instance qd.dec:DecidableEq qd:=JE qq
def qp:Ty:=.ag [.i .i64,qq]
abbrev qc:=Int×qd
def qc.No (x:qc):Int:=x.1
def qc.C (x:qc):qd:=x.2
def qc.mk (x0:Int) (x1:qd):qc:=(x0,x1)
instance qc.dec:DecidableEq qc:=JE qp
def qh:Ty:=.ag [.ba 16,qn,.sl 4 qp]
abbrev qa:=Vector UInt8 16×qf×List qc
def qa.ID (x:qa):Vector UInt8 16:=x.1
def qa.qX (x:qa):qf:=x.2.1
def qa.F (x:qa):List qc:=x.2.2
def qa.mk (x0:Vector UInt8 16) (x1:qf) (x2:List qc):qa:=(x0,x1,x2)
instance qa.dec:DecidableEq qa:=JE qh
def qL:Ty:=.ag [.sl 19 qh]
abbrev qb:=List qa
def qb.R (x:qb):List qa:=x
def qb.mk (x0:List qa):qb:=(x0)
instance qb.dec:DecidableEq qb:=JE qL
def zO:Ty:=.ag [.i .i64,.ba 16,qn,.i .i64,.s,.sl 4 qG,.ba 16,.i .i64,.ba 32]
abbrev qe:=Int×Vector UInt8 16×qf×Int×List UInt8×List qg×Vector UInt8 16×Int×Vector UInt8 32
def qe.Kind (x:qe):Int:=x.1
def qe.ID (x:qe):Vector UInt8 16:=x.2.1
def qe.S (x:qe):qf:=x.2.2.1
def qe.No (x:qe):Int:=x.2.2.2.1
def qe.V (x:qe):List UInt8:=x.2.2.2.2.1
def qe.P (x:qe):List qg:=x.2.2.2.2.2.1
def qe.jA (x:qe):Vector UInt8 16:=x.2.2.2.2.2.2.1
def qe.Jt (x:qe):Int:=x.2.2.2.2.2.2.2.1
def qe.D (x:qe):Vector UInt8 32:=x.2.2.2.2.2.2.2.2
def qe.mk (x0:Int) (x1:Vector UInt8 16) (x2:qf) (x3:Int) (x4:List UInt8) (x5:List qg) (x6:Vector UInt8 16) (x7:Int) (x8:Vector UInt8 32):qe:=(x0,x1,x2,x3,x4,x5,x6,x7,x8)
instance qe.dec:DecidableEq qe:=JE zO
def ju:Ty:=.ag [qL,zO]
abbrev qW:=qb×qe
def qW.b (x:qW):qb:=x.1
def qW.o (x:qW):qe:=x.2
def qW.mk (x0:qb) (x1:qe):qW:=(x0,x1)
instance qW.dec:DecidableEq qW:=JE ju
end Go.Rx
end
set_option maxRecDepth 100000
noncomputable section
namespace Go.Rx
open Go.Proofs
theorem qk:Tryz.prog.follows .mixedOrders=true:=by kernel_rfl
noncomputable instance qK8:CT:=⟨ctF Tryz.prog⟩
def qqv:Ent:=qKD 128
theorem qz5:zc Tryz.prog qqv:=qJo (fn:=Tryz.f128) (by kernel_rfl) (by kernel_rfl) (by kernel_rfl) (by kernel_rfl) (by kernel_rfl)
noncomputable def qEM:Code:=Tryz.f104.body.getD .skip
theorem qll:FnF Tryz.prog 104 Tryz.f104 qEM:=⟨qk,by kernel_rfl,by kernel_rfl,by kernel_rfl⟩
def quB:TH:={ live:=[(0,[0]),(1,[0,4]),(2,[2]),(3,[2])],vecs:=[5],esc:=true }
def qud (N:Nat):List Ent:=[]
theorem qrc (N:Nat):qT Tryz.prog (qud N):=trivial
def qkb (a0:List UInt8) (z:Unit):TV×THp:=(.v 100050 (((([]:List UInt8))++a0).length),[(100050,.vec false 1 .bl ((([]:List UInt8))++a0:List UInt8))])
def qdI (a0:List UInt8):Tree (Unit):=
 .chk (List.isEmpty a0=false) <|
 .chk (VN ((([]:List UInt8)).length) 0 (((([]:List UInt8))++a0).length) 1) <|
 .ret ()
def qhd (a0:List UInt8):Option (Unit):=(qdI a0).run some
def quQ:List (Nat×qH):=[]
theorem qqf:qcJ Tryz.prog ⟨104,[],[.x .bl],[],[]⟩ [.bl] (fun x=>qdI x.1) (fun x=>qkb x.1):=
 K9 (H:=quB) (L:=qR (quQ)) 0 qll (qrc 0) (qu (by kernel_rfl) trivial) (rg0 (by kernel_rfl)) fun x=>by kernel_rfl
def qre:TH:={ live:=[(0,[0]),(1,[0,4]),(2,[2]),(3,[2])],vecs:=[5],esc:=true }
def qp2 (N:Nat):List Ent:=[]
theorem qnX (N:Nat):qT Tryz.prog (qp2 N):=trivial
def qrO (z:Unit):TV×THp:=(.v 100050 0,[(100050,.vec false 1 .bl ([]:List UInt8))])
def qfJ:Tree (Unit):=
 .chk (0=0) <|
 .ret ()
def qu7:Option (Unit):=(qfJ).run some
def qrS:List (Nat×qH):=[]
theorem qny:qcJ Tryz.prog ⟨104,[],[.k (.es 0)],[],[]⟩ [] (fun x=>qfJ) (fun _=>qrO):=
 K9 (H:=qre) (L:=qR (qrS)) 0 qll (qnX 0) (qu (by kernel_rfl) trivial) (rg0 (by kernel_rfl)) fun x=>by kernel_rfl
def qqc:TH:={ live:=[(0,[0]),(1,[0,4]),(2,[2]),(3,[2])],vecs:=[5],esc:=true }
def qqL (N:Nat):List Ent:=[]
theorem qnC (N:Nat):qT Tryz.prog (qqL N):=trivial
def qqr (z:Unit):TV×THp:=(.nils,[])
def qf_:Tree (Unit):=
 .ret ()
def qu2:Option (Unit):=(qf_).run some
def qrB:List (Nat×qH):=[]
theorem qnF:qcJ Tryz.prog ⟨104,[],[.k (.es 1)],[],[]⟩ [] (fun x=>qf_) (fun _=>qqr):=
 K9 (H:=qqc) (L:=qR (qrB)) 0 qll (qnC 0) (qu (by kernel_rfl) trivial) (rg0 (by kernel_rfl)) fun x=>by kernel_rfl
def qgb (z:Unit):Unit:=()
def qqD (z:Unit):Unit:=()
def Xe (a0:List UInt8):Option (Unit):=
 bif a0.isEmpty then
  (qu7).bind fun z0=>(qu2).bind fun z1=>chk (qgb z0=qqD z1) (some (qgb z0))
 else qhd a0
def qhI:Ent:=smF ⟨104,[],[.x .bl],[],[]⟩ [.bl] (Unit) (fun x=>Xe x.1) cs1 fun x=>qkb x.1
theorem qqi:zc Tryz.prog (qhI):=qdg fun x z h l=>by
 obtain ⟨a0,_⟩:=x
 replace h:Xe a0=some z:=h
 unfold Xe at h
 rcases qlQ h with ⟨e,h2⟩ | ⟨_,h2⟩<;>clear h
 ·have e:=List.isEmpty_iff.1 e
  subst e
  obtain ⟨z0,c0,h2⟩:=bind_some h2
  obtain ⟨z1,c1,h2⟩:=bind_some h2
  obtain ⟨hE,h2⟩:=W9 h2
  obtain rfl:=Option.some.inj h2
  refine qmU (t:=.bl) (x:=[]) rfl (TV.ers []) (TV.ers []) (by exact qny (()) _ c0 l) ?_
  rw [hE]
  exact (qJh (n:=100050) (sz:=1) (x:=qw .bl ([]:List UInt8)) rfl (by kernel_rfl) (by kernel_rfl) (qnF (()) _ c1 l))
 ·exact qqf (a0,()) z h2 l
noncomputable def qDO:Code:=Tryz.f105.body.getD .skip
theorem qEW:FnF Tryz.prog 105 Tryz.f105 qDO:=⟨qk,by kernel_rfl,by kernel_rfl,by kernel_rfl⟩
def qzM:TH:={ live:=[(0,[0]),(1,[0])] }
def qzO (N:Nat):List Ent:=[]
theorem quP (N:Nat):qT Tryz.prog (qzO N):=trivial
def qyy (z:Unit):TV×THp:=(.tv (.wa 8) ((((((((((Vector.replicate 8 0)).setIfInBounds 0 ((UInt32.ofNat 1779033703))).setIfInBounds 1 ((UInt32.ofNat 3144134277))).setIfInBounds 2 ((UInt32.ofNat 1013904242))).setIfInBounds 3 ((UInt32.ofNat 2773480762))).setIfInBounds 4 ((UInt32.ofNat 1359893119))).setIfInBounds 5 ((UInt32.ofNat 2600822924))).setIfInBounds 6 ((UInt32.ofNat 528734635))).setIfInBounds 7 ((UInt32.ofNat 1541459225)):Vector UInt32 8),[])
def qos:Tree (Unit):=
 .chk (0 < 8) <|
 .chk (1 < 8) <|
 .chk (2 < 8) <|
 .chk (3 < 8) <|
 .chk (4 < 8) <|
 .chk (5 < 8) <|
 .chk (6 < 8) <|
 .chk (7 < 8) <|
 .ret ()
def ql1:Option (Unit):=(qos).run some
def qy3:List (Nat×qH):=[]
def qoy:Ent:=smF ⟨105,[],[],[],[]⟩ [] (Unit) (fun x=>ql1) cs1 fun _=>qyy
theorem qwo:zc Tryz.prog (qoy):=
 q8 (H:=qzM) (L:=qR (qy3)) (ts:=[]) (T:=fun x=>qos) 0 qEW (quP 0) (qu (by kernel_rfl) trivial) (rg0 (by kernel_rfl)) fun x=>by kernel_rfl
noncomputable def qFr:Code:=Tryz.f106.body.getD .skip
theorem qE8:FnF Tryz.prog 106 Tryz.f106 qFr:=⟨qk,by kernel_rfl,by kernel_rfl,by kernel_rfl⟩
def qzg:TH:={ live:=[(0,[0]),(1,[0])] }
def qzv (N:Nat):List Ent:=[]
theorem qun (N:Nat):qT Tryz.prog (qzv N):=trivial
def qy9 (z:Unit):TV×THp:=(.tv (.wa 64) ((((((((((((((((((((((((((((((((((((((((((((((((((((((((((((((((((Vector.replicate 64 0)).setIfInBounds 0 ((UInt32.ofNat 1116352408))).setIfInBounds 1 ((UInt32.ofNat 1899447441))).setIfInBounds 2 ((UInt32.ofNat 3049323471))).setIfInBounds 3 ((UInt32.ofNat 3921009573))).setIfInBounds 4 ((UInt32.ofNat 961987163))).setIfInBounds 5 ((UInt32.ofNat 1508970993))).setIfInBounds 6 ((UInt32.ofNat 2453635748))).setIfInBounds 7 ((UInt32.ofNat 2870763221))).setIfInBounds 8 ((UInt32.ofNat 3624381080))).setIfInBounds 9 ((UInt32.ofNat 310598401))).setIfInBounds 10 ((UInt32.ofNat 607225278))).setIfInBounds 11 ((UInt32.ofNat 1426881987))).setIfInBounds 12 ((UInt32.ofNat 1925078388))).setIfInBounds 13 ((UInt32.ofNat 2162078206))).setIfInBounds 14 ((UInt32.ofNat 2614888103))).setIfInBounds 15 ((UInt32.ofNat 3248222580))).setIfInBounds 16 ((UInt32.ofNat 3835390401))).setIfInBounds 17 ((UInt32.ofNat 4022224774))).setIfInBounds 18 ((UInt32.ofNat 264347078))).setIfInBounds 19 ((UInt32.ofNat 604807628))).setIfInBounds 20 ((UInt32.ofNat 770255983))).setIfInBounds 21 ((UInt32.ofNat 1249150122))).setIfInBounds 22 ((UInt32.ofNat 1555081692))).setIfInBounds 23 ((UInt32.ofNat 1996064986))).setIfInBounds 24 ((UInt32.ofNat 2554220882))).setIfInBounds 25 ((UInt32.ofNat 2821834349))).setIfInBounds 26 ((UInt32.ofNat 2952996808))).setIfInBounds 27 ((UInt32.ofNat 3210313671))).setIfInBounds 28 ((UInt32.ofNat 3336571891))).setIfInBounds 29 ((UInt32.ofNat 3584528711))).setIfInBounds 30 ((UInt32.ofNat 113926993))).setIfInBounds 31 ((UInt32.ofNat 338241895))).setIfInBounds 32 ((UInt32.ofNat 666307205))).setIfInBounds 33 ((UInt32.ofNat 773529912))).setIfInBounds 34 ((UInt32.ofNat 1294757372))).setIfInBounds 35 ((UInt32.ofNat 1396182291))).setIfInBounds 36 ((UInt32.ofNat 1695183700))).setIfInBounds 37 ((UInt32.ofNat 1986661051))).setIfInBounds 38 ((UInt32.ofNat 2177026350))).setIfInBounds 39 ((UInt32.ofNat 2456956037))).setIfInBounds 40 ((UInt32.ofNat 2730485921))).setIfInBounds 41 ((UInt32.ofNat 2820302411))).setIfInBounds 42 ((UInt32.ofNat 3259730800))).setIfInBounds 43 ((UInt32.ofNat 3345764771))).setIfInBounds 44 ((UInt32.ofNat 3516065817))).setIfInBounds 45 ((UInt32.ofNat 3600352804))).setIfInBounds 46 ((UInt32.ofNat 4094571909))).setIfInBounds 47 ((UInt32.ofNat 275423344))).setIfInBounds 48 ((UInt32.ofNat 430227734))).setIfInBounds 49 ((UInt32.ofNat 506948616))).setIfInBounds 50 ((UInt32.ofNat 659060556))).setIfInBounds 51 ((UInt32.ofNat 883997877))).setIfInBounds 52 ((UInt32.ofNat 958139571))).setIfInBounds 53 ((UInt32.ofNat 1322822218))).setIfInBounds 54 ((UInt32.ofNat 1537002063))).setIfInBounds 55 ((UInt32.ofNat 1747873779))).setIfInBounds 56 ((UInt32.ofNat 1955562222))).setIfInBounds 57 ((UInt32.ofNat 2024104815))).setIfInBounds 58 ((UInt32.ofNat 2227730452))).setIfInBounds 59 ((UInt32.ofNat 2361852424))).setIfInBounds 60 ((UInt32.ofNat 2428436474))).setIfInBounds 61 ((UInt32.ofNat 2756734187))).setIfInBounds 62 ((UInt32.ofNat 3204031479))).setIfInBounds 63 ((UInt32.ofNat 3329325298)):Vector UInt32 64),[])
def qn2:Tree (Unit):=
 .chk (0 < 64) <|
 .chk (1 < 64) <|
 .chk (2 < 64) <|
 .chk (3 < 64) <|
 .chk (4 < 64) <|
 .chk (5 < 64) <|
 .chk (6 < 64) <|
 .chk (7 < 64) <|
 .chk (8 < 64) <|
 .chk (9 < 64) <|
 .chk (10 < 64) <|
 .chk (11 < 64) <|
 .chk (12 < 64) <|
 .chk (13 < 64) <|
 .chk (14 < 64) <|
 .chk (15 < 64) <|
 .chk (16 < 64) <|
 .chk (17 < 64) <|
 .chk (18 < 64) <|
 .chk (19 < 64) <|
 .chk (20 < 64) <|
 .chk (21 < 64) <|
 .chk (22 < 64) <|
 .chk (23 < 64) <|
 .chk (24 < 64) <|
 .chk (25 < 64) <|
 .chk (26 < 64) <|
 .chk (27 < 64) <|
 .chk (28 < 64) <|
 .chk (29 < 64) <|
 .chk (30 < 64) <|
 .chk (31 < 64) <|
 .chk (32 < 64) <|
 .chk (33 < 64) <|
 .chk (34 < 64) <|
 .chk (35 < 64) <|
 .chk (36 < 64) <|
 .chk (37 < 64) <|
 .chk (38 < 64) <|
 .chk (39 < 64) <|
 .chk (40 < 64) <|
 .chk (41 < 64) <|
 .chk (42 < 64) <|
 .chk (43 < 64) <|
 .chk (44 < 64) <|
 .chk (45 < 64) <|
 .chk (46 < 64) <|
 .chk (47 < 64) <|
 .chk (48 < 64) <|
 .chk (49 < 64) <|
 .chk (50 < 64) <|
 .chk (51 < 64) <|
 .chk (52 < 64) <|
 .chk (53 < 64) <|
 .chk (54 < 64) <|
 .chk (55 < 64) <|
 .chk (56 < 64) <|
 .chk (57 < 64) <|
 .chk (58 < 64) <|
 .chk (59 < 64) <|
 .chk (60 < 64) <|
 .chk (61 < 64) <|
 .chk (62 < 64) <|
 .chk (63 < 64) <|
 .ret ()
def qlu:Option (Unit):=(qn2).run some
def qzf:List (Nat×qH):=[]
def qoA:Ent:=smF ⟨106,[],[],[],[]⟩ [] (Unit) (fun x=>qlu) cs1 fun _=>qy9
theorem qvY:zc Tryz.prog (qoA):=
 q8 (H:=qzg) (L:=qR (qzf)) (ts:=[]) (T:=fun x=>qn2) 0 qE8 (qun 0) (qu (by kernel_rfl) trivial) (rg0 (by kernel_rfl)) fun x=>by kernel_rfl
noncomputable def qFu:Code:=Tryz.f142.body.getD .skip
theorem qDR:FnF Tryz.prog 142 Tryz.f142 qFu:=⟨qk,by kernel_rfl,by kernel_rfl,by kernel_rfl⟩
def qff:TH:={ live:=[(0,[0,1]),(1,[0,5]),(2,[4])] }
def qfd (N:Nat):List Ent:=[]
theorem qdF (N:Nat):qT Tryz.prog (qfd N):=trivial
def qe5 (z:Int):TV×THp:=(.tv (.i .u32) z,[])
def J8 (a0:Int) (a1:Int):Tree (Int):=
 .chk (0≤(qfm .u64 (IntKind.u64.wrap a1) 31)) <|
 let w1:Int:=qsD .u32 a0 (min (qfm .u64 (IntKind.u64.wrap a1) 31).toNat 32)
 let w2:Int:=qJR .u64 ((32:Int)) (qfm .u64 (IntKind.u64.wrap a1) 31)
 .chk (0≤w2) <|
 .ret (uOr .u32 w1 (ZT a0 (min w2.toNat 32)))
def VM (a0:Int) (a1:Int):Option (Int):=(J8 a0 a1).run some
def qe0:List (Nat×qH):=[]
def Yl:Ent:=smF ⟨142,[],[.x (.i .u32),.x (.i .i64)],[],[]⟩ [(.i .u32),(.i .i64)] (Int) (fun x=>VM x.1 x.2.1) cs1 fun _=>qe5
theorem qeg:zc Tryz.prog (Yl):=
 q8 (H:=qff) (L:=qR (qe0)) (ts:=[(.i .u32),(.i .i64)]) (T:=fun x=>J8 x.1 x.2.1) 0 qDR (qdF 0) (qu (by kernel_rfl) trivial) (rg0 (by kernel_rfl)) fun x=>by kernel_rfl
noncomputable def qD4:Code:=Tryz.f125.body.getD .skip
theorem qEt:FnF Tryz.prog 125 Tryz.f125 qD4:=⟨qk,by kernel_rfl,by kernel_rfl,by kernel_rfl⟩
def qzA:TH:={ live:=[(0,[0,1]),(1,[4])] }
def qyn (N:Nat):List Ent:=[Yl]
theorem quZ (N:Nat):qT Tryz.prog (qyn N):=⟨qeg,trivial⟩
def qyU (z:Int):TV×THp:=(.tv (.i .u32) z,[])
def qgZ (a0:Int) (a1:Int):Tree (Int):=
 .chk (qz (0 - a1)) <|
 .bind (VM a0 (0 - a1)) fun r1=>
 .ret r1
def zX (a0:Int) (a1:Int):Option (Int):=(qgZ a0 a1).run some
def qys:List (Nat×qH):=[]
def qgx:Ent:=smF ⟨125,[],[.x (.i .u32),.x (.i .i64)],[],[]⟩ [(.i .u32),(.i .i64)] (Int) (fun x=>zX x.1 x.2.1) cs1 fun _=>qyU
theorem qmL:zc Tryz.prog (qgx):=
 q8 (H:=qzA) (L:=qR (qys)) (ts:=[(.i .u32),(.i .i64)]) (T:=fun x=>qgZ x.1 x.2.1) 0 qEt (quZ 0) (qu (by kernel_rfl) trivial) (rg0 (by kernel_rfl)) fun x=>by kernel_rfl
noncomputable def qk7:Code:=Tryz.f124.body.getD .skip
theorem qDs:FnF Tryz.prog 124 Tryz.f124 qk7:=⟨qk,by kernel_rfl,by kernel_rfl,by kernel_rfl⟩
def qcy:TH:={ live:=[(0,[0,2]),(1,[0,2,3]),(2,[0,2,3,7]),(3,[0,2,3,7,8]),(4,[0,2,3,4,7]),(5,[0,2,3,4,7,11]),(6,[0,2,3,7]),(7,[0,2,3,4,5,6,7]),(8,[0,2,3,7]),(9,[0,2,3,7]),(10,[2])] }
def qig (N:Nat):List Ent:=[qgx]
theorem qeU (N:Nat):qT Tryz.prog (qig N):=⟨qmL,trivial⟩
abbrev V3:=Vector UInt32 64×List UInt8
abbrev Zd:=Vector UInt32 64×Int×Bool
def Ju (f:V3) (y:Zd):Ex×TSt:=(.exit 0,⟨0,86,[],[(0,.tv .bl f.2),(2,.p 20 [] 0),(3,.p 30 [] 0),(7,xi y.2.1),(8,xb y.2.2)],[(20,.cell false (.tv (.wa 64) f.1)),(30,.cell false (.tv (.wa 64) (y.1:Vector UInt32 64)))],false,[]⟩)
def qnK (N:Nat):List (Nat×qH):=[]
abbrev Js:=Vector UInt32 64×Int
def qdZ:SP:=⟨0,86,[],[(0,.x .bl),(2,.k (.p 20 [] 0)),(3,.k (.p 30 [] 0)),(7,.x (.i .i64))],[(20,.cell false (.x (.wa 64))),(30,.cell false (.x (.wa 64)))],false,[]⟩
def qnz (f:V3) (v:Js):TSt:=jq qdZ [dv (.wa 64) f.1,dv (.wa 64) v.1,dv .bl f.2,dv (.i .i64) v.2]
def v_ (N:Nat) (o_3:Vector UInt32 64) (s0_3:List UInt8) (v:Js):Tree (Js⊕Zd):=
 .cond (decide (v.2 < ((64:Int)))) (
 .cond (decide (v.2 < ((16:Int)))) (
 .chk (qz (((4:Int)) * v.2)) <|
 .bind (zn s0_3 (((4:Int)) * v.2)) fun e1=>
 let w2:Int:=IntKind.u32.wrap ((e1.toNat:Nat):Int)
 .chk (0≤(24:Int)) <|
 .chk (qz (((4:Int)) * v.2)) <|
 .chk (qz ((((4:Int)) * v.2) + 1)) <|
 .bind (zn s0_3 ((((4:Int)) * v.2) + 1)) fun e3=>
 let w4:Int:=IntKind.u32.wrap ((e3.toNat:Nat):Int)
 .chk (0≤(16:Int)) <|
 let w5:Int:=uOr .u32 (qsD .u32 w2 24) (qsD .u32 w4 16)
 .chk (qz (((4:Int)) * v.2)) <|
 .chk (qz ((((4:Int)) * v.2) + 2)) <|
 .bind (zn s0_3 ((((4:Int)) * v.2) + 2)) fun e6=>
 let w7:Int:=IntKind.u32.wrap ((e6.toNat:Nat):Int)
 .chk (0≤(8:Int)) <|
 .chk (qz (((4:Int)) * v.2)) <|
 .chk (qz ((((4:Int)) * v.2) + 3)) <|
 .bind (zn s0_3 ((((4:Int)) * v.2) + 3)) fun e8=>
 let w9:Int:=IntKind.u32.wrap ((e8.toNat:Nat):Int)
 let w10:Int:=uOr .u32 (uOr .u32 w5 (qsD .u32 w7 8)) w9
 .chk (0≤v.2∧v.2 < ((64:Nat):Int)) <|
 .chk (inW w10) <|
 .chk (v.2.toNat < 64) <|
 .chk (qz (v.2 + 1)) <|
 .ret (.inl (v.1.setIfInBounds v.2.toNat (UInt32.ofNat w10.toNat),v.2 + 1))) <|
 .chk (qz (v.2 - 15)) <|
 .chk (0≤(v.2 - 15)∧(v.2 - 15) < ((64:Nat):Int)) <|
 .chk ((v.2 - 15).toNat < 64) <|
 .chk (qz (v.2 - 2)) <|
 .chk (0≤(v.2 - 2)∧(v.2 - 2) < ((64:Nat):Int)) <|
 .chk ((v.2 - 2).toNat < 64) <|
 .chk (qz (v.2 - 16)) <|
 .chk (0≤(v.2 - 16)∧(v.2 - 16) < ((64:Nat):Int)) <|
 .chk ((v.2 - 16).toNat < 64) <|
 .chk (qz (v.2 - 7)) <|
 .chk (0≤(v.2 - 7)∧(v.2 - 7) < ((64:Nat):Int)) <|
 .chk ((v.2 - 7).toNat < 64) <|
 let w1:Int:=qaE .u32 (((v.1.toList.getD ((v.2 - 16).toNat) 0).toNat:Nat):Int) (((v.1.toList.getD ((v.2 - 7).toNat) 0).toNat:Nat):Int)
 .bind (zX (((v.1.toList.getD ((v.2 - 15).toNat) 0).toNat:Nat):Int) 7) fun r2=>
 .bind (zX (((v.1.toList.getD ((v.2 - 15).toNat) 0).toNat:Nat):Int) 18) fun r3=>
 .chk (0≤(3:Int)) <|
 let w4:Int:=ZT (((v.1.toList.getD ((v.2 - 15).toNat) 0).toNat:Nat):Int) 3
 let w5:Int:=qaE .u32 w1 (qav .u32 (qav .u32 r2 r3) w4)
 .bind (zX (((v.1.toList.getD ((v.2 - 2).toNat) 0).toNat:Nat):Int) 17) fun r6=>
 .bind (zX (((v.1.toList.getD ((v.2 - 2).toNat) 0).toNat:Nat):Int) 19) fun r7=>
 .chk (0≤(10:Int)) <|
 let w8:Int:=ZT (((v.1.toList.getD ((v.2 - 2).toNat) 0).toNat:Nat):Int) 10
 let w9:Int:=qaE .u32 w5 (qav .u32 (qav .u32 r6 r7) w8)
 .chk (0≤v.2∧v.2 < ((64:Nat):Int)) <|
 .chk (inW w9) <|
 .chk (v.2.toNat < 64) <|
 .chk (qz (v.2 + 1)) <|
 .ret (.inl (v.1.setIfInBounds v.2.toNat (UInt32.ofNat w9.toNat),v.2 + 1))) <|
 .ret (.inr (v.1,v.2,decide (v.2 < ((64:Int)))))
def qdO (N n:Nat) (f:V3) (v:Js):Option Zd:=q_ (v_ N f.1 f.2) some n v
theorem qnN (N:Nat) (f:V3) (n:Nat) (v:Js) (y:Zd) (h:qdO N n f v=some y):LG Tryz.prog qcy 124 (zd qk7 3) (qnz f v) (Ju f y):=
 zY qk (E:=qig N) (L:=qR (qnK N)) (st:=Ju f) (g:=some) (R:=Ju f) (qeU N) (qu (by kernel_rfl) trivial) (rg0 (by kernel_rfl)) (fun v=>by kernel_rfl) (zl (st:=Ju f) fun y=>by rfl) (js0 rfl) n v y h
def qbg (N:Nat) (o_3:Vector UInt32 64) (s0_3:List UInt8) (o_3_2:Vector UInt32 64) (s7_3:Int):Option Zd:=qdO N N (o_3,s0_3) (o_3_2,s7_3)
def qdX (N:Nat):qH:=smL qdZ [(.wa 64),(.wa 64),.bl,(.i .i64)] Zd (fun x=>qbg N x.1 x.2.2.1 x.2.1 x.2.2.2.1) cs1 fun x=>Ju (x.1,x.2.2.1)
theorem qlj (N:Nat):v8 Tryz.prog qcy 124 (zd qk7 3) (qdX N):=jw fun x z h=>qnN N (x.1,x.2.2.1) N (x.2.1,x.2.2.2.1) z h
def qsW (z:Vector UInt32 64):TV×THp:=(.tv (.wa 64) z,[])
def qcj (N:Nat) (a0:List UInt8):Tree (Vector UInt32 64):=
 .bind (qbg N ((Vector.replicate 64 0)) a0 ((Vector.replicate 64 0)) 0) fun z1=>
 .ret z1.1
def qbf (N:Nat) (a0:List UInt8):Option (Vector UInt32 64):=(qcj N a0).run some
def qsi (N:Nat):List (Nat×qH):=[(3,qdX N)]
def qhD (N:Nat):Ent:=smF ⟨124,[],[.x .bl],[],[]⟩ [.bl] (Vector UInt32 64) (fun x=>qbf N x.1) cs1 fun _=>qsW
theorem qqg (N:Nat):zc Tryz.prog (qhD N):=
 q8 (H:=qcy) (L:=qR (qsi N)) (ts:=[.bl]) (T:=fun x=>qcj N x.1) 0 qDs (qeU N) (qu (by kernel_rfl) ⟨qlj N,trivial⟩) (rg0 (by kernel_rfl)) fun x=>by kernel_rfl
noncomputable def qc4:Code:=Tryz.f107.body.getD .skip
theorem qD3:FnF Tryz.prog 107 Tryz.f107 qc4:=⟨qk,by kernel_rfl,by kernel_rfl,by kernel_rfl⟩
def JV:TH:={ live:=[(0,[0,2,6]),(1,[0,2,6,7]),(2,[0,2,6,7,19]),(3,[0,2,6,7,19,20]),(4,[0,2,6,7,8,19]),(5,[0,2,6,7,8,9,10,19]),(6,[0,2,6,7,9,11,19]),(7,[0,2,6,7,11,12,19]),(8,[0,2,6,7,11,12,19]),(9,[0,2,6,7,11,19]),(10,[0,2,6,7,19]),(11,[0,2,6,7,19]),(12,[0,7,95]),(13,[0,7,95,96]),(14,[0,7,13,95]),(15,[0,7,95]),(16,[0,7,95])] }
def qaC (N:Nat):List Ent:=[qhD N,qgx]
theorem YB (N:Nat):qT Tryz.prog (qaC N):=⟨qqg N,qmL,trivial⟩
abbrev J9:=Vector UInt32 8×Vector UInt32 64×Vector UInt32 64
abbrev Qf:=Vector UInt32 8×Int×Bool
def Zu (f:J9) (y:Qf):Ex×TSt:=(.exit 0,⟨1,110,[50,60],[(0,.p 50 [] 0),(2,.p 60 [] 0),(6,.p 100060 [] 0),(7,.p 100070 [] 0),(19,xi y.2.1),(20,xb y.2.2)],[(50,.cell false (.tv (.wa 8) f.1)),(60,.cell false (.tv (.wa 64) f.2.1)),(100060,.cell false (.tv (.wa 64) f.2.2)),(100070,.cell false (.tv (.wa 8) (y.1:Vector UInt32 8)))],false,[]⟩)
def qkE (N:Nat):List (Nat×qH):=[]
abbrev Zv:=Vector UInt32 8×Int
def qb7:SP:=⟨1,110,[50,60],[(0,.k (.p 50 [] 0)),(2,.k (.p 60 [] 0)),(6,.k (.p 100060 [] 0)),(7,.k (.p 100070 [] 0)),(19,.x (.i .i64))],[(50,.cell false (.x (.wa 8))),(60,.cell false (.x (.wa 64))),(100060,.cell false (.x (.wa 64))),(100070,.cell false (.x (.wa 8)))],false,[]⟩
def qkw (f:J9) (v:Zv):TSt:=jq qb7 [dv (.wa 8) f.1,dv (.wa 64) f.2.1,dv (.wa 64) f.2.2,dv (.wa 8) v.1,dv (.i .i64) v.2]
def Zt (N:Nat) (o_3:Vector UInt32 8) (o_3_2:Vector UInt32 64) (o_3_3:Vector UInt32 64) (v:Zv):Tree (Zv⊕Qf):=
 .cond (decide (v.2 < ((64:Int)))) (
 .chk (0≤(0:Int)∧(0:Int) < ((8:Nat):Int)) <|
 .chk (0 < 8) <|
 .chk (0≤(4:Int)∧(4:Int) < ((8:Nat):Int)) <|
 .chk (4 < 8) <|
 .chk (0≤(7:Int)∧(7:Int) < ((8:Nat):Int)) <|
 .chk (7 < 8) <|
 .bind (zX (((v.1.toList.getD 4 0).toNat:Nat):Int) 6) fun r1=>
 .bind (zX (((v.1.toList.getD 4 0).toNat:Nat):Int) 11) fun r2=>
 .bind (zX (((v.1.toList.getD 4 0).toNat:Nat):Int) 25) fun r3=>
 let w4:Int:=qaE .u32 (((v.1.toList.getD 7 0).toNat:Nat):Int) (qav .u32 (qav .u32 r1 r2) r3)
 .chk (0≤(5:Int)∧(5:Int) < ((8:Nat):Int)) <|
 .chk (5 < 8) <|
 let w5:Int:=qfm .u32 (((v.1.toList.getD 4 0).toNat:Nat):Int) (((v.1.toList.getD 5 0).toNat:Nat):Int)
 let w6:Int:=qav .u32 (4294967295) (((v.1.toList.getD 4 0).toNat:Nat):Int)
 .chk (0≤(6:Int)∧(6:Int) < ((8:Nat):Int)) <|
 .chk (6 < 8) <|
 let w7:Int:=qfm .u32 w6 (((v.1.toList.getD 6 0).toNat:Nat):Int)
 .chk (0≤v.2∧v.2 < ((64:Nat):Int)) <|
 .chk (v.2.toNat < 64) <|
 let w8:Int:=qaE .u32 (qaE .u32 w4 (qav .u32 w5 w7)) (((o_3_2.toList.getD v.2.toNat 0).toNat:Nat):Int)
 .chk (0≤v.2∧v.2 < ((64:Nat):Int)) <|
 .chk (v.2.toNat < 64) <|
 let w9:Int:=qaE .u32 w8 (((o_3_3.toList.getD v.2.toNat 0).toNat:Nat):Int)
 .bind (zX (((v.1.toList.getD 0 0).toNat:Nat):Int) 2) fun r10=>
 .bind (zX (((v.1.toList.getD 0 0).toNat:Nat):Int) 13) fun r11=>
 .bind (zX (((v.1.toList.getD 0 0).toNat:Nat):Int) 22) fun r12=>
 .chk (0≤(1:Int)∧(1:Int) < ((8:Nat):Int)) <|
 .chk (1 < 8) <|
 let w13:Int:=qfm .u32 (((v.1.toList.getD 0 0).toNat:Nat):Int) (((v.1.toList.getD 1 0).toNat:Nat):Int)
 .chk (0≤(2:Int)∧(2:Int) < ((8:Nat):Int)) <|
 .chk (2 < 8) <|
 let w14:Int:=qfm .u32 (((v.1.toList.getD 0 0).toNat:Nat):Int) (((v.1.toList.getD 2 0).toNat:Nat):Int)
 .chk (0≤(1:Int)∧(1:Int) < ((8:Nat):Int)) <|
 .chk (1 < 8) <|
 .chk (0≤(2:Int)∧(2:Int) < ((8:Nat):Int)) <|
 .chk (2 < 8) <|
 let w15:Int:=qfm .u32 (((v.1.toList.getD 1 0).toNat:Nat):Int) (((v.1.toList.getD 2 0).toNat:Nat):Int)
 let w16:Int:=qaE .u32 (qav .u32 (qav .u32 r10 r11) r12) (qav .u32 (qav .u32 w13 w14) w15)
 .chk (0≤(0:Int)∧(0:Int) < ((8:Nat):Int)) <|
 .chk (inW (qaE .u32 w9 w16)) <|
 .chk (0 < 8) <|
 .chk (0≤(4:Int)∧(4:Int) < ((8:Nat):Int)) <|
 .chk (4 < 8) <|
 let w17:Int:=qaE .u32 (((((Wt v.1 1 7).setIfInBounds 0 (UInt32.ofNat (qaE .u32 w9 w16).toNat)).toList.getD 4 0).toNat:Nat):Int) w9
 .chk (0≤(4:Int)∧(4:Int) < ((8:Nat):Int)) <|
 .chk (inW w17) <|
 .chk (4 < 8) <|
 .chk (qz (v.2 + 1)) <|
 .ret (.inl (((Wt v.1 1 7).setIfInBounds 0 (UInt32.ofNat (qaE .u32 w9 w16).toNat)).setIfInBounds 4 (UInt32.ofNat w17.toNat),v.2 + 1))) <|
 .ret (.inr (v.1,v.2,decide (v.2 < ((64:Int)))))
def qb9 (N n:Nat) (f:J9) (v:Zv):Option Qf:=q_ (Zt N f.1 f.2.1 f.2.2) some n v
theorem qkJ (N:Nat) (f:J9) (n:Nat) (v:Zv) (y:Qf) (h:qb9 N n f v=some y):LG Tryz.prog JV 107 (zd qc4 3) (qkw f v) (Zu f y):=
 zY qk (E:=qaC N) (L:=qR (qkE N)) (st:=Zu f) (g:=some) (R:=Zu f) (YB N) (qu (by kernel_rfl) trivial) (rg0 (by kernel_rfl)) (fun v=>by kernel_rfl) (zl (st:=Zu f) fun y=>by rfl) (js0 rfl) n v y h
def KG (N:Nat) (o_3:Vector UInt32 8) (o_3_2:Vector UInt32 64) (o_3_3:Vector UInt32 64) (o_3_4:Vector UInt32 8) (s19_3:Int):Option Qf:=qb9 N N (o_3,o_3_2,o_3_3) (o_3_4,s19_3)
def qb6 (N:Nat):qH:=smL qb7 [(.wa 8),(.wa 64),(.wa 64),(.wa 8),(.i .i64)] Qf (fun x=>KG N x.1 x.2.1 x.2.2.1 x.2.2.2.1 x.2.2.2.2.1) cs1 fun x=>Zu (x.1,x.2.1,x.2.2.1)
theorem qiZ (N:Nat):v8 Tryz.prog JV 107 (zd qc4 3) (qb6 N):=jw fun x z h=>qkJ N (x.1,x.2.1,x.2.2.1) N (x.2.2.2.1,x.2.2.2.2.1) z h
abbrev Jy:=Vector UInt32 64×Vector UInt32 8
abbrev vS:=Vector UInt32 8×Int×Bool
def Q6 (f:Jy) (y:vS):Ex×TSt:=(.exit 2,⟨1,110,[50,60],[(0,.p 50 [] 0),(7,.p 100070 [] 0),(95,xi y.2.1),(96,xb y.2.2)],[(50,.cell false (.tv (.wa 8) (y.1:Vector UInt32 8))),(60,.cell false (.tv (.wa 64) f.1)),(100070,.cell false (.tv (.wa 8) f.2))],false,[]⟩)
def qiA (N:Nat):List (Nat×qH):=[]
abbrev QW:=Vector UInt32 8×Int
def qbO:SP:=⟨1,110,[50,60],[(0,.k (.p 50 [] 0)),(7,.k (.p 100070 [] 0)),(95,.x (.i .i64))],[(50,.cell false (.x (.wa 8))),(60,.cell false (.x (.wa 64))),(100070,.cell false (.x (.wa 8)))],false,[]⟩
def qjg (f:Jy) (v:QW):TSt:=jq qbO [dv (.wa 8) v.1,dv (.wa 64) f.1,dv (.wa 8) f.2,dv (.i .i64) v.2]
def JB (N:Nat) (o_13_2:Vector UInt32 64) (o_13_3:Vector UInt32 8) (v:QW):Tree (QW⊕vS):=
 .cond (decide (v.2 < ((8:Int)))) (
 .chk (0≤v.2∧v.2 < ((8:Nat):Int)) <|
 .chk (v.2.toNat < 8) <|
 .chk (0≤v.2∧v.2 < ((8:Nat):Int)) <|
 .chk (v.2.toNat < 8) <|
 let w1:Int:=qaE .u32 (((v.1.toList.getD v.2.toNat 0).toNat:Nat):Int) (((o_13_3.toList.getD v.2.toNat 0).toNat:Nat):Int)
 .chk (0≤v.2∧v.2 < ((8:Nat):Int)) <|
 .chk (inW w1) <|
 .chk (v.2.toNat < 8) <|
 .chk (qz (v.2 + 1)) <|
 .ret (.inl (v.1.setIfInBounds v.2.toNat (UInt32.ofNat w1.toNat),v.2 + 1))) <|
 .ret (.inr (v.1,v.2,decide (v.2 < ((8:Int)))))
def qbB (N n:Nat) (f:Jy) (v:QW):Option vS:=q_ (JB N f.1 f.2) some n v
theorem qi5 (N:Nat) (f:Jy) (n:Nat) (v:QW) (y:vS) (h:qbB N n f v=some y):LG Tryz.prog JV 107 (zd qc4 13) (qjg f v) (Q6 f y):=
 zY qk (E:=qaC N) (L:=qR (qiA N)) (st:=Q6 f) (g:=some) (R:=Q6 f) (YB N) (qu (by kernel_rfl) trivial) (rg0 (by kernel_rfl)) (fun v=>by kernel_rfl) (zl (st:=Q6 f) fun y=>by rfl) (js0 rfl) n v y h
def Yf (N:Nat) (o_13_2:Vector UInt32 64) (o_13_3:Vector UInt32 8) (o_13:Vector UInt32 8) (s95_13:Int):Option vS:=qbB N N (o_13_2,o_13_3) (o_13,s95_13)
def qbo (N:Nat):qH:=smL qbO [(.wa 8),(.wa 64),(.wa 8),(.i .i64)] vS (fun x=>Yf N x.2.1 x.2.2.1 x.1 x.2.2.2.1) cs1 fun x=>Q6 (x.2.1,x.2.2.1)
theorem qhT (N:Nat):v8 Tryz.prog JV 107 (zd qc4 13) (qbo N):=jw fun x z h=>qi5 N (x.2.1,x.2.2.1) N (x.1,x.2.2.2.1) z h
def qo9 (a1:Vector UInt32 64) (z:Vector UInt32 8):TV×THp:=(.tup [],[(50,.cell false (.tv (.wa 8) z)),(60,.cell false (.tv (.wa 64) a1))])
def qax (N:Nat) (a0:Vector UInt32 8) (a1:Vector UInt32 64) (a2:List UInt8):Tree (Vector UInt32 8):=
 .bind (qbf N a2) fun r1=>
 .bind (KG N a0 a1 r1 a0 0) fun z2=>
 .bind (Yf N a1 z2.1 a0 0) fun z3=>
 .ret z3.1
def Xf (N:Nat) (a0:Vector UInt32 8) (a1:Vector UInt32 64) (a2:List UInt8):Option (Vector UInt32 8):=(qax N a0 a1 a2).run some
def qoZ (N:Nat):List (Nat×qH):=[(3,qb6 N),(13,qbo N)]
def qeO (N:Nat):Ent:=smF ⟨107,[],[.k (.p 50 [] 0),.x .bl,.k (.p 60 [] 0)],[],[(50,.cell false (.x (.wa 8))),(60,.cell false (.x (.wa 64)))]⟩ [(.wa 8),(.wa 64),.bl] (Vector UInt32 8) (fun x=>Xf N x.1 x.2.1 x.2.2.1) cs1 fun x=>qo9 x.2.1
theorem qnY (N:Nat):zc Tryz.prog (qeO N):=
 q8 (H:=JV) (L:=qR (qoZ N)) (ts:=[(.wa 8),(.wa 64),.bl]) (T:=fun x=>qax N x.1 x.2.1 x.2.2.1) 0 qD3 (YB N) (qu (by kernel_rfl) ⟨qiZ N,qhT N,trivial⟩) (rg0 (by kernel_rfl)) fun x=>by kernel_rfl
noncomputable def VS:Code:=Tryz.f78.body.getD .skip
theorem qHc:FnF Tryz.prog 78 Tryz.f78 VS:=⟨qk,by kernel_rfl,by kernel_rfl,by kernel_rfl⟩
def JH:TH:={ live:=[(0,[0,2]),(1,[0,2,3]),(2,[0,2,3,16]),(3,[0,2,3]),(4,[0,2,3,20]),(5,[0,2,3,20,21]),(6,[0,2,3,4,20]),(7,[0,2,3,20]),(8,[0,2,3,20]),(9,[2,3,5,6]),(10,[2,3,5,6,40]),(11,[2,3,5,6]),(12,[2,3,5,6]),(13,[2,5,7]),(14,[2,5,7,46]),(15,[2,5,7,46,47]),(16,[2,5,7,8,46]),(17,[2,5,7,46]),(18,[2,5,7,46]),(19,[2])],fresh:=[10] }
def qaW (N:Nat):List Ent:=[qhI,qoy,qoA,qeO N]
theorem WC (N:Nat):qT Tryz.prog (qaW N):=⟨qqi,qwo,qvY,qnY N,trivial⟩
abbrev qbd:=Vector UInt8 32×List UInt8
abbrev Xk:=List UInt8×Bool
def YF (f:qbd) (y:Xk):Ex×TSt:=(.exit 0,⟨0,63,[],[(0,.tv .bl f.2),(2,.p 20 [] 0),(3,.v 100050 y.1.length),(16,xb y.2)],[(20,.cell false (.tv (.ba 32) f.1)),(100050,.vec false 1 .bl (y.1:List UInt8))],false,[]⟩)
def qxn (N:Nat):List (Nat×qH):=[]
abbrev Yq:=List UInt8
def ql_:SP:=⟨0,63,[],[(0,.x .bl),(2,.k (.p 20 [] 0)),(3,.vs 100050)],[(20,.cell false (.x (.ba 32))),(100050,.vec false 1)],false,[]⟩
def qx5 (f:qbd) (v:Yq):TSt:=jq ql_ [dv .bl v,dv (.ba 32) f.1,dv .bl f.2]
def YD (N:Nat) (o_2_2:Vector UInt8 32) (s0_2:List UInt8) (v:Yq):Tree (Yq⊕Xk):=
 .chk ((64:Int)≠0) <|
 .cond (!decide ((((v.length:Nat):Int).tmod 64)=56)) (
 .chk (VN v.length v.length ((v++[(UInt8.ofNat 0)]).length) 1) <|
 .ret (.inl (v++[(UInt8.ofNat 0)]))) <|
 .ret (.inr (v,!decide ((((v.length:Nat):Int).tmod 64)=56)))
def qmQ (N n:Nat) (f:qbd) (v:Yq):Option Xk:=q_ (YD N f.1 f.2) some n v
theorem qx8 (N:Nat) (f:qbd) (n:Nat) (v:Yq) (y:Xk) (h:qmQ N n f v=some y):LG Tryz.prog JH 78 (zd VS 2) (qx5 f v) (YF f y):=
 zY qk (E:=qaW N) (L:=qR (qxn N)) (st:=YF f) (g:=some) (R:=YF f) (WC N) (qu (by kernel_rfl) trivial) (rg0 (by kernel_rfl)) (fun v=>by kernel_rfl) (zl (st:=YF f) fun y=>by rfl) (js0 rfl) n v y h
def qec (N:Nat) (o_2_2:Vector UInt8 32) (s0_2:List UInt8) (o_2:List UInt8):Option Xk:=qmQ N N (o_2_2,s0_2) o_2
def qmM (N:Nat):qH:=smL ql_ [.bl,(.ba 32),.bl] Xk (fun x=>qec N x.2.1 x.2.2.1 x.1) cs1 fun x=>YF (x.2.1,x.2.2.1)
theorem quE (N:Nat):v8 Tryz.prog JH 78 (zd VS 2) (qmM N):=jw fun x z h=>qx8 N (x.2.1,x.2.2.1) N x.1 z h
abbrev qbN:=Vector UInt8 32×List UInt8
abbrev Xn:=List UInt8×Int×Bool
def YG (f:qbN) (y:Xn):Ex×TSt:=(.exit 2,⟨0,63,[],[(0,.tv .bl f.2),(2,.p 20 [] 0),(3,.v 100050 y.1.length),(20,xi y.2.1),(21,xb y.2.2)],[(20,.cell false (.tv (.ba 32) f.1)),(100050,.vec false 1 .bl (y.1:List UInt8))],false,[]⟩)
def qvD (N:Nat):List (Nat×qH):=[]
abbrev YW:=List UInt8×Int
def qla:SP:=⟨0,63,[],[(0,.x .bl),(2,.k (.p 20 [] 0)),(3,.vs 100050),(20,.x (.i .i64))],[(20,.cell false (.x (.ba 32))),(100050,.vec false 1)],false,[]⟩
def qwJ (f:qbN) (v:YW):TSt:=jq qla [dv .bl v.1,dv (.ba 32) f.1,dv .bl f.2,dv (.i .i64) v.2]
def qbe (N:Nat) (o_5_2:Vector UInt8 32) (s0_5:List UInt8) (v:YW):Tree (YW⊕Xn):=
 .cond (decide (v.2 < ((8:Int)))) (
 let w1:Int:=IntKind.u64.wrap ((s0_5.length:Nat):Int)
 .chk (qz (((7:Int)) - v.2)) <|
 .chk (qz (((8:Int)) * (((7:Int)) - v.2))) <|
 .chk (0≤(((8:Int)) * (((7:Int)) - v.2))) <|
 let w2:Int:=ZT (qKk .u64 w1 8) (min (((8:Int)) * (((7:Int)) - v.2)).toNat 64)
 .chk (inB (IntKind.u8.wrap w2)) <|
 .chk (VN v.1.length v.1.length ((v.1++[UInt8.ofNat (IntKind.u8.wrap w2).toNat]).length) 1) <|
 .chk (qz (v.2 + 1)) <|
 .ret (.inl (v.1++[UInt8.ofNat (IntKind.u8.wrap w2).toNat],v.2 + 1))) <|
 .ret (.inr (v.1,v.2,decide (v.2 < ((8:Int)))))
def ql7 (N n:Nat) (f:qbN) (v:YW):Option Xn:=q_ (qbe N f.1 f.2) some n v
theorem qvS (N:Nat) (f:qbN) (n:Nat) (v:YW) (y:Xn) (h:ql7 N n f v=some y):LG Tryz.prog JH 78 (zd VS 5) (qwJ f v) (YG f y):=
 zY qk (E:=qaW N) (L:=qR (qvD N)) (st:=YG f) (g:=some) (R:=YG f) (WC N) (qu (by kernel_rfl) trivial) (rg0 (by kernel_rfl)) (fun v=>by kernel_rfl) (zl (st:=YG f) fun y=>by rfl) (js0 rfl) n v y h
def qiS (N:Nat) (o_5_2:Vector UInt8 32) (s0_5:List UInt8) (o_5:List UInt8) (s20_5:Int):Option Xn:=ql7 N N (o_5_2,s0_5) (o_5,s20_5)
def qlC (N:Nat):qH:=smL qla [.bl,(.ba 32),.bl,(.i .i64)] Xn (fun x=>qiS N x.2.1 x.2.2.1 x.1 x.2.2.2.1) cs1 fun x=>YG (x.2.1,x.2.2.1)
theorem quK (N:Nat):v8 Tryz.prog JH 78 (zd VS 5) (qlC N):=jw fun x z h=>qvS N (x.2.1,x.2.2.1) N (x.1,x.2.2.2.1) z h
abbrev Qr:=List UInt8×Vector UInt8 32×Vector UInt32 8×Vector UInt32 64
abbrev vO:=Unit⊕(Vector UInt32 8×List UInt8×Bool)
def Qt (f:Qr):vO→Ex×TSt
 | .inl y=>(.exit 4,⟨0,63,[],[(2,.p 20 [] 0),(3,.v 100050 f.1.length),(5,.p 50 [] 0),(6,.p 60 [] 0),(40,xb (decide (((0:Int)) < ((f.1.length:Nat):Int))))],[(20,.cell false (.tv (.ba 32) f.2.1)),(50,.cell false (.tv (.wa 8) f.2.2.1)),(60,.cell false (.tv (.wa 64) f.2.2.2)),(100050,.vec false 1 .bl f.1)],false,[]⟩)
 | .inr y=>(.exit 4,⟨0,63,[],[(2,.p 20 [] 0),(3,.tv .bl (y.2.1:List UInt8)),(5,.p 50 [] 0),(6,.p 60 [] 0),(40,xb y.2.2)],[(20,.cell false (.tv (.ba 32) f.2.1)),(50,.cell false (.tv (.wa 8) (y.1:Vector UInt32 8))),(60,.cell false (.tv (.wa 64) f.2.2.2))],false,[]⟩)
def qka (N:Nat):List (Nat×qH):=[]
abbrev ZA:=Vector UInt32 8×List UInt8
def qpr:SP:=⟨0,63,[],[(2,.k (.p 20 [] 0)),(3,.x .bl),(5,.k (.p 50 [] 0)),(6,.k (.p 60 [] 0))],[(20,.cell false (.x (.ba 32))),(50,.cell false (.x (.wa 8))),(60,.cell false (.x (.wa 64)))],false,[]⟩
def qfb (f:Qr) (v:ZA):TSt:=jq qpr [dv (.ba 32) f.2.1,dv (.wa 8) v.1,dv (.wa 64) f.2.2.2,dv .bl v.2]
def XU (N:Nat) (o_10:List UInt8) (o_10_2:Vector UInt8 32) (o_10_3:Vector UInt32 8) (o_10_4:Vector UInt32 64) (v:ZA):Tree (ZA⊕vO):=
 .cond (decide (((0:Int)) < ((v.2.length:Nat):Int))) (
 .chk (0≤(0:Int)∧(0:Int)≤(64:Int)∧(64:Int)≤((v.2.length:Nat):Int)) <|
 .bind (Xf N v.1 o_10_4 ((v.2.take 64).drop 0)) fun r1=>
 .chk (0≤(64:Int)∧(64:Int)≤((v.2.length:Nat):Int)) <|
 .ret (.inl (r1,v.2.drop 64))) <|
 .ret (.inr (.inr ((v.1,v.2,decide (((0:Int)) < ((v.2.length:Nat):Int))))))
def qe7 (N n:Nat) (f:Qr) (v:ZA):Option vO:=q_ (XU N f.1 f.2.1 f.2.2.1 f.2.2.2) some n v
theorem qpy (N:Nat) (f:Qr) (n:Nat) (v:ZA) (y:vO) (h:qe7 N n f v=some y):LG Tryz.prog JH 78 (zd VS 10) (qfb f v) (Qt f y):=
 zY qk (E:=qaW N) (L:=qR (qka N)) (st:=Qt f) (g:=some) (R:=Qt f) (WC N) (qu (by kernel_rfl) trivial) (rg0 (by kernel_rfl)) (fun v=>by kernel_rfl) (zl (st:=Qt f) fun y=>by rcases y with _ | _<;>rfl) (js0 rfl) n v y h
abbrev Wv:=Unit
def qkh:SP:=⟨0,63,[],[(2,.k (.p 20 [] 0)),(3,.vs 100050),(5,.k (.p 50 [] 0)),(6,.k (.p 60 [] 0))],[(20,.cell false (.x (.ba 32))),(50,.cell false (.x (.wa 8))),(60,.cell false (.x (.wa 64))),(100050,.vec false 1)],false,[]⟩
def quz (f:Qr) (v:Wv):TSt:=jq qkh [dv .bl f.1,dv (.ba 32) f.2.1,dv (.wa 8) f.2.2.1,dv (.wa 64) f.2.2.2]
abbrev qdL:=ZA⊕vO
def qap (N:Nat) (o_10:List UInt8) (o_10_2:Vector UInt8 32) (o_10_3:Vector UInt32 8) (o_10_4:Vector UInt32 64) (v:Wv):Tree (Wv⊕qdL):=
 .cond (decide (((0:Int)) < ((o_10.length:Nat):Int))) (
 .chk (0≤(0:Int)∧(0:Int)≤(64:Int)∧(64:Int)≤((o_10.length:Nat):Int)) <|
 .chk (o_10.length=o_10.length) <|
 .bind (Xf N o_10_3 o_10_4 ((o_10.take 64).drop 0)) fun r1=>
 .chk (0≤(64:Int)∧(64:Int)≤((o_10.length:Nat):Int)) <|
 .chk (o_10.length=o_10.length) <|
 .ret (.inr (.inl (r1,o_10.drop 64)))) <|
 .ret (.inr (.inr ((.inl ()))))
def qdw (N n:Nat) (f:Qr):qdL→Option vO
 | .inl w=>qe7 N n f w
 | .inr w=>some w
def que (f:Qr):qdL→Ex×TSt
 | .inl w=>(.normal,qfb f w)
 | .inr w=>Qt f w
def qkk (N n:Nat) (f:Qr) (v:Wv):Option vO:=q_ (qap N f.1 f.2.1 f.2.2.1 f.2.2.2) (qdw N n f) n v
theorem quj (N:Nat) (f:Qr) (n:Nat) (v:Wv) (y:vO) (h:qkk N n f v=some y):LG Tryz.prog JH 78 (zd VS 10) (quz f v) (Qt f y):=
 zY qk (E:=qaW N) (L:=qR (qka N)) (st:=que f) (g:=(qdw N n f)) (R:=Qt f) (WC N) (qu (by kernel_rfl) trivial) (rg0 (by kernel_rfl)) (fun v=>by kernel_rfl) (fun w y h=>by
 rcases w with w | w
 ·exact qpy N f n w y h
 ·exact zl (st:=Qt f) (fun y=>by rcases y with _ | _<;>rfl) w y h
) (js0 rfl) n v y h
def KT (N:Nat) (o_10:List UInt8) (o_10_2:Vector UInt8 32) (o_10_3:Vector UInt32 8) (o_10_4:Vector UInt32 64):Option vO:=qkk N N (o_10,o_10_2,o_10_3,o_10_4) ()
def qkm (N:Nat):qH:=smL qkh [.bl,(.ba 32),(.wa 8),(.wa 64)] vO (fun x=>KT N x.1 x.2.1 x.2.2.1 x.2.2.2.1) (csS cs1) fun x=>Qt (x.1,x.2.1,x.2.2.1,x.2.2.2.1)
theorem qsc (N:Nat):v8 Tryz.prog JH 78 (zd VS 10) (qkm N):=jw fun x z h=>quj N (x.1,x.2.1,x.2.2.1,x.2.2.2.1) N () z h
abbrev qao:=Vector UInt8 32×Vector UInt32 8
abbrev Vf:=Vector UInt8 32×Int×Bool
def Wx (f:qao) (y:Vf):Ex×TSt:=(.exit 6,⟨0,63,[],[(2,.p 20 [] 0),(5,.p 50 [] 0),(7,.p 70 [] 0),(46,xi y.2.1),(47,xb y.2.2)],[(20,.cell false (.tv (.ba 32) f.1)),(50,.cell false (.tv (.wa 8) f.2)),(70,.cell false (.tv (.ba 32) (y.1:Vector UInt8 32)))],false,[]⟩)
def qux (N:Nat):List (Nat×qH):=[]
abbrev Wr:=Vector UInt8 32×Int
def qj5:SP:=⟨0,63,[],[(2,.k (.p 20 [] 0)),(5,.k (.p 50 [] 0)),(7,.k (.p 70 [] 0)),(46,.x (.i .i64))],[(20,.cell false (.x (.ba 32))),(50,.cell false (.x (.wa 8))),(70,.cell false (.x (.ba 32)))],false,[]⟩
def qug (f:qao) (v:Wr):TSt:=jq qj5 [dv (.ba 32) f.1,dv (.wa 8) f.2,dv (.ba 32) v.1,dv (.i .i64) v.2]
def qaf (N:Nat) (o_15:Vector UInt8 32) (o_15_2:Vector UInt32 8) (v:Wr):Tree (Wr⊕Vf):=
 .cond (decide (v.2 < ((32:Int)))) (
 .chk ((4:Int)≠0) <|
 .chk (qz (v.2.tdiv 4)) <|
 .chk (0≤(v.2.tdiv 4)∧(v.2.tdiv 4) < ((8:Nat):Int)) <|
 .chk ((v.2.tdiv 4).toNat < 8) <|
 .chk ((4:Int)≠0) <|
 .chk (qz (((8:Int)) * (v.2.tmod 4))) <|
 .chk (qz (((24:Int)) - (((8:Int)) * (v.2.tmod 4)))) <|
 .chk (0≤(((24:Int)) - (((8:Int)) * (v.2.tmod 4)))) <|
 let w1:Int:=ZT (((o_15_2.toList.getD ((v.2.tdiv 4).toNat) 0).toNat:Nat):Int) (min (((24:Int)) - (((8:Int)) * (v.2.tmod 4))).toNat 32)
 .chk (0≤v.2∧v.2 < ((32:Nat):Int)) <|
 .chk (inB (IntKind.u8.wrap w1)) <|
 .chk (v.2.toNat < 32) <|
 .chk (qz (v.2 + 1)) <|
 .ret (.inl (v.1.setIfInBounds v.2.toNat (UInt8.ofNat (IntKind.u8.wrap w1).toNat),v.2 + 1))) <|
 .ret (.inr (v.1,v.2,decide (v.2 < ((32:Int)))))
def qkd (N n:Nat) (f:qao) (v:Wr):Option Vf:=q_ (qaf N f.1 f.2) some n v
theorem quX (N:Nat) (f:qao) (n:Nat) (v:Wr) (y:Vf) (h:qkd N n f v=some y):LG Tryz.prog JH 78 (zd VS 15) (qug f v) (Wx f y):=
 zY qk (E:=qaW N) (L:=qR (qux N)) (st:=Wx f) (g:=some) (R:=Wx f) (WC N) (qu (by kernel_rfl) trivial) (rg0 (by kernel_rfl)) (fun v=>by kernel_rfl) (zl (st:=Wx f) fun y=>by rfl) (js0 rfl) n v y h
def qcM (N:Nat) (o_15:Vector UInt8 32) (o_15_2:Vector UInt32 8) (o_15_3:Vector UInt8 32) (s46_15:Int):Option Vf:=qkd N N (o_15,o_15_2) (o_15_3,s46_15)
def qkc (N:Nat):qH:=smL qj5 [(.ba 32),(.wa 8),(.ba 32),(.i .i64)] Vf (fun x=>qcM N x.1 x.2.1 x.2.2.1 x.2.2.2.1) cs1 fun x=>Wx (x.1,x.2.1)
theorem qsG (N:Nat):v8 Tryz.prog JH 78 (zd VS 15) (qkc N):=jw fun x z h=>quX N (x.1,x.2.1) N (x.2.2.1,x.2.2.2.1) z h
def qmr (z:Vector UInt8 32):TV×THp:=(.tv (.ba 32) z,[])
def qmd (N:Nat) (a0:List UInt8):Tree (Vector UInt8 32):=
 .bind (Xe a0) fun r1=>
 .chk (VN (((([]:List UInt8))++a0).length) (((([]:List UInt8))++a0).length) ((((([]:List UInt8))++a0)++[(UInt8.ofNat 128)]).length) 1) <|
 .bind (vg [((((([]:List UInt8))++a0)++[(UInt8.ofNat 128)]).length,(((([]:List UInt8))++a0)++[(UInt8.ofNat 128)]).length)] (qec N ((Vector.replicate 32 0)) a0 (((([]:List UInt8))++a0)++[(UInt8.ofNat 128)]))) fun z2=>
 .bind (vg [(z2.1.length,z2.1.length)] (qiS N ((Vector.replicate 32 0)) a0 z2.1 0)) fun z3=>
 .bind (ql1) fun r4=>
 .bind (qlu) fun r5=>
 .bind (vg [(z3.1.length,z3.1.length)] (KT N z3.1 ((Vector.replicate 32 0)) ((((((((((Vector.replicate 8 0)).setIfInBounds 0 ((UInt32.ofNat 1779033703))).setIfInBounds 1 ((UInt32.ofNat 3144134277))).setIfInBounds 2 ((UInt32.ofNat 1013904242))).setIfInBounds 3 ((UInt32.ofNat 2773480762))).setIfInBounds 4 ((UInt32.ofNat 1359893119))).setIfInBounds 5 ((UInt32.ofNat 2600822924))).setIfInBounds 6 ((UInt32.ofNat 528734635))).setIfInBounds 7 ((UInt32.ofNat 1541459225))) ((((((((((((((((((((((((((((((((((((((((((((((((((((((((((((((((((Vector.replicate 64 0)).setIfInBounds 0 ((UInt32.ofNat 1116352408))).setIfInBounds 1 ((UInt32.ofNat 1899447441))).setIfInBounds 2 ((UInt32.ofNat 3049323471))).setIfInBounds 3 ((UInt32.ofNat 3921009573))).setIfInBounds 4 ((UInt32.ofNat 961987163))).setIfInBounds 5 ((UInt32.ofNat 1508970993))).setIfInBounds 6 ((UInt32.ofNat 2453635748))).setIfInBounds 7 ((UInt32.ofNat 2870763221))).setIfInBounds 8 ((UInt32.ofNat 3624381080))).setIfInBounds 9 ((UInt32.ofNat 310598401))).setIfInBounds 10 ((UInt32.ofNat 607225278))).setIfInBounds 11 ((UInt32.ofNat 1426881987))).setIfInBounds 12 ((UInt32.ofNat 1925078388))).setIfInBounds 13 ((UInt32.ofNat 2162078206))).setIfInBounds 14 ((UInt32.ofNat 2614888103))).setIfInBounds 15 ((UInt32.ofNat 3248222580))).setIfInBounds 16 ((UInt32.ofNat 3835390401))).setIfInBounds 17 ((UInt32.ofNat 4022224774))).setIfInBounds 18 ((UInt32.ofNat 264347078))).setIfInBounds 19 ((UInt32.ofNat 604807628))).setIfInBounds 20 ((UInt32.ofNat 770255983))).setIfInBounds 21 ((UInt32.ofNat 1249150122))).setIfInBounds 22 ((UInt32.ofNat 1555081692))).setIfInBounds 23 ((UInt32.ofNat 1996064986))).setIfInBounds 24 ((UInt32.ofNat 2554220882))).setIfInBounds 25 ((UInt32.ofNat 2821834349))).setIfInBounds 26 ((UInt32.ofNat 2952996808))).setIfInBounds 27 ((UInt32.ofNat 3210313671))).setIfInBounds 28 ((UInt32.ofNat 3336571891))).setIfInBounds 29 ((UInt32.ofNat 3584528711))).setIfInBounds 30 ((UInt32.ofNat 113926993))).setIfInBounds 31 ((UInt32.ofNat 338241895))).setIfInBounds 32 ((UInt32.ofNat 666307205))).setIfInBounds 33 ((UInt32.ofNat 773529912))).setIfInBounds 34 ((UInt32.ofNat 1294757372))).setIfInBounds 35 ((UInt32.ofNat 1396182291))).setIfInBounds 36 ((UInt32.ofNat 1695183700))).setIfInBounds 37 ((UInt32.ofNat 1986661051))).setIfInBounds 38 ((UInt32.ofNat 2177026350))).setIfInBounds 39 ((UInt32.ofNat 2456956037))).setIfInBounds 40 ((UInt32.ofNat 2730485921))).setIfInBounds 41 ((UInt32.ofNat 2820302411))).setIfInBounds 42 ((UInt32.ofNat 3259730800))).setIfInBounds 43 ((UInt32.ofNat 3345764771))).setIfInBounds 44 ((UInt32.ofNat 3516065817))).setIfInBounds 45 ((UInt32.ofNat 3600352804))).setIfInBounds 46 ((UInt32.ofNat 4094571909))).setIfInBounds 47 ((UInt32.ofNat 275423344))).setIfInBounds 48 ((UInt32.ofNat 430227734))).setIfInBounds 49 ((UInt32.ofNat 506948616))).setIfInBounds 50 ((UInt32.ofNat 659060556))).setIfInBounds 51 ((UInt32.ofNat 883997877))).setIfInBounds 52 ((UInt32.ofNat 958139571))).setIfInBounds 53 ((UInt32.ofNat 1322822218))).setIfInBounds 54 ((UInt32.ofNat 1537002063))).setIfInBounds 55 ((UInt32.ofNat 1747873779))).setIfInBounds 56 ((UInt32.ofNat 1955562222))).setIfInBounds 57 ((UInt32.ofNat 2024104815))).setIfInBounds 58 ((UInt32.ofNat 2227730452))).setIfInBounds 59 ((UInt32.ofNat 2361852424))).setIfInBounds 60 ((UInt32.ofNat 2428436474))).setIfInBounds 61 ((UInt32.ofNat 2756734187))).setIfInBounds 62 ((UInt32.ofNat 3204031479))).setIfInBounds 63 ((UInt32.ofNat 3329325298))))) fun z6=>
 .sum z6 (fun z7=>
 .bind (qcM N ((Vector.replicate 32 0)) ((((((((((Vector.replicate 8 0)).setIfInBounds 0 ((UInt32.ofNat 1779033703))).setIfInBounds 1 ((UInt32.ofNat 3144134277))).setIfInBounds 2 ((UInt32.ofNat 1013904242))).setIfInBounds 3 ((UInt32.ofNat 2773480762))).setIfInBounds 4 ((UInt32.ofNat 1359893119))).setIfInBounds 5 ((UInt32.ofNat 2600822924))).setIfInBounds 6 ((UInt32.ofNat 528734635))).setIfInBounds 7 ((UInt32.ofNat 1541459225))) ((Vector.replicate 32 0)) 0) fun z8=>
 .ret z8.1) fun z7=>
 .bind (qcM N ((Vector.replicate 32 0)) z7.1 ((Vector.replicate 32 0)) 0) fun z8=>
 .ret z8.1
def qex (N:Nat) (a0:List UInt8):Option (Vector UInt8 32):=(qmd N a0).run some
def qFL (N:Nat):List (Nat×qH):=[(2,qmM N),(5,qlC N),(10,qkm N),(15,qkc N)]
def qtW (N:Nat):Ent:=smF ⟨78,[],[.x .bl],[],[]⟩ [.bl] (Vector UInt8 32) (fun x=>qex N x.1) cs1 fun _=>qmr
theorem qzD (N:Nat):qcJ Tryz.prog ⟨78,[],[.x .bl],[],[]⟩ [.bl] (fun x=>qmd N x.1) (fun _=>qmr):=
 K9 (H:=JH) (L:=qR (qFL N)) 0 qHc (WC N) (qu (by kernel_rfl) ⟨quE N,quK N,qsc N,qsG N,trivial⟩) (rg0 (by kernel_rfl)) fun x=>by kernel_rfl
theorem qrz (N:Nat):zc Tryz.prog (qtW N):=qdg (qzD N)
noncomputable def qEu:Code:=Tryz.f117.body.getD .skip
theorem qDy:FnF Tryz.prog 117 Tryz.f117 qEu:=⟨qk,by kernel_rfl,by kernel_rfl,by kernel_rfl⟩
def qBc:TH:={ live:=[(0,[0,1,2]),(1,[6])],dec:=[10] }
def qCr (N:Nat):List Ent:=[]
theorem qwW (N:Nat):qT Tryz.prog (qCr N):=trivial
def qBi (z:Bool):TV×THp:=(xb z,[])
def qja (a0:Int) (a1:Int) (a2:Int):Tree (Bool):=
 .cond (decide (a1≤a0)) (
 .ret (decide (a0≤a2))) <|
 .ret false
def qck (a0:Int) (a1:Int) (a2:Int):Option (Bool):=(qja a0 a1 a2).run some
def qB9:List (Nat×qH):=[]
def qqS:Ent:=smF ⟨117,[],[.x (.i .i64),.x (.i .i64),.x (.i .i64)],[],[]⟩ [(.i .i64),(.i .i64),(.i .i64)] (Bool) (fun x=>qck x.1 x.2.1 x.2.2.1) cs1 fun _=>qBi
theorem qyK:zc Tryz.prog (qqS):=
 q8 (H:=qBc) (L:=qR (qB9)) (ts:=[(.i .i64),(.i .i64),(.i .i64)]) (T:=fun x=>qja x.1 x.2.1 x.2.2.1) 0 qDy (qwW 0) (qu (by kernel_rfl) trivial) (rg0 (by kernel_rfl)) fun x=>by kernel_rfl
noncomputable def qIe:Code:=Tryz.f90.body.getD .skip
theorem qFS:FnF Tryz.prog 90 Tryz.f90 qIe:=⟨qk,by kernel_rfl,by kernel_rfl,by kernel_rfl⟩
def qy1:TH:={ live:=[(0,[1]),(1,[1,4]),(2,[2]),(3,[2])],dec:=[8,13,23] }
def qzw (N:Nat):List Ent:=[qqS]
theorem qu1 (N:Nat):qT Tryz.prog (qzw N):=⟨qyK,trivial⟩
def qzt (z:Bool):TV×THp:=(xb z,[])
def qhr (a0:qg):Tree (Bool):=
 .cond (qg.qbG a0) (
 .bind (qck (qg.jA a0) 0 200) fun r1=>
 .cond r1 (
 .bind (qck (qg.Len a0) 1 200) fun r2=>
 .cond r2 (
 .ret (decide ((qg.Lit a0)=[]))) <|
 .ret false) <|
 .ret false) <|
 .cond (eqE qG a0 (qg.mk false 0 0 (qg.Lit a0))) (
 .bind (qck (((qg.Lit a0).length:Nat):Int) 1 200) fun r1=>
 .ret r1) <|
 .ret false
def qf6 (a0:qg):Option (Bool):=(qhr a0).run some
def qyE:List (Nat×qH):=[]
def qor:Ent:=smF ⟨90,[],[.x qG],[],[]⟩ [qG] (Bool) (fun x=>qf6 x.1) cs1 fun _=>qzt
theorem qxz:zc Tryz.prog (qor):=
 q8 (H:=qy1) (L:=qR (qyE)) (ts:=[qG]) (T:=fun x=>qhr x.1) 0 qFS (qu1 0) (qu (by kernel_rfl) trivial) (rg0 (by kernel_rfl)) fun x=>by kernel_rfl
noncomputable def qpP:Code:=Tryz.f62.body.getD .skip
theorem qHw:FnF Tryz.prog 62 Tryz.f62 qpP:=⟨qk,by kernel_rfl,by kernel_rfl,by kernel_rfl⟩
def qhl:TH:={ live:=[(0,[0]),(1,[0,3]),(2,[0,3,6,7,8]),(3,[0,3,6,7,8,9]),(4,[0,3,5,6,7,8]),(5,[0,3,5,6,7,8,14]),(6,[2]),(7,[0,3,6,7,8]),(8,[0,3,6,7,8]),(9,[2])],dec:=[27] }
def qoj (N:Nat):List Ent:=[qor]
theorem qj3 (N:Nat):qT Tryz.prog (qoj N):=⟨qxz,trivial⟩
abbrev Kl:=List qg×List qg×Int
abbrev JS:=Unit⊕(Int×Int×Bool)
def Xh (f:Kl):JS→Ex×TSt
 | .inl y=>(.ret,⟨0,31,[],[(2,.bc false)],[],false,[]⟩)
 | .inr y=>(.exit 0,⟨0,31,[],[(0,.tv (.sl 4 qG) f.1),(3,xi y.1),(6,.tv (.sl 4 qG) f.2.1),(7,xi f.2.2),(8,xi y.2.1),(9,xb y.2.2)],[],false,[]⟩)
def qs9 (N:Nat):List (Nat×qH):=[]
abbrev Xq:=Int×Int
def qhR:SP:=⟨0,31,[],[(0,.x (.sl 4 qG)),(3,.x (.i .i64)),(6,.x (.sl 4 qG)),(7,.x (.i .i64)),(8,.x (.i .i64))],[],false,[]⟩
def qr7 (f:Kl) (v:Xq):TSt:=jq qhR [dv (.sl 4 qG) f.1,dv (.i .i64) v.1,dv (.sl 4 qG) f.2.1,dv (.i .i64) f.2.2,dv (.i .i64) v.2]
def Kh (N:Nat) (s0_3:List qg) (s6_3:List qg) (s7_3:Int) (v:Xq):Tree (Xq⊕JS):=
 .cond (decide (v.2 < s7_3)) (
 .bind (zn s6_3 v.2) fun e1=>
 .bind (qf6 e1) fun r2=>
 .cond (!r2) (
 .ret (.inr (.inl ()))) <|
 .chk (qz ((qg.Len e1) + (((qg.Lit e1).length:Nat):Int))) <|
 .chk (qz (v.1 + ((qg.Len e1) + (((qg.Lit e1).length:Nat):Int)))) <|
 .chk (qz (v.2 + 1)) <|
 .ret (.inl (v.1 + ((qg.Len e1) + (((qg.Lit e1).length:Nat):Int)),v.2 + 1))) <|
 .ret (.inr (.inr ((v.1,v.2,decide (v.2 < s7_3)))))
def qid (N n:Nat) (f:Kl) (v:Xq):Option JS:=q_ (Kh N f.1 f.2.1 f.2.2) some n v
theorem qsq (N:Nat) (f:Kl) (n:Nat) (v:Xq) (y:JS) (h:qid N n f v=some y):LG Tryz.prog qhl 62 (zd qpP 3) (qr7 f v) (Xh f y):=
 zY qk (E:=qoj N) (L:=qR (qs9 N)) (st:=Xh f) (g:=some) (R:=Xh f) (qj3 N) (qu (by kernel_rfl) trivial) (rg0 (by kernel_rfl)) (fun v=>by kernel_rfl) (zl (st:=Xh f) fun y=>by rcases y with _ | _<;>rfl) (js0 rfl) n v y h
def qfj (N:Nat) (s0_3:List qg) (s6_3:List qg) (s7_3:Int) (s3_3:Int) (s8_3:Int):Option JS:=qid N N (s0_3,s6_3,s7_3) (s3_3,s8_3)
def qhV (N:Nat):qH:=smL qhR [(.sl 4 qG),(.i .i64),(.sl 4 qG),(.i .i64),(.i .i64)] JS (fun x=>qfj N x.1 x.2.2.1 x.2.2.2.1 x.2.1 x.2.2.2.2.1) (csS cs1) fun x=>Xh (x.1,x.2.2.1,x.2.2.2.1)
theorem qpX (N:Nat):v8 Tryz.prog qhl 62 (zd qpP 3) (qhV N):=jw fun x z h=>qsq N (x.1,x.2.2.1,x.2.2.2.1) N (x.2.1,x.2.2.2.2.1) z h
def qn0 (z:Bool):TV×THp:=(xb z,[])
def qgH (N:Nat) (a0:List qg):Tree (Bool):=
 .bind (qfj N a0 a0 ((a0.length:Nat):Int) 0 0) fun z1=>
 .sum z1 (fun z2=>
 .ret false) fun z2=>
 .cond (decide (((a0.length:Nat):Int)≤((60:Int)))) (
 .ret (decide (z2.1≤200))) <|
 .ret false
def JJ (N:Nat) (a0:List qg):Option (Bool):=(qgH N a0).run some
def qzJ (N:Nat):List (Nat×qH):=[(3,qhV N)]
def qoq (N:Nat):Ent:=smF ⟨62,[],[.x (.sl 4 qG)],[],[]⟩ [(.sl 4 qG)] (Bool) (fun x=>JJ N x.1) cs1 fun _=>qn0
theorem qki (N:Nat):qcJ Tryz.prog ⟨62,[],[.x (.sl 4 qG)],[],[]⟩ [(.sl 4 qG)] (fun x=>qgH N x.1) (fun _=>qn0):=
 K9 (H:=qhl) (L:=qR (qzJ N)) 0 qHw (qj3 N) (qu (by kernel_rfl) ⟨qpX N,trivial⟩) (rg0 (by kernel_rfl)) fun x=>by kernel_rfl
theorem qvO (N:Nat):zc Tryz.prog (qoq N):=qdg (qki N)
end Go.Rx
end
set_option maxRecDepth 100000
noncomputable section
namespace Go.Rx
open Go.Proofs
def dg0:Vector UInt8 32:=#v[227,176,196,66,152,252,28,20,154,251,244,200,153,111,185,36,39,174,65,228,100,155,147,76,164,149,153,27,120,82,184,85]
theorem qKM:qex 300 []=some dg0:=by kernel_rfl
def qJ5:List (List UInt8×Vector UInt8 32):=[([],dg0)]
theorem qJs:qBr (qex 300) qJ5:=⟨qKM,trivial⟩
def qxZ:Ent:=smF ⟨78,[],[.x .bl],[],[]⟩ [.bl] (Vector UInt8 32) (fun x=>qwy qJ5 x.1) cs1 fun _=>qmr
theorem qIE:zc Tryz.prog qxZ:=qKs (qrz 300) fun x z h=>qAD qJs x.1 z h
end Go.Rx
end
set_option maxRecDepth 100000
noncomputable section
namespace Go.Rx
open Go.Proofs
def qJN:List (Nat×TH):=[(11,{ live:=[(1,[1]),(2,[1,2,3]),(3,[1,2,3,4,5,6]),(4,[1,2,3,4,5,6,7,8]),(5,[1,2,3,4,5,6,7,8,9]),(6,[1,2,3,4,5,6,7,8,9,10,11]),(7,[0])],dec:=[44,49,52,56,61,65,71,75,81,85],rd:=[(1,[1]),(3,[4]),(4,[7]),(5,[9]),(6,[10])] }),
 (13,{ live:=[(0,[1]),(1,[1,12]),(2,[2,3]),(3,[1,4]),(4,[1,6]),(5,[1,6,7]),(6,[1,6,7,32]),(7,[1,6,7,32,33]),(8,[6]),(9,[1,6,7,32,43]),(10,[6]),(11,[1,6,7,58]),(12,[1,6,7,8]),(13,[6]),(14,[2,3])],rd:=[(0,[1])] }),
 (15,{ live:=[(0,[0,2]),(1,[0,2,5]),(2,[0,2,5,6]),(3,[0,2,5,6,7,8,9]),(4,[0,2,5,6,7]),(5,[0,2,5,6]),(6,[0,2,5,6,41]),(7,[0,2,5,6]),(8,[0,2,5,6,46]),(9,[0,2,5,6,46,47]),(10,[0,2,5,6,10,11,12]),(11,[0,2,5,6,10]),(12,[0,2,5,6]),(13,[0,2,5,6,46,64]),(14,[0,2,5,6]),(15,[0,2,5,6,75]),(16,[0,2,5,6,13,14,15]),(17,[0,2,5,6,13]),(18,[0,2,5,6]),(19,[0,2,5,6,103]),(20,[2,3,4]),(21,[2,3,4])],dec:=[99],rd:=[(3,[7])] }),
 (19,{ live:=[(0,[1]),(1,[1,23]),(2,[2]),(3,[2])],dec:=[6,11,18,27,32,37,43] }),
 (20,{ live:=[(0,[2,3]),(1,[2,3,5]),(2,[4])],dec:=[11,18,25,33,40,47,54,61] }),
 (21,{ live:=[(0,[1]),(1,[3]),(2,[2])] }),
 (24,{ live:=[(0,[2,3,4]),(1,[2,3,4,17]),(2,[4,5]),(3,[2,3,4,6]),(4,[2,3,4,7]),(5,[2,3,4,7,25]),(6,[4,5]),(7,[2,3,4,8,9]),(8,[2,3,4,8,9,44]),(9,[4,5]),(10,[4,5])],dec:=[13,21],rd:=[(3,[6])] }),
 (27,{ live:=[(0,[2,3,4]),(1,[2,4,6]),(2,[2,4,6,12]),(3,[4,5]),(4,[4,5])] }),
 (28,{ live:=[(0,[2,3,4]),(1,[2,4,6]),(2,[2,4,6,12]),(3,[4,5]),(4,[4,5])] }),
 (29,{ live:=[(0,[0,2]),(1,[2])] }),
 (30,{ live:=[(0,[1]),(1,[1,6,7,8]),(2,[1,6,7,8,9]),(3,[1,3,4,6,7,8]),(4,[1,6,7,8,32]),(5,[2]),(6,[1,6,7,8]),(7,[2])],dec:=[16,19],rd:=[(3,[4])] }),
 (33,{ live:=[(0,[1]),(1,[1,6]),(2,[2,3]),(3,[2,3])],fresh:=[15],esc:=true }),
 (34,{ live:=[(0,[0]),(1,[0,3]),(2,[0,3,9,10,11]),(3,[0,3,9,10,11,12]),(4,[0,3,5,9,10,11]),(5,[0,3,9,10,11]),(6,[0,3,9,10,11,20]),(7,[0,3,9,10,11]),(8,[0,3,9,10,11]),(9,[0,6]),(10,[6,25,26,27]),(11,[6,25,26,27,28]),(12,[6,8,25,26,27]),(13,[6,25,26,27]),(14,[6,25,26,27]),(15,[2])],raw:=[85],fresh:=[24] }),
 (35,{ live:=[(0,[0]),(1,[2])],fresh:=[6],esc:=true }),
 (36,{ live:=[(0,[0]),(1,[0,9]),(2,[2,3]),(3,[0,4]),(4,[4,14,15,16]),(5,[4,14,15,16,17]),(6,[4,6,14,15,16]),(7,[4,6,14,15,16,21]),(8,[4,14,15,16]),(9,[4,14,15,16]),(10,[4,14,15,16]),(11,[2,3])],rd:=[(6,[6])] }),
 (42,{ live:=[(0,[0]),(1,[2])] }),
 (43,{ live:=[(0,[0,2]),(1,[2])] }),
 (44,{ live:=[(0,[0,2]),(1,[2,5,6,7]),(2,[2,6,7,8]),(3,[2,6,8,28]),(4,[2,3,4]),(5,[2,3,4])],dec:=[24],rd:=[(2,[8])] }),
 (45,{ live:=[(0,[0,1,2]),(1,[0,1]),(2,[0,1,31]),(3,[6]),(4,[0,1,7]),(5,[7]),(6,[6])],dec:=[13,17] }),
 (46,{ live:=[(0,[0,1]),(1,[0,1,7,8,9]),(2,[1,7,8,9,10]),(3,[7,8,10,33]),(4,[4,5,6]),(5,[4,5,6])],dec:=[21,25] }),
 (47,{ live:=[(0,[0,2]),(1,[2])] }),
 (48,{ live:=[(0,[0]),(1,[0,5,6,7]),(2,[0,5,6,23]),(3,[2,3,4]),(4,[0,5,6,8]),(5,[0,6,8,24,25]),(6,[0,6,8,24,25,26]),(7,[0,6,8,9,10,11,24,25]),(8,[0,6,8,9,10,24,25,36]),(9,[2,3,4]),(10,[0,6,8,10,24,25]),(11,[0,6,8,24,25]),(12,[0,6,8,24,25]),(13,[6,8,47]),(14,[2,3,4]),(15,[2,3,4])],dec:=[20],rd:=[(7,[9])] }),
 (59,{ live:=[(0,[1,2]),(1,[1,2,3]),(2,[1,2,3,12]),(3,[1,2,3,12,13]),(4,[2,3]),(5,[1,2,3,12,21]),(6,[2,3]),(7,[1,2,3,35]),(8,[2,3]),(9,[2])] }),
 (60,{ live:=[(0,[1]),(1,[2])],dec:=[6,10,15,20] }),
 (61,{ live:=[(0,[0]),(1,[2])],dec:=[5] }),
 (62,{ live:=[(0,[0]),(1,[0,3]),(2,[0,3,6,7,8]),(3,[0,3,6,7,8,9]),(4,[0,3,5,6,7,8]),(5,[0,3,5,6,7,8,14]),(6,[2]),(7,[0,3,6,7,8]),(8,[0,3,6,7,8]),(9,[2])],dec:=[27],rd:=[(4,[5])] }),
 (63,{ live:=[(0,[0,1]),(1,[4])] }),
 (65,{ live:=[(0,[1]),(1,[2,3])] }),
 (66,{ live:=[(0,[1]),(1,[2,3])] }),
 (67,{ live:=[(0,[1]),(1,[1,4,5]),(2,[1,4,5,20]),(3,[2,3]),(4,[1,6,7]),(5,[1,6,31]),(6,[2,3]),(7,[2,3])] }),
 (68,{ live:=[(0,[2,3,4]),(1,[2,3,4,6]),(2,[2,3,4,6,39]),(3,[4,5]),(4,[2,4,47,48,49]),(5,[2,4,47,48,49,50]),(6,[2,4,8,47,48,49]),(7,[2,4,8,47,48,49,54]),(8,[2,4,9,10,47,48,49]),(9,[2,4,9,10,47,48,49,64]),(10,[4,5]),(11,[2,4,47,48,49]),(12,[2,4,47,48,49]),(13,[4,5])],dec:=[19,23,29,34],rd:=[(1,[6]),(6,[8]),(8,[9])] }),
 (73,{ live:=[(0,[0,1]),(1,[0,1,7,8]),(2,[0,1,7,8,9]),(3,[0,1,5,7,8]),(4,[0,1,5,7,8,16]),(5,[4]),(6,[0,1,7,8]),(7,[4])] }),
 (74,{ live:=[(0,[1,2]),(1,[3])] }),
 (75,{ live:=[(0,[1,2]),(1,[1,2]),(2,[2])] }),
 (76,{ live:=[(0,[0,1]),(1,[0,1,7,8]),(2,[0,1,7,8,9]),(3,[0,1,5,7,8]),(4,[0,1,5,7,8,16]),(5,[4]),(6,[0,1,7,8]),(7,[4])] }),
 (77,{ live:=[(0,[1,2]),(1,[3])] }),
 (78,{ live:=[(0,[0,2]),(1,[0,2,3]),(2,[0,2,3,16]),(3,[0,2,3]),(4,[0,2,3,20]),(5,[0,2,3,20,21]),(6,[0,2,3,4,20]),(7,[0,2,3,20]),(8,[0,2,3,20]),(9,[2,3,5,6]),(10,[2,3,5,6,40]),(11,[2,3,5,6]),(12,[2,3,5,6]),(13,[2,5,7]),(14,[2,5,7,46]),(15,[2,5,7,46,47]),(16,[2,5,7,8,46]),(17,[2,5,7,46]),(18,[2,5,7,46]),(19,[2])],fresh:=[10] }),
 (79,{ live:=[(0,[1]),(1,[1,21]),(2,[2]),(3,[1,23,24,25]),(4,[1,23,24,25,26]),(5,[1,3,4,23,24,25]),(6,[1,4,5,23,24,25]),(7,[1,23,24,25,74]),(8,[2]),(9,[1,23,24,25]),(10,[2])],dec:=[10,15,32,37,40,55,60,66],rd:=[(5,[4])] }),
 (80,{ live:=[(0,[2,3]),(1,[4])],dec:=[8] }),
 (83,{ live:=[(0,[2,3,4]),(1,[2,3,4,22]),(2,[4,5]),(3,[2,3,4,6]),(4,[2,3,4,6,7]),(5,[4,6,7,30,31,32]),(6,[4,6,7,30,31,32,33]),(7,[4,6,7,9,30,31,32]),(8,[4,6,7,9,10,11,30,31,32]),(9,[4,6,7,9,10,30,31,32,44]),(10,[4,6,7,9,30,31,32]),(11,[4,6,7,30,31,32]),(12,[4,6,7,30,31,32]),(13,[4,6,7,30,31,32]),(14,[4,6,7,67]),(15,[4,5]),(16,[4,6,7]),(17,[4,6,7,12]),(18,[4,6,12,71,72,73]),(19,[4,6,12,71,72,73,74]),(20,[4,6,12,14,71,72,73]),(21,[4,6,12,71,72,73]),(22,[4,6,12,71,72,73]),(23,[4,5])],dec:=[18],rd:=[(7,[9]),(8,[10]),(20,[14])] }),
 (84,{ live:=[(0,[0]),(1,[0,3]),(2,[0,3,4]),(3,[0,3,4,10,11]),(4,[0,3,4,10,11,12]),(5,[0,3,4,5,10,11]),(6,[0,3,4,10,11]),(7,[0,3,4,10,11]),(8,[4]),(9,[2])],esc:=true }),
 (85,{ live:=[(0,[0,1]),(1,[0,1,6]),(2,[0,1]),(3,[0,1]),(4,[0,1,16]),(5,[0]),(6,[4])],esc:=true,nil:=[(5,[⟨.sl 0,900000850,.bl⟩])] }),
 (87,{ live:=[(0,[0]),(1,[0,5]),(2,[0,5,6]),(3,[5,6,9,10,11]),(4,[5,6,9,10,11,12]),(5,[5,6,7,8,9,10,11]),(6,[5,6,7,8,9,10,11,16]),(7,[5,6,7,8,9,10,11,16]),(8,[5,6,7,8,9,10,11,16]),(9,[5,6,7,8,9,10,11]),(10,[5,6,7,9,10,11,39]),(11,[5,6]),(12,[5,6,9,10,11]),(13,[5,6,44]),(14,[2,3,4]),(15,[2,3,4])],dec:=[21,28] }),
 (88,{ live:=[(0,[0,2]),(1,[0,2,5]),(2,[0,2,5,15]),(3,[2,3,4]),(4,[0,2,5,26]),(5,[2,6,7,8]),(6,[2,3,4]),(7,[0,2,5,9,10,11]),(8,[2,5,9,10,11,12,13,14]),(9,[2,5,9,10,12,13,72]),(10,[2,3,4]),(11,[2,3,4])],dec:=[19,61,65,69] }),
 (90,{ live:=[(0,[1]),(1,[1,4]),(2,[2]),(3,[2])],dec:=[8,13,23] }),
 (91,{ live:=[(0,[0,1]),(1,[0,1,10]),(2,[4]),(3,[0,1,12,13]),(4,[0,1,12,13,14]),(5,[0,1,5,12,13]),(6,[0,1,12,13,24]),(7,[4]),(8,[0,1,12,13]),(9,[4])] }),
 (92,{ live:=[(0,[1,2,3]),(1,[1,2,17]),(2,[6,7]),(3,[6,7])],dec:=[10] }),
 (93,{ live:=[(0,[2,3,4]),(1,[2,8]),(2,[10,11]),(3,[10,26]),(4,[6,7]),(5,[6,7])],rd:=[(1,[8]),(2,[10])] }),
 (94,{ live:=[(0,[0,1]),(1,[0,1,11]),(2,[4,5]),(3,[0,1,6]),(4,[0,6,12,13,14]),(5,[0,6,12,13,14,15]),(6,[0,6,8,12,13,14]),(7,[0,6,8,12,13,14,29]),(8,[4,5]),(9,[0,6,8,12,13,14]),(10,[0,6,8,12,13,14,34]),(11,[0,6,12,13,14]),(12,[0,6,12,13,14]),(13,[4,5])],dec:=[20],rd:=[(6,[8])] }),
 (95,{ live:=[(0,[1]),(1,[2])],dec:=[7] }),
 (103,{ live:=[(0,[0]),(1,[0,4]),(2,[2]),(3,[2])],vecs:=[5],esc:=true }),
 (104,{ live:=[(0,[0]),(1,[0,4]),(2,[2]),(3,[2])],vecs:=[5],esc:=true }),
 (105,{ live:=[(0,[0]),(1,[0])] }),
 (106,{ live:=[(0,[0]),(1,[0])] }),
 (107,{ live:=[(0,[0,2,6]),(1,[0,2,6,7]),(2,[0,2,6,7,19]),(3,[0,2,6,7,19,20]),(4,[0,2,6,7,8,19]),(5,[0,2,6,7,8,9,10,19]),(6,[0,2,6,7,9,11,19]),(7,[0,2,6,7,11,12,19]),(8,[0,2,6,7,11,12,19]),(9,[0,2,6,7,11,19]),(10,[0,2,6,7,19]),(11,[0,2,6,7,19]),(12,[0,7,95]),(13,[0,7,95,96]),(14,[0,7,13,95]),(15,[0,7,95]),(16,[0,7,95])],rd:=[(0,[6])] }),
 (108,{ live:=[(0,[1]),(1,[2])],dec:=[7,12] }),
 (109,{ live:=[(0,[2,3]),(1,[4])],dec:=[8] }),
 (110,{ live:=[(0,[0,1]),(1,[4])] }),
 (112,{ live:=[(0,[0]),(1,[0,3]),(2,[0,3,9,10,11]),(3,[0,3,9,10,11,12]),(4,[0,3,5,9,10,11]),(5,[0,3,9,10,11]),(6,[0,3,9,10,11,20]),(7,[0,3,9,10,11]),(8,[0,3,9,10,11]),(9,[0,6]),(10,[6,25,26,27]),(11,[6,25,26,27,28]),(12,[6,8,25,26,27]),(13,[6,25,26,27]),(14,[6,25,26,27]),(15,[2])],raw:=[129],fresh:=[24] }),
 (113,{ live:=[(0,[2,3,4]),(1,[2,3,4,23]),(2,[4,5]),(3,[2,3,4,6]),(4,[2,3,4,6]),(5,[2,3,4,6]),(6,[4,6,7]),(7,[4,7,43]),(8,[7,8]),(10,[4,5])],dec:=[12,17],fresh:=[43],rd:=[(8,[8])] }),
 (114,{ live:=[(0,[0,1,4])] }),
 (115,{ live:=[(0,[2,3]),(1,[4])] }),
 (116,{ live:=[(0,[0]),(1,[0,3]),(2,[0,3]),(3,[0,3,7]),(4,[0,3]),(5,[0,3]),(6,[2])] }),
 (117,{ live:=[(0,[0,1,2]),(1,[6])],dec:=[10] }),
 (118,{ live:=[(0,[0,1]),(1,[0,1]),(2,[1]),(3,[4,5])] }),
 (119,{ live:=[(0,[0]),(1,[2])] }),
 (124,{ live:=[(0,[0,2]),(1,[0,2,3]),(2,[0,2,3,7]),(3,[0,2,3,7,8]),(4,[0,2,3,4,7]),(5,[0,2,3,4,7,11]),(6,[0,2,3,7]),(7,[0,2,3,4,5,6,7]),(8,[0,2,3,7]),(9,[0,2,3,7]),(10,[2])] }),
 (125,{ live:=[(0,[0,1]),(1,[4])] }),
 (126,{ live:=[(0,[0]),(1,[0,3]),(2,[3,6,7,8]),(3,[3,6,7,8,9]),(4,[3,5,6,7,8]),(5,[3,5,6,7,8,14]),(6,[2]),(7,[3,6,7,8]),(8,[2])] }),
 (127,{ live:=[(0,[0,1]),(1,[0,1,5]),(2,[0,1,5,6]),(3,[0,1,6,11]),(4,[12]),(5,[4]),(6,[4]),(7,[0,1,13]),(8,[4]),(9,[0,1,16]),(10,[4]),(11,[19]),(12,[4]),(13,[4])] }),
 (129,{ live:=[(0,[0,1]),(1,[0,1,6]),(2,[0,1]),(3,[0,1]),(4,[0,1,16]),(5,[0]),(6,[4])],esc:=true,nil:=[(5,[⟨.sl 0,900001290,(.sl 19 (.ag [(.ba 16),(.ag [(.i .i64),(.i .i64)]),(.sl 4 (.ag [(.i .i64),(.ag [(.ag [(.i .i64),(.i .i64)]),.s])]))]))⟩])] }),
 (130,{ live:=[(0,[0,3]),(1,[0,9,10,11]),(2,[0,9,10,11,12]),(3,[0,5,9,10,11]),(4,[0,5,6,7,9,10,11]),(5,[0,5,6,9,10,11,22]),(6,[0,9,10,11]),(7,[0,9,10,11]),(8,[0,9,10,11])],rd:=[(3,[5]),(4,[6])] }),
 (131,{ live:=[(0,[2,3,4]),(1,[2,3,4,7]),(2,[4]),(3,[4])] }),
 (132,{ live:=[(0,[2,3]),(1,[4])],esc:=true }),
 (133,{ live:=[(0,[0,1,2,3,4,10]),(1,[0,1,2,3,4,10,11]),(2,[0,1,2,3,4,10,11,12]),(3,[0,1,2,3,4,10,11,12,25]),(5,[0,1,2,3,4,10,11,12,32]),(7,[0,1,2,3,4,10,11,12,39]),(8,[0,1,2,3,4,10,11,12]),(9,[0,1,2,3,4,10,11,12]),(10,[0,1,2,3,4,10,11,12,13,14]),(11,[0,1,2,3,4,10,11,12,13,14,56]),(12,[0,1,2,3,4,10,11,12,13]),(13,[0,1,2,3,4,10,11,12,13]),(14,[0,1,2,3,4,10,11,12,13,14]),(15,[0,1,2,3,4,10,11,12,13,75]),(16,[0,1,2,3,4,10,11,12,13,80]),(17,[0,1,2,3,4,10,11,12,13,97]),(18,[0,2,3,4,10,11,15]),(19,[0,1,2,3,4,10,11]),(20,[0,1,2,3,4,12,16,17]),(21,[0,1,2,3,4,11,12,16]),(22,[0,1,2,3,4,11,12,16,18,19]),(23,[0,1,2,3,4,11,16,18,19,20]),(24,[0,1,2,3,4,11,16,18,19,20,125]),(25,[0,1,2,3,4,10,11,16]),(26,[0,2,3,4,10,11,16]),(27,[0,1,2,3,4,10,11]),(28,[0,1,2,3,4,10,11,16]),(29,[0,1,3,4,10,11,16]),(30,[0,1,2,3,4,10,11])],dec:=[69,72,83] }),
 (134,{ live:=[(0,[0]),(1,[2]),(2,[2])] }),
 (135,{ live:=[(0,[0,6]),(2,[19])] }),
 (142,{ live:=[(0,[0,1]),(1,[0,5]),(2,[4])] }),
 (143,{ live:=[(0,[0]),(1,[2])] }),
 (144,{ live:=[(0,[2,3,4]),(1,[2,3,4,7]),(2,[4]),(3,[4])] }),
 (145,{ live:=[(0,[0,1,2,7]),(1,[0,1,2,7,8]),(2,[0,1,2,4,7]),(3,[0,1,2,4,5,6,7]),(4,[0,1,2,7,30]),(5,[0,1,2,7])],dec:=[17,23],rd:=[(3,[5])] }),
 (146,{ live:=[(0,[0,1,2,3,8]),(1,[0,1,2,3,8,14]),(2,[0,1,2,3,8]),(3,[0,1,2,3,8,9]),(4,[0,1,2,3,8,9,34]),(5,[0,1,2,3,8,9]),(6,[0,1,2,3,8,9])],dec:=[21] }),
 (147,{ live:=[(0,[0,1,2,3,8]),(1,[0,1,2,3,8,9]),(2,[0,3,8,9,10]),(3,[0,3,8,9,10,11]),(4,[0,3,8,9,10,11,21]),(5,[0,3,8,9,10,11]),(6,[0,3,8,9,10,11]),(7,[0,3,8,9,12]),(8,[0,3,8,9,12,33]),(9,[0,3,8,9,12]),(10,[0,3,8,9,12]),(11,[0,3,8,9,12])] }),
 (148,{ live:=[(0,[0,1,8]),(1,[0,1,8,17]),(2,[0,1,8,9]),(3,[0,1,8,9,10]),(4,[0,1,8,9,10,11]),(5,[0,1,8,9,10,11,35]),(6,[0,1,8,9,10,11]),(7,[0,1,8,9,10,11,12]),(8,[0,1,8,9,10,11,12,45]),(9,[0,1,8,9,10,11,12]),(10,[0,1,8,9,10,11])] }),
 (149,{ live:=[(0,[0,1,2,3]),(1,[0,1,3,10]),(2,[0,1,3,10,11]),(3,[0,1,3,10,11,12]),(4,[0,1,3,10,11,12,13]),(5,[0,3,10,11,12,13,14]),(6,[0,3,10,11,12,13,14,34]),(7,[0,3,11,12,13,14,36]),(8,[0,3,11,12,13,14]),(9,[0,3,11,12,13,14]),(10,[0,3,11,12,13,14]),(11,[11,13]),(12,[13,55]),(13,[8,9]),(14,[13,55,57]),(15,[8,9]),(16,[13,60]),(17,[8,9])] }),
 (150,{ live:=[(0,[0,2,8]),(1,[0,8,9]),(2,[0,8,9,15]),(3,[0,8,9]),(4,[0,8,9]),(5,[0,8,9])] }),
 (151,{ live:=[(0,[0,1,2,3]),(1,[0,1,2,3,9]),(2,[0,1,2,3,9,10]),(3,[0,1,2,3,9,10,16]),(4,[0,1,2,3,9,10]),(5,[0,1,2,3,9,10,36]),(6,[0,1,2,3,9,10]),(7,[0,1,2,3,9,10,41]),(8,[8]),(9,[0,1,2,3,9,10,45]),(10,[8]),(11,[0,1,2,3,9,10]),(12,[0,1,2,3,9,10,65]),(13,[0,1,2,3,9,10,11]),(14,[0,1,2,3,9,10,11,69]),(15,[0,1,2,3,9,10,11]),(16,[0,1,2,3,9,10,11,84]),(17,[0,1,2,3,9,10,11]),(18,[0,1,2,3,9,10,104]),(19,[0,1,2,3,9,10,12]),(20,[0,1,2,3,9,10,12,109]),(21,[0,1,2,3,9,10,12]),(22,[0,1,2,3,9,10,12,124]),(23,[0,1,2,3,9,10,12]),(24,[8])],dec:=[22] }),
 (152,{ live:=[(0,[0,1,2,3,4]),(1,[0,1,2,4]),(2,[0,1,4,11,12]),(3,[0,1,4,11,12,47]),(4,[0,1,4,11,12]),(5,[0,1,4,11,12,65]),(6,[0,1,4,11,12]),(7,[0,1,4,11,12,70]),(8,[0,1,4,11,12]),(9,[0,1,4,11,12]),(10,[0,1,4,11,12]),(11,[10])],dec:=[34,53] }),
 (153,{ live:=[(0,[0,1,2,3,4]),(1,[0,1,2,4]),(2,[0,1,4,12,13]),(3,[0,1,4,12,13,47]),(4,[0,1,4,12,13]),(5,[0,1,4,12,13,66]),(6,[0,1,4,12,13]),(7,[0,1,4,12,13,71]),(8,[13]),(9,[10,11]),(10,[0,1,4,12,13]),(11,[0,1,4,12,13]),(12,[0,1,4,12,13]),(13,[0,1,4,12,13,120]),(14,[0,1,4,12,13]),(15,[0,1,4,12,13,139]),(16,[0,1,4,12,13]),(17,[0,1,4,12,13,144]),(18,[0,1,4,12,13]),(19,[0,1,4,12,13]),(20,[0,1,4,12,13]),(21,[13]),(22,[10,11])],dec:=[35,53,108,126] }),
 (154,{ live:=[(0,[0,2]),(1,[0,2,4]),(2,[0]),(3,[0,2]),(4,[0,2,8]),(5,[0,2]),(6,[0,2]),(7,[2])] }),
 (155,{ live:=[(0,[0,2]),(1,[0,2,4]),(2,[0]),(3,[0,2]),(4,[0,2,8]),(5,[0,2]),(6,[0,2]),(7,[0,2,14]),(8,[0,2]),(9,[0,2]),(10,[2])] }),
 (159,{ live:=[(0,[2,3]),(1,[5]),(2,[13,14]),(3,[13,14,15]),(4,[7,13,14]),(5,[8,13,14]),(6,[8,13,14,20]),(7,[4]),(8,[13,14]),(9,[4])],rd:=[(1,[5])] }),
 (160,{ live:=[(0,[0,2,3,4,10]),(1,[0,2,3,4,10,11]),(2,[0,2,3,4,10,11,18]),(3,[0,2,3,4,10,11,40]),(4,[0,2,3,4,10,11]),(5,[0,2,3,4,10,11,58]),(6,[0,2,3,4,11]),(7,[0,2,3,4,10])],dec:=[23] }),
 (161,{ live:=[(0,[0]),(1,[2])] }),
 (162,{ live:=[(0,[0]),(1,[0]),(2,[0]),(3,[0]),(4,[2])] }),
 (163,{ live:=[(0,[0,1,2,3]),(1,[8])] }),
 (164,{ live:=[(0,[0,1,2,3,4,5]),(1,[0,1,2,3,4,5]),(2,[0,1,2,4,5]),(3,[2]),(4,[12])] }),
 (166,{ live:=[(0,[0,1]),(1,[2])] }),
 (167,{ live:=[(0,[2,3,4]),(1,[2,3,4,7]),(2,[6]),(3,[12]),(4,[6]),(5,[6])] }),
 (168,{ live:=[(0,[0,1]),(1,[2])] }),
 (169,{ live:=[(0,[2,3,4]),(1,[2,3,4,7]),(2,[6]),(3,[12]),(4,[6]),(5,[6])] }),
 (170,{ live:=[(0,[2,3]),(1,[4])],dec:=[8] }),
 (171,{ live:=[(0,[0,1]),(1,[2])] }),
 (172,{ live:=[(0,[0,1]),(1,[0,1,5]),(2,[0,1,5,6]),(3,[0,1,6,11]),(4,[12]),(5,[4]),(6,[4]),(7,[0,1,13]),(8,[4]),(9,[0,1,16]),(10,[4]),(11,[19]),(12,[4]),(13,[4])] }),
 (173,{ live:=[(0,[0,1,2,3,4]),(1,[1,2,3,22]),(2,[1,2]),(3,[10,11]),(4,[10,11])] }),
 (175,{ live:=[(0,[0]),(1,[2])] })]
def qJf (k:FuncId):TH:=(get qJN k).getD {}
theorem qI4:qmF Tryz.prog [113]:=⟨qF_ (fn:=Tryz.f113) (c:=Tryz.f113.body.getD .skip) (by kernel_rfl) (by kernel_rfl) (by kernel_rfl),trivial⟩
def qwV:Option Bool:=some true
theorem qAX:qBS Tryz.prog qJf [113] [qxZ,qqv] 400 30 11=some (.pv (.b true),[]):=by kernel_rfl
def qxX:Ent:=smF ⟨11,[],[],[],[]⟩ [] Bool (fun _=>qwV) cs1 fun _ z=>(xb z,[])
theorem qDZ:zc Tryz.prog qxX:=qJd Tryz.prog (fun _=>rfl) qk (base:=[qxZ,qqv]) ⟨qIE,qz5,trivial⟩ qI4 qAX
end Go.Rx
end
noncomputable section
namespace Go.Rx
open Go.RowKit
variable {P:Program} {γ:Hm} {G:Gh} {w w':World}
theorem qzN {K : FuncId} {fn : Func} {c : Code} (hf : P.funcs[K]? = some fn) (hb : fn.body = some c) (hname : (fn.name == "runtime.NumGoroutine") = false) {args : List AV} {h h' : Ob} {r : AV}
    (hc:∀ γ G w vas,qB h γ G w→zh h γ G w args vas→Calls P K vas.toArray w fun e w''=>∃ v,e=.returned v∧∃ γ' G',qB h' γ' G' w''∧Trans h γ G w h' γ' G' w''∧qC h' γ' G' w'' r v) (l:Nat) :
    Valid P l (.fn (.func K) [] []) args h (.ret r) h':=by
 intro γ G w vf vas H hvf hva
 have h1:=zf rfl rfl hvf
 simp only [qi] at h1
 obtain ⟨va,vc,h1,h2,h3⟩:=h1
 simp only [zh] at h2 h3
 subst h2; subst h3
 simp only [List.cons.injEq,and_true] at h1
 subst h1
 refine ⟨r,rfl,?_⟩
 unfold JU
 have hrun:(do let d ← Deferred.ofValue (.func (.func K) ([]:List Value).toArray ([]:List Value).toArray) vas.toArray; invoke d.target d.args:Sem Next).run P w=.ok (.enter K vas.toArray) w:=by
  simp only [Deferred.ofValue,Sem.run_bind,Sem.run_pure,Result.andThen_ok,invoke,callFunc,run_program,hf,hname,hb,Option.isNone_some,Bool.false_eq_true,if_false]
  simp
 rw [hrun]
 exact hc γ G w vas H hva
theorem qy4 {K : FuncId} {fn : Func} {c : Code} (hf : P.funcs[K]? = some fn) (hb : fn.body = some c) (hname : (fn.name == "runtime.NumGoroutine") = false) {args : List AV} {h h' : Ob} {r : AV} {l : Nat} {vas : List Value}
    (hv:Valid P l (.fn (.func K) [] []) args h (.ret r) h') (H:qB h γ G w) (ha:zh h γ G w args vas) :
    Calls P K vas.toArray w fun e w''=>∃ v,e=.returned v∧∃ γ' G',qB h' γ' G' w''∧Trans h γ G w h' γ' G' w''∧qC h' γ' G' w'' r v:=by
 obtain ⟨r',e,hc⟩:=hv γ G w (.func (.func K) ([]:List Value).toArray ([]:List Value).toArray) vas H (zg rfl (by simp only [qi,zh]; exact ⟨[],[],rfl,rfl,rfl⟩)) ha
 cases e
 unfold JU at hc
 have hrun:(do let d ← Deferred.ofValue (.func (.func K) ([]:List Value).toArray ([]:List Value).toArray) vas.toArray; invoke d.target d.args:Sem Next).run P w=.ok (.enter K vas.toArray) w:=by
  simp only [Deferred.ofValue,Sem.run_bind,Sem.run_pure,Result.andThen_ok,invoke,callFunc,run_program,hf,hname,hb,Option.isNone_some,Bool.false_eq_true,if_false]
  simp
 rw [hrun] at hc
 exact hc
theorem qjf (H:qB [] γ G w) (hb:Below w.heap.size w w'):qB [] γ G w'∧Trans [] γ G w [] γ G w':=
 qhM H G w' hb.size (fun b h=>hb.block b h) (fun _ _ h=>h) (fun _ _ h h'=>absurd h h') ⟨hb.os,hb.output⟩
end Go.Rx
end
namespace Go.Proofs
open Go.Shelf Go.RowKit
set_option maxRecDepth 100000
set_option maxHeartbeats 2000000
theorem qAe:(Tryz.prog.info? 152).map (·.size)=some 2:=by kernel_rfl
theorem qJz:liesAt Tryz.prog Tryz.prog.depth 152 (2 / Tryz.prog.cellsOf 152) 0 152 1=true:=by kernel_rfl
theorem qGI (b : Nat) (w : World) (h0 : w.cell? ⟨b, 0, none⟩ = some (.pointer (some ⟨b, 0, none⟩))) :
    Calls Tryz.prog 135 #[.pointer (some ⟨b,0,none⟩)] w fun e w'=>e=.returned (.tuple #[])∧w'=w:=by
 obtain ⟨j,hj,_⟩:=Option.map_eq_some_iff.1 qAe
 go_enter Tryz.func135,Tryz.ntmps135
 go_wp2
 rw [Lib.run_neq_ptr_same w _ Tryz.underlying150 hj]
 go_wp2
 go_end0
 exact ⟨rfl,rfl⟩
theorem qEr (b : Nat) (w : World) (h0 : w.cell? ⟨b, 0, none⟩ = some (.pointer none)) (hsh : w.shape? b = some (152, 2)) (hfz : w.frozen? ⟨b, 0, none⟩ = false) :
    Calls Tryz.prog 135 #[.pointer (some ⟨b,0,none⟩)] w fun e w'=>e=.returned (.tuple #[])∧w'=w.setCell ⟨b,0,none⟩ (.pointer (some ⟨b,0,none⟩)):=by
 obtain ⟨j,hj,hjs⟩:=Option.map_eq_some_iff.1 qAe
 go_enter Tryz.func135,Tryz.ntmps135
 go_wp2
 rw [Lib.run_to_unsafe w ⟨b,0,none⟩ Tryz.underlying150 Tryz.underlying191 hj (by rw [hjs]; decide) hsh (Nat.zero_lt_succ 1)]
 simp only [Result.andThen]
 rw [Oper.upon_value]
 go_wp2
 rw [run_callFunc_extern Tryz.func156 (by kernel_rfl) (by kernel_rfl) (by kernel_rfl) (e:=Extern.AbiNoEscape.same) (by kernel_rfl)]
 rw [Lib.run_noEscape]
 simp only [Result.andThen]
 rw [Oper.upon_value]
 go_wp2
 rw [Lib.run_from_unsafe w ⟨b,0,none⟩ Tryz.underlying191 Tryz.underlying150 hj hsh qJz]
 simp only [Result.andThen]
 rw [Oper.upon_value]
 go_wp2
 go_end0
 exact ⟨rfl,rfl⟩
theorem qEN (B b : Nat) (bs : List Value) (w : World) (h : Lib.IsBuilderF 152 5 B b bs w) :
    Calls Tryz.prog 135 #[.pointer (some ⟨b,0,none⟩)] w fun e w'=>e=.returned (.tuple #[])∧(Lib.BuilderAtF 152 5 B b (.pointer (some ⟨b,0,none⟩)) bs w'∧Below B w w'∧Lib.OthersKept 5 (some b) w w'):=by
 rcases h with h | h
 ·refine (qEr b w h.cell0 h.shape h.frozen0).mono ?_
  rintro e w' ⟨rfl,rfl⟩
  exact ⟨rfl,h.used _,(Below.refl B w).setCell (p:=⟨b,0,none⟩) h.1 _,(Lib.OthersKept.refl _ _ w).setCell ⟨b,0,none⟩ rfl _⟩
 ·refine (qGI b w h.cell0).mono ?_
  rintro e w' ⟨rfl,rfl⟩
  exact ⟨rfl,h,Below.refl B _,Lib.OthersKept.refl _ _ _⟩
theorem infoByte:(Tryz.prog.info? 5).map (fun i=>(i.zero,i.size,i.bytes))=some (some (.int .u8 0),1,1):=by kernel_rfl
theorem qk4 (B b : Nat) (bs : List Value) (s : ByteArray) (w : World) (h : Lib.IsBuilderF 152 5 B b bs w) (hlen : bs.length + s.size ≤ 140737488355328) (hBw : B ≤ w.heap.size) :
    Calls Tryz.prog 118 #[.pointer (some ⟨b,0,none⟩),.string s] w fun e w'=>e=.returned (.tuple #[.int .i64 s.size,.nilIface])∧(Lib.BuilderAtF 152 5 B b (.pointer (some ⟨b,0,none⟩)) (bs++Lib.strCells s) w'∧Below B w w'∧Lib.OthersKept 5 (some b) w w'):=by
 obtain ⟨i0,hi,hz0,hz1,hz2⟩:=info_parts infoByte
 go_enter Tryz.func118,Tryz.ntmps118
 go_wp2_with (go_at_call 135; refine (qEN B b bs _ h).mono ?_)
 rintro e w1 ⟨rfl,h1,hb1,hk1⟩
 obtain ⟨hB,v,hbk,hown,hne⟩:=h1
 have c0:w1.cell? ⟨b,0,none⟩=some (.pointer (some ⟨b,0,none⟩)):=by rw [Lib.cell_of_heap hbk]; rfl
 have c1:w1.cell? ⟨b,1,none⟩=some v:=by rw [Lib.cell_of_heap hbk]; rfl
 go_wp2_with (at_builtin; refine Lib.wpList_append_own_stringF _ rfl _ _ 31 9 rfl B 5 i0 Tryz.underlying31 Tryz.underlying9 hi hz0 hz1 hz2 _ _ _ rfl hown s rfl ?c3 ?c4 ?c5 ?_)
 case c3=>unfold maxLen; omega
 case c4=>omega
 case c5=>have:=hb1.size; omega
 intro v' w2 hown' hgrow _
 have hlt:b < w1.heap.size:=by
  rcases Nat.lt_or_ge b w1.heap.size with h' | h'
  ·exact h'
  ·simp [Array.getElem?_eq_none h'] at hbk
 have hb2:w2.heap[b]?=some (.cells #[.pointer (some ⟨b,0,none⟩),v] 152 (0,0)):=by
  rw [hgrow.block b hlt (fun e=>hne e.symm)]
  exact hbk
 have d0:w2.cell? ⟨b,0,none⟩=some (.pointer (some ⟨b,0,none⟩)):=by rw [Lib.cell_of_heap hb2]; rfl
 have d1:w2.cell? ⟨b,1,none⟩=some v:=by rw [Lib.cell_of_heap hb2]; rfl
 have f1:w2.frozen? ⟨b,1,none⟩=false:=Lib.frozen_of_heap hb2 1
 obtain ⟨ao,n',cap,rfl⟩:∃ ao n' cap,v'=.slice ao n' cap:=by
  rcases hown'.2 with ⟨hv,_⟩ | ⟨g,cap,cur,fz,hv,_⟩
  ·exact ⟨_,_,_,hv⟩
  ·exact ⟨_,_,_,hv⟩
 go_wp2
 go_ret2
 refine ⟨rfl,?_,?_,(hk1.grown hgrow (Lib.ownsRowF_kind hown)).setCell ⟨b,1,none⟩ rfl _⟩
 ·exact Lib.BuilderAtF.put (T:=152) (e:=5) hB hb2 (bs':=bs++Lib.strCells s) (by simpa [Lib.strCells_length] using hown') (by decide)
 ·exact (hb1.grown hgrow (by have:=hb1.size; omega) (fun k hk=>(hown.lt k hk).1)).setCell (p:=⟨b,1,none⟩) hB _
def qC7:Go.Shelf.Ren:=⟨fun | 169=>119 | n=>n,fun | 70=>150 | 9=>9 | 0=>0 | 72=>152 | 37=>31 | 127=>176 | 3=>3 | 5=>5 | n=>n,fun | n=>n⟩
theorem qJq:Go.Proofs.Lays.n169 Tryz.prog qC7:={
 mixed:=by kernel_rfl
 f169:=Tryz.func119.trans (congrArg some (by kernel_rfl))
 t0:=Tryz.underlying0
 a0:=Tryz.isAgg0
 z0:=Tryz.sizeOf0
 v0:=Tryz.zeroValue0
 t3:=Tryz.underlying3
 a3:=Tryz.isAgg3
 z3:=Tryz.sizeOf3
 v3:=Tryz.zeroValue3
 t9:=Tryz.underlying9
 a9:=Tryz.isAgg9
 z9:=Tryz.sizeOf9
 v9:=Tryz.zeroValue9
 t37:=Tryz.underlying31
 a37:=Tryz.isAgg31
 z37:=Tryz.sizeOf31
 v37:=Tryz.zeroValue31
 t70:=Tryz.underlying150
 a70:=Tryz.isAgg150
 z70:=Tryz.sizeOf150
 v70:=Tryz.zeroValue150
 t72:=Tryz.underlying152
 a72:=Tryz.isAgg152
 z72:=Tryz.sizeOf152
 v72:=Tryz.zeroValue152
 t127:=Tryz.underlying176
 a127:=Tryz.isAgg176
 z127:=Tryz.sizeOf176
 v127:=Tryz.zeroValue176 }
theorem qHl:Builder.Extra Tryz.prog qC7:={
 sizeBuilder:=by kernel_rfl
 liesBuilder:=by kernel_rfl
 t5:=Tryz.underlying5
 a5:=Tryz.isAgg5
 z5:=Tryz.sizeOf5
 v5:=Tryz.zeroValue5
 infoByte:=by kernel_rfl
 cellsByte:=by kernel_rfl
 sizeByte:=by kernel_rfl
 neB5:=by decide }
theorem qBn (B b : Nat) (l : List UInt8) (w : World) (h : Lib.IsBuilderF 152 5 B b (Lib.byteCells l) w) (hBw : B ≤ w.heap.size) :
    Calls Tryz.prog 119 #[.pointer (some ⟨b,0,none⟩)] w fun e w'=>e=.returned (.string ⟨l.toArray⟩)∧(Lib.IsBuilderF 152 5 B b (Lib.byteCells l) w'∧Below B w w'∧Lib.OthersKept 5 (some b) w w'):=Any.Builder_String_any_k qJq qHl B b l w h hBw
end Go.Proofs
set_option maxRecDepth 100000
noncomputable section
namespace Go.Rx
open Go.Proofs Go.RowKit
def qbX (a:List UInt8):List qg→List UInt8→Option (List UInt8×Bool)
 | [],acc=>some (acc,true)
 | p :: l, acc => bif qg.qbG p then
     chk (qz (((a.length:Nat):Int) - qg.jA p)) (bif decide (((a.length:Nat):Int) - qg.jA p < qg.Len p) then some ([],false) else
      chk (qz (qg.jA p + qg.Len p)∧(0≤qg.jA p∧qg.jA p≤qg.jA p + qg.Len p∧qg.jA p + qg.Len p≤((a.length:Nat):Int))∧acc.length + (qg.Lit p).length + a.length≤35184372088832)
       (qbX a l (acc++qg.Lit p++(a.take (qg.jA p + qg.Len p).toNat).drop (qg.jA p).toNat)))
  else chk (acc.length + (qg.Lit p).length≤35184372088832) (qbX a l (acc++qg.Lit p))
def qcI (N:Nat) (a0:List UInt8) (a1:List qg):Option (List UInt8×Bool):=(JJ N a1).bind fun m=>bif m then chk (a1.length≤1000000000) (qbX a0 a1 []) else some ([],false)
theorem qt8 {γ : Hm} {G : Gh} {w : World} {N : Nat} {l : List qg} {m : Bool} (hm : JJ N l = some m) (H : qB [] γ G w) {v : Value} (hr : qx G w (qw (.sl 4 qG) l) [v]) :
    Calls Tryz.prog 62 #[v] w fun e w'=>e=.returned (.bool m)∧∃ γ' G',qB [] γ' G' w'∧Trans [] γ G w [] γ' G' w':=by
 have hv:=qki N (l,()) m hm 0
 refine (qy4 (vas:=[v]) Tryz.func62 rfl (by kernel_rfl) hv H ?_).mono ?_
 ·exact ⟨[v],v,[],rfl,hr,rfl,rfl⟩
 ·rintro e w' ⟨u,rfl,γ',G',h1,h2,h3⟩
  refine ⟨?_,γ',G',h1,h2⟩
  have h3:qC [] γ' G' w' (.pv (.b m)) u:=h3
  rw [Xv.1 h3]
def qsf (w:World) (b off:Nat) (l:List qg):Prop:=∀ k p,l[k]?=some p→w.cell? ⟨b,off + k * 4,none⟩=some (.bool (qg.qbG p))∧w.cell? ⟨b,off + k * 4 + 1,none⟩=some (.int .i64 (qg.jA p))∧
 w.cell? ⟨b,off + k * 4 + 2,none⟩=some (.int .i64 (qg.Len p))∧w.cell? ⟨b,off + k * 4 + 3,none⟩=some (.string ⟨(qg.Lit p).toArray⟩)
set_option maxHeartbeats 4000000 in
theorem qGh {γ : Hm} {G : Gh} {w : World} {N : Nat} {base : List UInt8} {l : List qg} (hm : JJ N l = some false) (H : qB [] γ G w) {v : Value} (hr : qx G w (qw (.sl 4 qG) l) [v]) :
    Calls Tryz.prog 94 #[.string ⟨base.toArray⟩,v] w fun e w'=>e=.returned (.tuple #[.string ⟨#[]⟩,.bool false])∧∃ γ' G',qB [] γ' G' w'∧Trans [] γ G w [] γ' G' w':=by
 go_enter Tryz.func94,Tryz.ntmps94
 go_wp2_with (go_at_call 62; refine (qt8 hm H hr).mono ?_)
 rintro e w1 ⟨rfl,γ',G',h1,h2⟩
 go_wp2
 go_ret2
 exact ⟨rfl,γ',G',h1,h2⟩
theorem qC4 {t:Ty} (l:List (El t)):(l.map (qw t)).length=l.length∧(∀ (k:Nat) (p:El t),l[k]?=some p→(l.map (qw t))[k]?=some (qw t p))∧(l.map (qw t)=[]→l=[]):=
 ⟨List.length_map ..,fun k p h=>by rw [List.getElem?_map,h]; rfl,List.map_eq_nil_iff.1⟩
theorem qwm {G : Gh} {w : World} {l : List qg} {v : Value} (hg : ∀ b o, G b o → b < w.heap.size) (hr : qx G w (qw (.sl 4 qG) l) [v]) :
    ∃ a cap,v=.slice a l.length cap∧(l=[]∨∃ b off,a=some ⟨b,off,none⟩∧b < w.heap.size∧qsf w b off l):=by
 obtain ⟨f1,f2,f3⟩:=qC4 (t:=qG) l
 have hr:qx G w (.l 4 (List.map (qw qG) l)) [v]:=hr
 generalize List.map (qw qG) l=xs at f1 f2 f3 hr
 have f1:xs.length=l.length:=f1
 obtain ⟨a,cap,h1,_,h3,h4⟩:=hr
 rw [f1] at h1
 refine ⟨a,cap,(List.cons.inj h1).1,?_⟩
 rcases h4 with h4 | ⟨b,off,vs,rfl,hv,hc,hi⟩
 ·exact .inl (f3 h4)
 ·by_cases hl:l=[]
  ·exact .inl hl
  right
  have hlen:=q9.len _ _ hv
  have hsz:=PV.Vu 4 xs h3
  rw [hsz,f1] at hlen
  have hpos:0 < l.length:=List.length_pos_iff.2 hl
  refine ⟨b,off,rfl,hg b (off + 0) (hi 0 (by omega)),fun k p hp=>?_⟩
  have hk:=(List.getElem?_eq_some_iff.1 hp).1
  obtain ⟨c,d,e,rfl,hd,hcl,_,_⟩:=q9.at hv (k:=k) (y:=qw qG p) (f2 k p hp)
  rw [PV.Vu 4 _ (fun x hx=>h3 x (List.mem_of_mem_take hx)),List.length_take,f1,Nat.min_eq_left (by omega)] at hcl
  have hd:d=[.bool (qg.qbG p),.int .i64 (qg.jA p),.int .i64 (qg.Len p),.string ⟨(qg.Lit p).toArray⟩]:=by
   obtain ⟨d1,r1,rfl,e1,d2,r2,rfl,e2,d3,r3,rfl,e3,d4,r4,rfl,e4,rfl⟩:=hd
   have e1:d1=[.bool (qg.qbG p)]:=e1
   have e2:d2=[.int .i64 (qg.jA p)]:=e2
   have e3:d3=[.int .i64 (qg.Len p)]:=e3
   have e4:d4=[.string ⟨(qg.Lit p).toArray⟩]:=e4
   rw [e1,e2,e3,e4]; rfl
  subst hd
  have cell:∀ j,j < 4→w.cell? ⟨b,off + k * 4 + j,none⟩=([.bool (qg.qbG p),.int .i64 (qg.jA p),.int .i64 (qg.Len p),.string ⟨(qg.Lit p).toArray⟩]:List Value)[j]?:=fun j hj=>by
   rw [show off + k * 4 + j=off + (k * 4 + j) by omega,hc (k * 4 + j) (by simp only [List.length_append,List.length_cons,List.length_nil]; omega),List.append_assoc,List.getElem?_append_right (by omega),show k * 4 + j - c.length=j by omega,List.getElem?_append_left (by simpa using hj)]
  exact ⟨cell 0 (by omega),cell 1 (by omega),cell 2 (by omega),cell 3 (by omega)⟩
theorem quW {B:Nat} {w w':World} {b off:Nat} {l:List qg} (h:qsf w b off l) (hb:Below B w w') (ha:b < B):qsf w' b off l:=fun k p hp=>by
 have c:∀ j,w'.cell? ⟨b,j,none⟩=w.cell? ⟨b,j,none⟩:=fun j=>hb.cell (p:=⟨b,j,none⟩) ha
 rw [c,c,c,c]
 exact h k p hp
set_option maxHeartbeats 4000000 in
theorem qFH {γ : Hm} {G : Gh} {w : World} {N : Nat} {base : List UInt8} {l : List qg} {z : List UInt8 × Bool} (hm : JJ N l = some true) (hl9 : l.length ≤ 1000000000) (hz : qbX base l [] = some z) (H : qB [] γ G w) {v : Value} (hr : qx G w (qw (.sl 4 qG) l) [v]) :
    Calls Tryz.prog 94 #[.string ⟨base.toArray⟩,v] w fun e w'=>e=.returned (.tuple #[.string ⟨z.1.toArray⟩,.bool z.2])∧∃ γ' G',qB [] γ' G' w'∧Trans [] γ G w [] γ' G' w':=by
 go_enter Tryz.func94,Tryz.ntmps94
 go_wp2_with (go_at_call 62; refine (qt8 hm H hr).mono ?_)
 rintro e w1 ⟨rfl,γ1,G1,h1,h2⟩
 obtain ⟨a,cap,rfl,hp⟩:=qwm h1.gok (qx.mono h2.keeps _ _ hr)
 go_wp2
 go_loopw [14] (fun i wr=>∃ (k:Nat) (acc:List UInt8),k≤l.length∧i=.int .i64 k∧Lib.IsBuilderF 152 5 w1.heap.size w1.heap.size (Lib.byteCells acc) wr∧Below w1.heap.size w1 wr∧qbX base (l.drop k) acc=some z) (fun i _=>l.length - (intOf i).toNat)
 case atStart=>
  exact ⟨0,[],Nat.zero_le _,rfl,Lib.IsBuilderF.of (Lib.fresh_isBuilder 152 5 w1),(Below.refl _ w1).alloc (Nat.le_refl _) _,hz⟩
 case round=>
  obtain ⟨k,acc,hk,rfl,hI,hbw,hA⟩:=hrel
  by_cases hlt:k < l.length
  ·obtain ⟨b,off,rfl,hbl,hpa⟩:=hp.resolve_left (fun e=>by subst e; exact absurd hlt (Nat.not_lt_zero k))
   obtain ⟨p,hpk⟩:∃ p,l[k]?=some p:=⟨_,List.getElem?_eq_getElem hlt⟩
   obtain ⟨q0,q1,q2,q3⟩:=quW hpa hbw hbl k p hpk
   have hdr:l.drop k=p::l.drop (k + 1):=by
    rw [List.drop_eq_getElem_cons hlt]
    rw [List.getElem?_eq_getElem hlt] at hpk
    rw [Option.some.inj hpk]
   rw [hdr] at hA
   unfold qbX at hA
   cases hc:qg.qbG p with
   | false=>
    rw [hc] at hA q0
    replace hA:=W9 hA
    obtain ⟨hle,hA⟩:=hA
    generalize qg.jA p=pf at *
    generalize qg.Len p=pl at *
    generalize qg.Lit p=pt at *
    have hs1:w1.heap.size < wr.heap.size:=hI.elim (fun x=>x.lt) (fun x=>x.lt)
    have hsz:(Lib.byteCells acc).length + (⟨pt.toArray⟩:ByteArray).size≤140737488355328:=by rw [Lib.byteCells_length]; show acc.length + pt.toArray.size≤_; rw [List.size_toArray]; omega
    go_wp2_with (go_at_call 118; refine (qk4 w1.heap.size w1.heap.size _ ⟨pt.toArray⟩ _ (hI.alloc _) hsz (by simp; omega)).mono ?_)
    rintro e W1 ⟨rfl,b1,b2,k1⟩
    have hh:W1.heap[wr.heap.size]?=some (.cells #[Value.bool false,Value.int IntKind.i64 pf,Value.int IntKind.i64 pl,Value.string { data:=pt.toArray }] 67):=k1 _ _ (heap_alloc_new wr _) (fun e=>by have:=Option.some.inj e; omega) (by simp)
    have g0:W1.cell? ⟨wr.heap.size,0,none⟩=some (.bool false):=by rw [Lib.cell_of_heap hh]; rfl
    go_wp2
    go_roundw
    case rel=>
     refine ⟨k + 1,acc++pt,hlt,by go_num,?_,?_,hA⟩
     ·rw [Lib.byteCells_append]; exact Or.inr b1
     ·exact (hbw.alloc (Nat.le_of_lt hs1) _).trans b2
    case measure=>simp [intOf]; omega
   | true=>
    rw [hc] at hA q0
    replace hA:=W9 hA
    obtain ⟨hin,hA⟩:=hA
    unfold qz at hin
    generalize qg.jA p=pf at *
    generalize qg.Len p=pl at *
    generalize qg.Lit p=pt at *
    by_cases hs:((base.length:Nat):Int) - pf < pl
    ·rw [decide_eq_true hs] at hA
     have hA:z=([],false):=(Option.some.inj hA).symm
     subst hA
     go_wp2
     go_ret2
     have hb:=hbw.alloc hbw.size (.cells #[Value.bool true,Value.int IntKind.i64 pf,Value.int IntKind.i64 pl,Value.string { data:=pt.toArray }] 67)
     exact ⟨rfl,γ1,G1,(qjf h1 hb).1,h2.then (qjf h1 hb).2⟩
    ·rw [decide_eq_false hs] at hA
     replace hA:=W9 hA
     obtain ⟨⟨hin2,⟨hb1,hb2,hb3⟩,hle⟩,hA⟩:=hA
     unfold qz at hin2
     have hs1:w1.heap.size < wr.heap.size:=hI.elim (fun x=>x.lt) (fun x=>x.lt)
     have hsz:(Lib.byteCells acc).length + (⟨pt.toArray⟩:ByteArray).size≤140737488355328:=by rw [Lib.byteCells_length]; show acc.length + pt.toArray.size≤_; rw [List.size_toArray]; omega
     go_wp2_with (go_at_call 118; refine (qk4 w1.heap.size w1.heap.size _ ⟨pt.toArray⟩ _ (hI.alloc _) hsz (by simp; omega)).mono ?_)
     rintro e W1 rfl b1 b2 k1
     have hh:W1.heap[wr.heap.size]?=some (.cells #[Value.bool true,Value.int IntKind.i64 pf,Value.int IntKind.i64 pl,Value.string { data:=pt.toArray }] 67):=k1 _ _ (heap_alloc_new wr _) (fun e=>by have:=Option.some.inj e; omega) (by simp)
     have g0:W1.cell? ⟨wr.heap.size,0,none⟩=some (.bool true):=by rw [Lib.cell_of_heap hh]; rfl
     have g1:W1.cell? ⟨wr.heap.size,1,none⟩=some (.int .i64 pf):=by rw [Lib.cell_of_heap hh]; rfl
     have g2:W1.cell? ⟨wr.heap.size,2,none⟩=some (.int .i64 pl):=by rw [Lib.cell_of_heap hh]; rfl
     go_wp2_with (go_at_call 118; refine (qk4 w1.heap.size w1.heap.size _ _ _ (Or.inr b1) ?z1 ?z2).mono ?_)
     case z1=>
      rw [List.length_append,Lib.byteCells_length,Lib.strCells_eq,Lib.byteCells_length,qef]
      show acc.length + pt.length + ((base.take (pf + pl).toNat).drop pf.toNat).toArray.size≤_
      rw [List.size_toArray,List.length_drop,List.length_take]; omega
     case z2=>have:=b2.size; simp at this; omega
     rintro e W2 ⟨rfl,c1,c2,k2⟩
     go_wp2
     go_roundw
     case rel=>
      refine ⟨k + 1,acc++pt++(base.take (pf + pl).toNat).drop pf.toNat,hlt,by go_num,?_,?_,hA⟩
      ·rw [qef] at c1
       rw [Lib.byteCells_append,Lib.byteCells_append]
       exact Or.inr c1
      ·exact ((hbw.alloc hbw.size _).trans b2).trans c2
     case measure=>simp [intOf]; omega
  ·have hke:k=l.length:=by omega
   rw [hke,List.drop_length] at hA
   have hA:z=(acc,true):=(Option.some.inj hA).symm
   subst hA
   go_wp2_with (go_at_call 119; refine (qBn w1.heap.size w1.heap.size acc _ hI hbw.size).mono ?_)
   rintro e W1 ⟨rfl,_,b1,_⟩
   go_wp2
   go_ret2
   have hb:=hbw.trans b1
   exact ⟨rfl,γ1,G1,(qjf h1 hb).1,h2.then (qjf h1 hb).2⟩
def qj9 (N:Nat):Ent:=smF ⟨94,[],[.x .s,.x (.sl 4 qG)],[],[]⟩ [.s,(.sl 4 qG)] (List UInt8×Bool) (fun x=>qcI N x.1 x.2.1) cs1 fun _ z=>(.tup [.tv .s z.1,xb z.2],[])
theorem qrY (N:Nat):zc Tryz.prog (qj9 N):=qdg fun x z h l=>by
 obtain ⟨a,ps,_⟩:=x
 have h:(JJ N ps).bind (fun m=>bif m then chk (ps.length≤1000000000) (qbX a ps []) else some ([],false))=some z:=h
 refine qzN (fn:=Tryz.f94) Tryz.func94 rfl (by kernel_rfl) (fun γ G w vas H ha=>?_) l
 have ha:zh [] γ G w [.pv (.s a),.pv (qw (.sl 4 qG) ps)] vas:=ha
 simp only [zh] at ha
 obtain ⟨c1,v1,r1,rfl,hc1,ho1,c2,v2,r2,rfl,hc2,ho2,rfl⟩:=ha
 have e2:c2=[v2]:=ho2
 have e1:c1=[v1]:=ho1
 subst e1; subst e2
 have hc1:[v1]=[.string ⟨a.toArray⟩]:=hc1
 obtain rfl:=(List.cons.inj hc1).1
 have hc2:qx G w (qw (.sl 4 qG) ps) [v2]:=hc2
 have fin:∀ {e:Ending} {w':World},(e=.returned (.tuple #[.string ⟨z.1.toArray⟩,.bool z.2])∧∃ γ' G',qB [] γ' G' w'∧Trans [] γ G w [] γ' G' w')→∃ v,e=.returned v∧∃ γ' G',qB [] γ' G' w'∧Trans [] γ G w [] γ' G' w'∧qC [] γ' G' w' (.tup [.pv (.s z.1),.pv (.b z.2)]) v:=by
  rintro e w' ⟨rfl,γ',G',h1,h2⟩
  exact ⟨_,rfl,γ',G',h1,h2,_,rfl,[.string ⟨z.1.toArray⟩],_,_,rfl,rfl,rfl,[.bool z.2],_,_,rfl,rfl,rfl,rfl⟩
 cases hm:JJ N ps with
 | none=>rw [hm] at h; cases h
 | some m=>
  rw [hm,Option.bind_some] at h
  cases m with
  | false=>
   have h:z=([],false):=(Option.some.inj h).symm
   subst h
   exact (qGh hm H hc2).mono fun e w' he=>fin he
  | true=>
   obtain ⟨hl,h⟩:=W9 h
   exact (qFH hm hl h H hc2).mono fun e w' he=>fin he
end Go.Rx
end
set_option maxRecDepth 100000
noncomputable section
namespace Go.Rx
open Go.Proofs
def qlx:List UInt8:=[0,1,2,2,3,3,3,3,4,4,4,4,4,4,4,4,5,5,5,5,5,5,5,5,5,5,5,5,5,5,5,5,6,6,6,6,6,6,6,6,6,6,6,6,6,6,6,6,6,6,6,6,6,6,6,6,6,6,6,6,6,6,6,6,7,7,7,7,7,7,7,7,7,7,7,7,7,7,7,7,7,7,7,7,7,7,7,7,7,7,7,7,7,7,7,7,7,7,7,7,7,7,7,7,7,7,7,7,7,7,7,7,7,7,7,7,7,7,7,7,7,7,7,7,7,7,7,7,8,8,8,8,8,8,8,8,8,8,8,8,8,8,8,8,8,8,8,8,8,8,8,8,8,8,8,8,8,8,8,8,8,8,8,8,8,8,8,8,8,8,8,8,8,8,8,8,8,8,8,8,8,8,8,8,8,8,8,8,8,8,8,8,8,8,8,8,8,8,8,8,8,8,8,8,8,8,8,8,8,8,8,8,8,8,8,8,8,8,8,8,8,8,8,8,8,8,8,8,8,8,8,8,8,8,8,8,8,8,8,8,8,8,8,8,8,8,8,8,8,8,8,8,8,8,8,8]
noncomputable def qoQ:Code:=Tryz.f64.body.getD .skip
theorem qHD:FnF Tryz.prog 64 Tryz.f64 qoQ:=⟨qk,by kernel_rfl,by kernel_rfl,by kernel_rfl⟩
def YP:TH:={ live:=[(0,[1]),(1,[1,7]),(2,[2]),(3,[1,3]),(4,[1,3,12]),(5,[1,3]),(6,[1,3,23]),(7,[2]),(8,[2])] }
def qdc (N:Nat):List Ent:=[]
theorem qbU (N:Nat):qT Tryz.prog (qdc N):=trivial
abbrev ZV:=qa
abbrev vH:=Unit⊕(Int×Bool)
def QG (f:ZV):vH→Ex×TSt
 | .inl y=>(.ret,⟨0,24,[],[(2,.bc false)],[],false,[]⟩)
 | .inr y=>(.exit 0,⟨0,24,[],[(1,.p 10 [] 0),(3,xi y.1),(12,xb y.2)],[(10,.cell false (.tv qh f))],false,[]⟩)
def qhx (N:Nat):List (Nat×qH):=[]
abbrev QL:=Int
def qaX:SP:=⟨0,24,[],[(1,.k (.p 10 [] 0)),(3,.x (.i .i64))],[(10,.cell false (.x qh))],false,[]⟩
def qh3 (f:ZV) (v:QL):TSt:=jq qaX [dv qh f,dv (.i .i64) v]
def Jf (N:Nat) (o_4:qa) (v:QL):Tree (QL⊕vH):=
 .cond (decide (v < (((qa.F o_4).length:Nat):Int))) (
 .bind (zn (qa.F o_4) v) fun e1=>
 .cond (decide (((300:Int)) < (((qd.V (qc.C e1)).length:Nat):Int))) (
 .ret (.inr (.inl ()))) <|
 .chk (qz (v + 1)) <|
 .ret (.inl (v + 1))) <|
 .ret (.inr (.inr ((v,decide (v < (((qa.F o_4).length:Nat):Int))))))
def qaT (N n:Nat) (f:ZV) (v:QL):Option vH:=q_ (Jf N f) some n v
theorem qhA (N:Nat) (f:ZV) (n:Nat) (v:QL) (y:vH) (h:qaT N n f v=some y):LG Tryz.prog YP 64 (zd qoQ 4) (qh3 f v) (QG f y):=
 zY qk (E:=qdc N) (L:=qR (qhx N)) (st:=QG f) (g:=some) (R:=QG f) (qbU N) (qu (by kernel_rfl) trivial) (rg0 (by kernel_rfl)) (fun v=>by kernel_rfl) (zl (st:=QG f) fun y=>by rcases y with _ | _<;>rfl) (js0 rfl) n v y h
def WJ (N:Nat) (o_4:qa) (s3_4:Int):Option vH:=qaT N N o_4 s3_4
def qaY (N:Nat):qH:=smL qaX [qh,(.i .i64)] vH (fun x=>WJ N x.1 x.2.1) (csS cs1) fun x=>QG x.1
theorem qhc (N:Nat):v8 Tryz.prog YP 64 (zd qoQ 4) (qaY N):=jw fun x z h=>qhA N x.1 N x.2.1 z h
def qlb (z:Bool):TV×THp:=(xb z,[])
def YA (N:Nat) (a0:qa):Tree (Bool):=
 .cond (decide (((12:Int)) < (((qa.F a0).length:Nat):Int))) (
 .ret false) <|
 .bind (WJ N a0 0) fun z1=>
 .sum z1 (fun z2=>
 .ret false) fun z2=>
 .ret true
def Qx (N:Nat) (a0:qa):Option (Bool):=(YA N a0).run some
def qmI (N:Nat):List (Nat×qH):=[(4,qaY N)]
def qdo (N:Nat):Ent:=smF ⟨64,[],[.x qh],[],[]⟩ [qh] (Bool) (fun x=>Qx N x.1) cs1 fun _=>qlb
theorem qkI (N:Nat):zc Tryz.prog (qdo N):=
 q8 (H:=YP) (L:=qR (qmI N)) (ts:=[qh]) (T:=fun x=>YA N x.1) 0 qHD (qbU N) (qu (by kernel_rfl) ⟨qhc N,trivial⟩) (rg0 (by kernel_rfl)) fun x=>by kernel_rfl
noncomputable def qpF:Code:=Tryz.f23.body.getD .skip
theorem qF3:FnF Tryz.prog 23 Tryz.f23 qpF:=⟨qk,by kernel_rfl,by kernel_rfl,by kernel_rfl⟩
def YR:TH:={ live:=[(0,[1]),(1,[1,8]),(2,[2]),(3,[1,3]),(4,[1,3,13]),(5,[1,3]),(6,[1,3,4]),(7,[1,3,23]),(8,[2]),(9,[2])] }
def qdk (N:Nat):List Ent:=[qdo N]
theorem qbL (N:Nat):qT Tryz.prog (qdk N):=⟨qkI N,trivial⟩
abbrev Z5:=qb
abbrev vJ:=Unit⊕(Int×Bool)
def QE (f:Z5):vJ→Ex×TSt
 | .inl y=>(.ret,⟨0,24,[],[(2,.bc false)],[],false,[]⟩)
 | .inr y=>(.exit 0,⟨0,24,[],[(1,.p 10 [] 0),(3,xi y.1),(13,xb y.2)],[(10,.cell false (.tv qL f))],false,[]⟩)
def qhL (N:Nat):List (Nat×qH):=[]
abbrev QD:=Int
def qa9:SP:=⟨0,24,[],[(1,.k (.p 10 [] 0)),(3,.x (.i .i64))],[(10,.cell false (.x qL))],false,[]⟩
def qhH (f:Z5) (v:QD):TSt:=jq qa9 [dv qL f,dv (.i .i64) v]
def ZW (N:Nat) (o_4:qb) (v:QD):Tree (QD⊕vJ):=
 .cond (decide (v < (((qb.R o_4).length:Nat):Int))) (
 .bind (zn (qb.R o_4) v) fun e1=>
 .bind (Qx N e1) fun r2=>
 .cond (!r2) (
 .ret (.inr (.inl ()))) <|
 .chk (qz (v + 1)) <|
 .ret (.inl (v + 1))) <|
 .ret (.inr (.inr ((v,decide (v < (((qb.R o_4).length:Nat):Int))))))
def qa_ (N n:Nat) (f:Z5) (v:QD):Option vJ:=q_ (ZW N f) some n v
theorem qhF (N:Nat) (f:Z5) (n:Nat) (v:QD) (y:vJ) (h:qa_ N n f v=some y):LG Tryz.prog YR 23 (zd qpF 4) (qhH f v) (QE f y):=
 zY qk (E:=qdk N) (L:=qR (qhL N)) (st:=QE f) (g:=some) (R:=QE f) (qbL N) (qu (by kernel_rfl) trivial) (rg0 (by kernel_rfl)) (fun v=>by kernel_rfl) (zl (st:=QE f) fun y=>by rcases y with _ | _<;>rfl) (js0 rfl) n v y h
def WO (N:Nat) (o_4:qb) (s3_4:Int):Option vJ:=qa_ N N o_4 s3_4
def qaO (N:Nat):qH:=smL qa9 [qL,(.i .i64)] vJ (fun x=>WO N x.1 x.2.1) (csS cs1) fun x=>QE x.1
theorem qgy (N:Nat):v8 Tryz.prog YR 23 (zd qpF 4) (qaO N):=jw fun x z h=>qhF N x.1 N x.2.1 z h
def qmo (z:Bool):TV×THp:=(xb z,[])
def YV (N:Nat) (a0:qb):Tree (Bool):=
 .cond (decide (((14:Int)) < (((qb.R a0).length:Nat):Int))) (
 .ret false) <|
 .bind (WO N a0 0) fun z1=>
 .sum z1 (fun z2=>
 .ret false) fun z2=>
 .ret true
def XY (N:Nat) (a0:qb):Option (Bool):=(YV N a0).run some
def qmk (N:Nat):List (Nat×qH):=[(4,qaO N)]
def qc9 (N:Nat):Ent:=smF ⟨23,[],[.x qL],[],[]⟩ [qL] (Bool) (fun x=>XY N x.1) cs1 fun _=>qmo
theorem qkK (N:Nat):zc Tryz.prog (qc9 N):=
 q8 (H:=YR) (L:=qR (qmk N)) (ts:=[qL]) (T:=fun x=>YV N x.1) 0 qF3 (qbL N) (qu (by kernel_rfl) ⟨qgy N,trivial⟩) (rg0 (by kernel_rfl)) fun x=>by kernel_rfl
noncomputable def qoK:Code:=Tryz.f12.body.getD .skip
theorem qGa:FnF Tryz.prog 12 Tryz.f12 qoK:=⟨qk,by kernel_rfl,by kernel_rfl,by kernel_rfl⟩
def Yi:TH:={ live:=[(0,[1]),(1,[1,13]),(2,[2]),(3,[1,3]),(4,[1,3,18]),(5,[1,3]),(6,[1,3,28]),(7,[2]),(8,[2])],dec:=[8] }
def qc5 (N:Nat):List Ent:=[]
theorem qbj (N:Nat):qT Tryz.prog (qc5 N):=trivial
abbrev Z_:=qe
abbrev vI:=Unit⊕(Int×Bool)
def QH (f:Z_):vI→Ex×TSt
 | .inl y=>(.ret,⟨0,29,[],[(2,.bc false)],[],false,[]⟩)
 | .inr y=>(.exit 0,⟨0,29,[],[(1,.p 10 [] 0),(3,xi y.1),(18,xb y.2)],[(10,.cell false (.tv zO f))],false,[]⟩)
def qhJ (N:Nat):List (Nat×qH):=[]
abbrev QK:=Int
def qaU:SP:=⟨0,29,[],[(1,.k (.p 10 [] 0)),(3,.x (.i .i64))],[(10,.cell false (.x zO))],false,[]⟩
def qhG (f:Z_) (v:QK):TSt:=jq qaU [dv zO f,dv (.i .i64) v]
def Z6 (N:Nat) (o_4:qe) (v:QK):Tree (QK⊕vI):=
 .cond (decide (v < (((qe.P o_4).length:Nat):Int))) (
 .bind (zn (qe.P o_4) v) fun e1=>
 .cond (decide (((300:Int)) < (((qg.Lit e1).length:Nat):Int))) (
 .ret (.inr (.inl ()))) <|
 .chk (qz (v + 1)) <|
 .ret (.inl (v + 1))) <|
 .ret (.inr (.inr ((v,decide (v < (((qe.P o_4).length:Nat):Int))))))
def qaN (N n:Nat) (f:Z_) (v:QK):Option vI:=q_ (Z6 N f) some n v
theorem qh8 (N:Nat) (f:Z_) (n:Nat) (v:QK) (y:vI) (h:qaN N n f v=some y):LG Tryz.prog Yi 12 (zd qoK 4) (qhG f v) (QH f y):=
 zY qk (E:=qc5 N) (L:=qR (qhJ N)) (st:=QH f) (g:=some) (R:=QH f) (qbj N) (qu (by kernel_rfl) trivial) (rg0 (by kernel_rfl)) (fun v=>by kernel_rfl) (zl (st:=QH f) fun y=>by rcases y with _ | _<;>rfl) (js0 rfl) n v y h
def WR (N:Nat) (o_4:qe) (s3_4:Int):Option vI:=qaN N N o_4 s3_4
def qa1 (N:Nat):qH:=smL qaU [zO,(.i .i64)] vI (fun x=>WR N x.1 x.2.1) (csS cs1) fun x=>QH x.1
theorem qgI (N:Nat):v8 Tryz.prog Yi 12 (zd qoK 4) (qa1 N):=jw fun x z h=>qh8 N x.1 N x.2.1 z h
def qkZ (z:Bool):TV×THp:=(xb z,[])
def ZP (N:Nat) (a0:qe):Tree (Bool):=
 .cond (decide (((80:Int)) < (((qe.P a0).length:Nat):Int))) (
 .ret false) <|
 .cond (decide (((300:Int)) < (((qe.V a0).length:Nat):Int))) (
 .ret false) <|
 .bind (WR N a0 0) fun z1=>
 .sum z1 (fun z2=>
 .ret false) fun z2=>
 .ret true
def Qz (N:Nat) (a0:qe):Option (Bool):=(ZP N a0).run some
def qk0 (N:Nat):List (Nat×qH):=[(4,qa1 N)]
def qdb (N:Nat):Ent:=smF ⟨12,[],[.x zO],[],[]⟩ [zO] (Bool) (fun x=>Qz N x.1) cs1 fun _=>qkZ
theorem qkL (N:Nat):zc Tryz.prog (qdb N):=
 q8 (H:=Yi) (L:=qR (qk0 N)) (ts:=[zO]) (T:=fun x=>ZP N x.1) 0 qGa (qbj N) (qu (by kernel_rfl) ⟨qgI N,trivial⟩) (rg0 (by kernel_rfl)) fun x=>by kernel_rfl
noncomputable def qF5:Code:=Tryz.f60.body.getD .skip
theorem qG7:FnF Tryz.prog 60 Tryz.f60 qF5:=⟨qk,by kernel_rfl,by kernel_rfl,by kernel_rfl⟩
def qzn:TH:={ live:=[(0,[1]),(1,[2])],dec:=[6,10,15,20] }
def qzB (N:Nat):List Ent:=[]
theorem quJ (N:Nat):qT Tryz.prog (qzB N):=trivial
def qyH (z:Bool):TV×THp:=(xb z,[])
def qgt (a0:qf):Tree (Bool):=
 .cond (eqE qn a0 (qf.mk 0 0)) (
 .ret true) <|
 .cond (decide (((0:Int)) < (qf.N a0))) (
 .cond (decide ((qf.N a0)≤((1099511627776:Int)))) (
 .cond (decide (((0:Int))≤(qf.Rep a0))) (
 .ret (decide ((qf.Rep a0) < ((8:Int))))) <|
 .ret false) <|
 .ret false) <|
 .ret false
def YH (a0:qf):Option (Bool):=(qgt a0).run some
def qyT:List (Nat×qH):=[]
def K3:Ent:=smF ⟨60,[],[.x qn],[],[]⟩ [qn] (Bool) (fun x=>YH x.1) cs1 fun _=>qyH
theorem qbY:zc Tryz.prog (K3):=
 q8 (H:=qzn) (L:=qR (qyT)) (ts:=[qn]) (T:=fun x=>qgt x.1) 0 qG7 (quJ 0) (qu (by kernel_rfl) trivial) (rg0 (by kernel_rfl)) fun x=>by kernel_rfl
noncomputable def qDG:Code:=Tryz.f108.body.getD .skip
theorem qFb:FnF Tryz.prog 108 Tryz.f108 qDG:=⟨qk,by kernel_rfl,by kernel_rfl,by kernel_rfl⟩
def qCB:TH:={ live:=[(0,[1]),(1,[2])],dec:=[7,12] }
def qBP (N:Nat):List Ent:=[K3]
theorem qw9 (N:Nat):qT Tryz.prog (qBP N):=⟨qbY,trivial⟩
def qCX (z:Bool):TV×THp:=(xb z,[])
def qjs (a0:qd):Tree (Bool):=
 .cond (!(eqE qn (qd.S a0) (qf.mk 0 0))) (
 .bind (YH (qd.S a0)) fun r1=>
 .cond r1 (
 .ret (decide ((((qd.V a0).length:Nat):Int)≤((200:Int))))) <|
 .ret false) <|
 .ret false
def qaH (a0:qd):Option (Bool):=(qjs a0).run some
def qCK:List (Nat×qH):=[]
def qrb:Ent:=smF ⟨108,[],[.x qq],[],[]⟩ [qq] (Bool) (fun x=>qaH x.1) cs1 fun _=>qCX
theorem qyA:zc Tryz.prog (qrb):=
 q8 (H:=qCB) (L:=qR (qCK)) (ts:=[qq]) (T:=fun x=>qjs x.1) 0 qFb (qw9 0) (qu (by kernel_rfl) trivial) (rg0 (by kernel_rfl)) fun x=>by kernel_rfl
noncomputable def qFc:Code:=Tryz.f143.body.getD .skip
theorem qDD:FnF Tryz.prog 143 Tryz.f143 qFc:=⟨qk,by kernel_rfl,by kernel_rfl,by kernel_rfl⟩
def qru:TH:={ live:=[(0,[0]),(1,[2])] }
def qp8 (N:Nat):List Ent:=[]
theorem qnw (N:Nat):qT Tryz.prog (qp8 N):=trivial
def qrq (a0:Int) (z:Unit):TV×THp:=(xb (!decide (a0=a0)),[])
def qbq (a0:Int):Tree (Unit):=
 .ret ()
def qag (a0:Int):Option (Unit):=(qbq a0).run some
def qqI:List (Nat×qH):=[]
def qgd:Ent:=smF ⟨143,[],[.x (.i .i64)],[],[]⟩ [(.i .i64)] (Unit) (fun x=>qag x.1) cs1 fun x=>qrq x.1
theorem qph:zc Tryz.prog (qgd):=
 q8 (H:=qru) (L:=qR (qqI)) (ts:=[(.i .i64)]) (T:=fun x=>qbq x.1) 0 qDD (qnw 0) (qu (by kernel_rfl) trivial) (rg0 (by kernel_rfl)) fun x=>by kernel_rfl
noncomputable def qEb:Code:=Tryz.f127.body.getD .skip
theorem qD9:FnF Tryz.prog 127 Tryz.f127 qEb:=⟨qk,by kernel_rfl,by kernel_rfl,by kernel_rfl⟩
def qnB:TH:={ live:=[(0,[0,1]),(1,[0,1,5]),(2,[0,1,5,6]),(3,[0,1,6,11]),(4,[12]),(5,[4]),(6,[4]),(7,[0,1,13]),(8,[4]),(9,[0,1,16]),(10,[4]),(11,[19]),(12,[4]),(13,[4])] }
def qnR (N:Nat):List Ent:=[qgd]
theorem qkO (N:Nat):qT Tryz.prog (qnR N):=⟨qph,trivial⟩
def qnW (z:Int):TV×THp:=(xi z,[])
def KF (a0:Int) (a1:Int):Tree (Int):=
 .bind (qag a0) fun r1=>
 .bind (qag a1) fun r2=>
 .cond (!decide (a0=a0)) (
 .cond (!decide (a1=a1)) (
 .ret 0) <|
 .ret (-1)) <|
 .cond (!decide (a1=a1)) (
 .ret 1) <|
 .cond (decide (a0 < a1)) (
 .ret (-1)) <|
 .cond (decide (a1 < a0)) (
 .ret 1) <|
 .ret 0
def Vs (a0:Int) (a1:Int):Option (Int):=(KF a0 a1).run some
def qnL:List (Nat×qH):=[]
def qdU:Ent:=smF ⟨127,[],[.x (.i .i64),.x (.i .i64)],[],[]⟩ [(.i .i64),(.i .i64)] (Int) (fun x=>Vs x.1 x.2.1) cs1 fun _=>qnW
theorem qlT:zc Tryz.prog (qdU):=
 q8 (H:=qnB) (L:=qR (qnL)) (ts:=[(.i .i64),(.i .i64)]) (T:=fun x=>KF x.1 x.2.1) 0 qD9 (qkO 0) (qu (by kernel_rfl) trivial) (rg0 (by kernel_rfl)) fun x=>by kernel_rfl
noncomputable def qlA:Code:=Tryz.f126.body.getD .skip
theorem qFn:FnF Tryz.prog 126 Tryz.f126 qlA:=⟨qk,by kernel_rfl,by kernel_rfl,by kernel_rfl⟩
def qeE:TH:={ live:=[(0,[0]),(1,[0,3]),(2,[3,6,7,8]),(3,[3,6,7,8,9]),(4,[3,5,6,7,8]),(5,[3,5,6,7,8,14]),(6,[2]),(7,[3,6,7,8]),(8,[2])] }
def qmx (N:Nat):List Ent:=[]
theorem qib (N:Nat):qT Tryz.prog (qmx N):=trivial
abbrev WY:=List Int×Int
abbrev Jb:=Int⊕(Int×Bool)
def Vk (f:WY):Jb→Ex×TSt
 | .inl y=>(.ret,⟨0,18,[],[(2,xi y)],[],false,[]⟩)
 | .inr y=>(.exit 0,⟨0,18,[],[(3,.ic .i64 0),(6,.tv (.sl 1 (.i .i64)) f.1),(7,xi f.2),(8,xi y.1),(9,xb y.2)],[],false,[]⟩)
def qrt (N:Nat):List (Nat×qH):=[]
abbrev Vz:=Int
def qgl:SP:=⟨0,18,[],[(3,.k (.ic .i64 0)),(6,.x (.sl 1 (.i .i64))),(7,.x (.i .i64)),(8,.x (.i .i64))],[],false,[]⟩
def qqj (f:WY) (v:Vz):TSt:=jq qgl [dv (.sl 1 (.i .i64)) f.1,dv (.i .i64) f.2,dv (.i .i64) v]
def Q4 (N:Nat) (s6_3:List Int) (s7_3:Int) (v:Vz):Tree (Vz⊕Jb):=
 .cond (decide (v < s7_3)) (
 .bind (zn s6_3 v) fun e1=>
 .cond (!decide (e1=((0:Int)))) (
 .ret (.inr (.inl e1))) <|
 .chk (qz (v + 1)) <|
 .ret (.inl (v + 1))) <|
 .ret (.inr (.inr ((v,decide (v < s7_3)))))
def qf2 (N n:Nat) (f:WY) (v:Vz):Option Jb:=q_ (Q4 N f.1 f.2) some n v
theorem qri (N:Nat) (f:WY) (n:Nat) (v:Vz) (y:Jb) (h:qf2 N n f v=some y):LG Tryz.prog qeE 126 (zd qlA 3) (qqj f v) (Vk f y):=
 zY qk (E:=qmx N) (L:=qR (qrt N)) (st:=Vk f) (g:=some) (R:=Vk f) (qib N) (qu (by kernel_rfl) trivial) (rg0 (by kernel_rfl)) (fun v=>by kernel_rfl) (zl (st:=Vk f) fun y=>by rcases y with _ | _<;>rfl) (js0 rfl) n v y h
def qds (N:Nat) (s6_3:List Int) (s7_3:Int) (s8_3:Int):Option Jb:=qf2 N N (s6_3,s7_3) s8_3
def qfW (N:Nat):qH:=smL qgl [(.sl 1 (.i .i64)),(.i .i64),(.i .i64)] Jb (fun x=>qds N x.1 x.2.1 x.2.2.1) (csS cs1) fun x=>Vk (x.1,x.2.1)
theorem qo4 (N:Nat):v8 Tryz.prog qeE 126 (zd qlA 3) (qfW N):=jw fun x z h=>qri N (x.1,x.2.1) N x.2.2.1 z h
def qxW (z:Int):TV×THp:=(xi z,[])
def qe4 (N:Nat) (a0:List Int):Tree (Int):=
 .bind (qds N a0 ((a0.length:Nat):Int) 0) fun z1=>
 .sum z1 (fun z2=>
 .ret z2) fun z2=>
 .ret 0
def qbZ (N:Nat) (a0:List Int):Option (Int):=(qe4 N a0).run some
def qyh (N:Nat):List (Nat×qH):=[(3,qfW N)]
def ql5 (N:Nat):Ent:=smF ⟨126,[],[.x (.sl 1 (.i .i64))],[],[]⟩ [(.sl 1 (.i .i64))] (Int) (fun x=>qbZ N x.1) cs1 fun _=>qxW
theorem quf (N:Nat):zc Tryz.prog (ql5 N):=
 q8 (H:=qeE) (L:=qR (qyh N)) (ts:=[(.sl 1 (.i .i64))]) (T:=fun x=>qe4 N x.1) 0 qFn (qib N) (qu (by kernel_rfl) ⟨qo4 N,trivial⟩) (rg0 (by kernel_rfl)) fun x=>by kernel_rfl
noncomputable def qFe:Code:=Tryz.f109.body.getD .skip
theorem qC8:FnF Tryz.prog 109 Tryz.f109 qFe:=⟨qk,by kernel_rfl,by kernel_rfl,by kernel_rfl⟩
def qxy:TH:={ live:=[(0,[2,3]),(1,[4])],dec:=[8] }
def qvJ (N:Nat):List Ent:=[qdU,ql5 N]
theorem qss (N:Nat):qT Tryz.prog (qvJ N):=⟨qlT,quf N,trivial⟩
def qyf (z:Bool):TV×THp:=(xb z,[])
def qe8 (N:Nat) (a0:qf) (a1:qf):Tree (Bool):=
 .cond (!(eqE qn a0 a1)) (
 .bind (Vs (qf.N a0) (qf.N a1)) fun r1=>
 .bind (Vs (qf.Rep a0) (qf.Rep a1)) fun r2=>
 .bind (qbZ N [r1,r2]) fun r3=>
 .ret (decide (r3 < ((0:Int))))) <|
 .ret false
def QY (N:Nat) (a0:qf) (a1:qf):Option (Bool):=(qe8 N a0 a1).run some
def qv0 (N:Nat):List (Nat×qH):=[]
def Yk (N:Nat):Ent:=smF ⟨109,[],[.x qn,.x qn],[],[]⟩ [qn,qn] (Bool) (fun x=>QY N x.1 x.2.1) cs1 fun _=>qyf
theorem qak (N:Nat):zc Tryz.prog (Yk N):=
 q8 (H:=qxy) (L:=qR (qv0 N)) (ts:=[qn,qn]) (T:=fun x=>qe8 N x.1 x.2.1) 0 qC8 (qss N) (qu (by kernel_rfl) trivial) (rg0 (by kernel_rfl)) fun x=>by kernel_rfl
noncomputable def qpk:Code:=Tryz.f79.body.getD .skip
theorem qH6:FnF Tryz.prog 79 Tryz.f79 qpk:=⟨qk,by kernel_rfl,by kernel_rfl,by kernel_rfl⟩
def qmP:TH:={ live:=[(0,[1]),(1,[1,21]),(2,[2]),(3,[1,23,24,25]),(4,[1,23,24,25,26]),(5,[1,3,4,23,24,25]),(6,[1,4,5,23,24,25]),(7,[1,23,24,25,74]),(8,[2]),(9,[1,23,24,25]),(10,[2])],dec:=[10,15,32,37,40,55,60,66] }
def qto (N:Nat):List Ent:=[K3,qrb,Yk N]
theorem qn_ (N:Nat):qT Tryz.prog (qto N):=⟨qbY,qyA,qak N,trivial⟩
abbrev qbF:=qa×List qc×Int
abbrev Xw:=Unit⊕(Int×Bool)
def Yu (f:qbF):Xw→Ex×TSt
 | .inl y=>(.ret,⟨0,76,[],[(2,.bc false)],[],false,[]⟩)
 | .inr y=>(.exit 0,⟨0,76,[],[(1,.p 10 [] 0),(23,.tv (.sl 4 qp) f.2.1),(24,xi f.2.2),(25,xi y.1),(26,xb y.2)],[(10,.cell false (.tv qh f.1))],false,[]⟩)
def qxh (N:Nat):List (Nat×qH):=[]
abbrev Yb:=Int
def qmK:SP:=⟨0,76,[],[(1,.k (.p 10 [] 0)),(23,.x (.sl 4 qp)),(24,.x (.i .i64)),(25,.x (.i .i64))],[(10,.cell false (.x qh))],false,[]⟩
def qx0 (f:qbF) (v:Yb):TSt:=jq qmK [dv qh f.1,dv (.sl 4 qp) f.2.1,dv (.i .i64) f.2.2,dv (.i .i64) v]
def qbl (N:Nat) (o_4:qa) (s23_4:List qc) (s24_4:Int) (v:Yb):Tree (Yb⊕Xw):=
 .cond (decide (v < s24_4)) (
 .bind (zn s23_4 v) fun e1=>
 .cond (decide (v=((0:Int)))) (
 .cond (decide (((0:Int))≤(qc.No e1))) (
 .cond (decide (((8:Int))≤(qc.No e1))) (
 .ret (.inr (.inl ()))) <|
 .bind (qaH (qc.C e1)) fun r2=>
 .cond (!r2) (
 .ret (.inr (.inl ()))) <|
 .bind (QY N (qa.qX o_4) (qd.S (qc.C e1))) fun r3=>
 .cond (!r3) (
 .ret (.inr (.inl ()))) <|
 .chk (qz (v + 1)) <|
 .ret (.inl (v + 1))) <|
 .cond (decide (((0:Int)) < v)) (
 .chk (qz (v - 1)) <|
 .bind (zn (qa.F o_4) (v - 1)) fun e2=>
 .cond (!(decide ((qc.No e2) < (qc.No e1)))) (
 .ret (.inr (.inl ()))) <|
 .cond (decide (((8:Int))≤(qc.No e1))) (
 .ret (.inr (.inl ()))) <|
 .bind (qaH (qc.C e1)) fun r3=>
 .cond (!r3) (
 .ret (.inr (.inl ()))) <|
 .bind (QY N (qa.qX o_4) (qd.S (qc.C e1))) fun r4=>
 .cond (!r4) (
 .ret (.inr (.inl ()))) <|
 .chk (qz (v + 1)) <|
 .ret (.inl (v + 1))) <|
 .ret (.inr (.inl ()))) <|
 .cond (decide (((0:Int)) < v)) (
 .chk (qz (v - 1)) <|
 .bind (zn (qa.F o_4) (v - 1)) fun e2=>
 .cond (!(decide ((qc.No e2) < (qc.No e1)))) (
 .ret (.inr (.inl ()))) <|
 .cond (decide (((8:Int))≤(qc.No e1))) (
 .ret (.inr (.inl ()))) <|
 .bind (qaH (qc.C e1)) fun r3=>
 .cond (!r3) (
 .ret (.inr (.inl ()))) <|
 .bind (QY N (qa.qX o_4) (qd.S (qc.C e1))) fun r4=>
 .cond (!r4) (
 .ret (.inr (.inl ()))) <|
 .chk (qz (v + 1)) <|
 .ret (.inl (v + 1))) <|
 .ret (.inr (.inl ()))) <|
 .ret (.inr (.inr ((v,decide (v < s24_4)))))
def qlX (N n:Nat) (f:qbF) (v:Yb):Option Xw:=q_ (qbl N f.1 f.2.1 f.2.2) some n v
theorem qwh (N:Nat) (f:qbF) (n:Nat) (v:Yb) (y:Xw) (h:qlX N n f v=some y):LG Tryz.prog qmP 79 (zd qpk 4) (qx0 f v) (Yu f y):=
 zY qk (E:=qto N) (L:=qR (qxh N)) (st:=Yu f) (g:=some) (R:=Yu f) (qn_ N) (qu (by kernel_rfl) trivial) (rg0 (by kernel_rfl)) (fun v=>by kernel_rfl) (zl (st:=Yu f) fun y=>by rcases y with _ | _<;>rfl) (js0 rfl) n v y h
def qei (N:Nat) (o_4:qa) (s23_4:List qc) (s24_4:Int) (s25_4:Int):Option Xw:=qlX N N (o_4,s23_4,s24_4) s25_4
def qmy (N:Nat):qH:=smL qmK [qh,(.sl 4 qp),(.i .i64),(.i .i64)] Xw (fun x=>qei N x.1 x.2.1 x.2.2.1 x.2.2.2.1) (csS cs1) fun x=>Yu (x.1,x.2.1,x.2.2.1)
theorem qui (N:Nat):v8 Tryz.prog qmP 79 (zd qpk 4) (qmy N):=jw fun x z h=>qwh N (x.1,x.2.1,x.2.2.1) N x.2.2.2.1 z h
def qDn (z:Bool):TV×THp:=(xb z,[])
def qmA (N:Nat) (a0:qa):Tree (Bool):=
 .bind (YH (qa.qX a0)) fun r1=>
 .cond (!r1) (
 .ret false) <|
 .cond (decide ((((qa.F a0).length:Nat):Int)=((0:Int)))) (
 .cond (eqE qn (qa.qX a0) (qf.mk 0 0)) (
 .ret false) <|
 .bind (qei N a0 (qa.F a0) (((qa.F a0).length:Nat):Int) 0) fun z2=>
 .sum z2 (fun z3=>
 .ret false) fun z3=>
 .ret true) <|
 .bind (qei N a0 (qa.F a0) (((qa.F a0).length:Nat):Int) 0) fun z2=>
 .sum z2 (fun z3=>
 .ret false) fun z3=>
 .ret true
def qcv (N:Nat) (a0:qa):Option (Bool):=(qmA N a0).run some
def qFa (N:Nat):List (Nat×qH):=[(4,qmy N)]
def qfM (N:Nat):Ent:=smF ⟨79,[],[.x qh],[],[]⟩ [qh] (Bool) (fun x=>qcv N x.1) cs1 fun _=>qDn
theorem qix (N:Nat):zc Tryz.prog (qfM N):=
 q8 (H:=qmP) (L:=qR (qFa N)) (ts:=[qh]) (T:=fun x=>qmA N x.1) 0 qH6 (qn_ N) (qu (by kernel_rfl) ⟨qui N,trivial⟩) (rg0 (by kernel_rfl)) fun x=>by kernel_rfl
noncomputable def qEg:Code:=Tryz.f110.body.getD .skip
theorem qDc:FnF Tryz.prog 110 Tryz.f110 qEg:=⟨qk,by kernel_rfl,by kernel_rfl,by kernel_rfl⟩
def qrH:TH:={ live:=[(0,[0,1]),(1,[4])] }
def qrw (N:Nat):List Ent:=[qqv]
theorem qnV (N:Nat):qT Tryz.prog (qrw N):=⟨qz5,trivial⟩
def qq2 (z:Int):TV×THp:=(xi z,[])
def qbw (a0:List UInt8) (a1:List UInt8):Tree (Int):=
 .bind (qGe a0 a1) fun r1=>
 .ret r1
def Wq (a0:List UInt8) (a1:List UInt8):Option (Int):=(qbw a0 a1).run some
def qrE:List (Nat×qH):=[]
def WV:Ent:=smF ⟨110,[],[.x .bl,.x .bl],[],[]⟩ [.bl,.bl] (Int) (fun x=>Wq x.1 x.2.1) cs1 fun _=>qq2
theorem qas:zc Tryz.prog (WV):=
 q8 (H:=qrH) (L:=qR (qrE)) (ts:=[.bl,.bl]) (T:=fun x=>qbw x.1 x.2.1) 0 qDc (qnV 0) (qu (by kernel_rfl) trivial) (rg0 (by kernel_rfl)) fun x=>by kernel_rfl
noncomputable def qHI:Code:=Tryz.f80.body.getD .skip
theorem qGZ:FnF Tryz.prog 80 Tryz.f80 qHI:=⟨qk,by kernel_rfl,by kernel_rfl,by kernel_rfl⟩
def qzF:TH:={ live:=[(0,[2,3]),(1,[4])],dec:=[8] }
def qzE (N:Nat):List Ent:=[WV]
theorem qu6 (N:Nat):qT Tryz.prog (qzE N):=⟨qas,trivial⟩
def qzC (z:Bool):TV×THp:=(xb z,[])
def qg2 (a0:Vector UInt8 16) (a1:Vector UInt8 16):Tree (Bool):=
 .cond (!(eqE (.ba 16) a0 a1)) (
 .bind (Wq a0.toList a1.toList) fun r1=>
 .ret (decide (r1 < ((0:Int))))) <|
 .ret false
def qfQ (a0:Vector UInt8 16) (a1:Vector UInt8 16):Option (Bool):=(qg2 a0 a1).run some
def qy5:List (Nat×qH):=[]
def qox:Ent:=smF ⟨80,[],[.x (.ba 16),.x (.ba 16)],[],[]⟩ [(.ba 16),(.ba 16)] (Bool) (fun x=>qfQ x.1 x.2.1) cs1 fun _=>qzC
theorem qxE:zc Tryz.prog (qox):=
 q8 (H:=qzF) (L:=qR (qy5)) (ts:=[(.ba 16),(.ba 16)]) (T:=fun x=>qg2 x.1 x.2.1) 0 qGZ (qu6 0) (qu (by kernel_rfl) trivial) (rg0 (by kernel_rfl)) fun x=>by kernel_rfl
noncomputable def qpd:Code:=Tryz.f30.body.getD .skip
theorem qGs:FnF Tryz.prog 30 Tryz.f30 qpd:=⟨qk,by kernel_rfl,by kernel_rfl,by kernel_rfl⟩
def qiT:TH:={ live:=[(0,[1]),(1,[1,6,7,8]),(2,[1,6,7,8,9]),(3,[1,3,4,6,7,8]),(4,[1,6,7,8,32]),(5,[2]),(6,[1,6,7,8]),(7,[2])],dec:=[16,19] }
def qqP (N:Nat):List Ent:=[qfM N,qox]
theorem ql6 (N:Nat):qT Tryz.prog (qqP N):=⟨qix N,qxE,trivial⟩
abbrev qaa:=qb×List qa×Int
abbrev Vg:=Unit⊕(Int×Bool)
def Wm (f:qaa):Vg→Ex×TSt
 | .inl y=>(.ret,⟨0,38,[],[(2,.bc false)],[],false,[]⟩)
 | .inr y=>(.exit 0,⟨0,38,[],[(1,.p 10 [] 0),(6,.tv (.sl 19 qh) f.2.1),(7,xi f.2.2),(8,xi y.1),(9,xb y.2)],[(10,.cell false (.tv qL f.1))],false,[]⟩)
def qu_ (N:Nat):List (Nat×qH):=[]
abbrev Wk:=Int
def qj0:SP:=⟨0,38,[],[(1,.k (.p 10 [] 0)),(6,.x (.sl 19 qh)),(7,.x (.i .i64)),(8,.x (.i .i64))],[(10,.cell false (.x qL))],false,[]⟩
def quI (f:qaa) (v:Wk):TSt:=jq qj0 [dv qL f.1,dv (.sl 19 qh) f.2.1,dv (.i .i64) f.2.2,dv (.i .i64) v]
def qah (N:Nat) (o_2:qb) (s6_2:List qa) (s7_2:Int) (v:Wk):Tree (Wk⊕Vg):=
 .cond (decide (v < s7_2)) (
 .bind (zn s6_2 v) fun e1=>
 .bind (qcv N e1) fun r2=>
 .cond (!r2) (
 .ret (.inr (.inl ()))) <|
 .cond (decide (((0:Int)) < v)) (
 .chk (qz (v - 1)) <|
 .bind (zn (qb.R o_2) (v - 1)) fun e3=>
 .bind (qfQ (qa.ID e3) (qa.ID e1)) fun r4=>
 .cond (!r4) (
 .ret (.inr (.inl ()))) <|
 .chk (qz (v + 1)) <|
 .ret (.inl (v + 1))) <|
 .chk (qz (v + 1)) <|
 .ret (.inl (v + 1))) <|
 .ret (.inr (.inr ((v,decide (v < s7_2)))))
def qj_ (N n:Nat) (f:qaa) (v:Wk):Option Vg:=q_ (qah N f.1 f.2.1 f.2.2) some n v
theorem qu0 (N:Nat) (f:qaa) (n:Nat) (v:Wk) (y:Vg) (h:qj_ N n f v=some y):LG Tryz.prog qiT 30 (zd qpd 2) (quI f v) (Wm f y):=
 zY qk (E:=qqP N) (L:=qR (qu_ N)) (st:=Wm f) (g:=some) (R:=Wm f) (ql6 N) (qu (by kernel_rfl) trivial) (rg0 (by kernel_rfl)) (fun v=>by kernel_rfl) (zl (st:=Wm f) fun y=>by rcases y with _ | _<;>rfl) (js0 rfl) n v y h
def qhq (N:Nat) (o_2:qb) (s6_2:List qa) (s7_2:Int) (s8_2:Int):Option Vg:=qj_ N N (o_2,s6_2,s7_2) s8_2
def qj2 (N:Nat):qH:=smL qj0 [qL,(.sl 19 qh),(.i .i64),(.i .i64)] Vg (fun x=>qhq N x.1 x.2.1 x.2.2.1 x.2.2.2.1) (csS cs1) fun x=>Wm (x.1,x.2.1,x.2.2.1)
theorem qst (N:Nat):v8 Tryz.prog qiT 30 (zd qpd 2) (qj2 N):=jw fun x z h=>qu0 N (x.1,x.2.1,x.2.2.1) N x.2.2.2.1 z h
def qBI (z:Bool):TV×THp:=(xb z,[])
def qjh (N:Nat) (a0:qb):Tree (Bool):=
 .bind (qhq N a0 (qb.R a0) (((qb.R a0).length:Nat):Int) 0) fun z1=>
 .sum z1 (fun z2=>
 .ret false) fun z2=>
 .ret (decide ((((qb.R a0).length:Nat):Int)≤((10:Int))))
def JZ (N:Nat) (a0:qb):Option (Bool):=(qjh N a0).run some
def qCe (N:Nat):List (Nat×qH):=[(2,qj2 N)]
def qbT (N:Nat):Ent:=smF ⟨30,[],[.x qL],[],[]⟩ [qL] (Bool) (fun x=>JZ N x.1) cs1 fun _=>qBI
theorem qcF (N:Nat):zc Tryz.prog (qbT N):=
 q8 (H:=qiT) (L:=qR (qCe N)) (ts:=[qL]) (T:=fun x=>qjh N x.1) 0 qGs (ql6 N) (qu (by kernel_rfl) ⟨qst N,trivial⟩) (rg0 (by kernel_rfl)) fun x=>by kernel_rfl
noncomputable def qFR:Code:=Tryz.f59.body.getD .skip
theorem qG9:FnF Tryz.prog 59 Tryz.f59 qFR:=⟨qk,by kernel_rfl,by kernel_rfl,by kernel_rfl⟩
def qDN:TH:={ live:=[(0,[1,2]),(1,[1,2,3]),(2,[1,2,3,12]),(3,[1,2,3,12,13]),(4,[2,3]),(5,[1,2,3,12,21]),(6,[2,3]),(7,[1,2,3,35]),(8,[2,3]),(9,[2])] }
def qFD (N:Nat):List Ent:=[]
theorem qzo (N:Nat):qT Tryz.prog (qFD N):=trivial
def qFx (z:qe):TV×THp:=(.tv zO z,[])
def qma (a0:qe):Tree (qe):=
 .cond (decide ((qe.Kind a0)=((1:Int)))) (
 .ret (qe.mk (qe.Kind a0) (qe.ID a0) (qe.S a0) (qe.No a0) (qe.V a0) [] ((Vector.replicate 16 0)) 0 ((Vector.replicate 32 0)))) <|
 .cond (decide ((qe.Kind a0)=((2:Int)))) (
 .ret (qe.mk (qe.Kind a0) (qe.ID a0) (qe.S a0) (qe.No a0) [] [] (qe.jA a0) (qe.Jt a0) (qe.D a0))) <|
 .cond (decide ((qe.Kind a0)=((3:Int)))) (
 .ret (qe.mk (qe.Kind a0) (qe.ID a0) (qe.S a0) (qe.No a0) [] (qe.P a0) ((Vector.replicate 16 0)) 0 (qe.D a0))) <|
 .ret (qe.mk (qe.Kind a0) (qe.ID a0) (qe.S a0) 0 [] [] ((Vector.replicate 16 0)) 0 ((Vector.replicate 32 0)))
def qnd (a0:qe):Option (qe):=(qma a0).run some
def qDd:List (Nat×qH):=[]
def qt0:Ent:=smF ⟨59,[],[.x zO],[],[]⟩ [zO] (qe) (fun x=>qnd x.1) cs1 fun _=>qFx
theorem qBT:zc Tryz.prog (qt0):=
 q8 (H:=qDN) (L:=qR (qDd)) (ts:=[zO]) (T:=fun x=>qma x.1) 0 qG9 (qzo 0) (qu (by kernel_rfl) trivial) (rg0 (by kernel_rfl)) fun x=>by kernel_rfl
noncomputable def qpv:Code:=Tryz.f91.body.getD .skip
theorem qGQ:FnF Tryz.prog 91 Tryz.f91 qpv:=⟨qk,by kernel_rfl,by kernel_rfl,by kernel_rfl⟩
def X9:TH:={ live:=[(0,[0,1]),(1,[0,1,10]),(2,[4]),(3,[0,1,12,13]),(4,[0,1,12,13,14]),(5,[0,1,5,12,13]),(6,[0,1,12,13,24]),(7,[4]),(8,[0,1,12,13]),(9,[4])] }
def qbx (N:Nat):List Ent:=[]
theorem KU (N:Nat):qT Tryz.prog (qbx N):=trivial
abbrev Zp:=List qg×List qg×Int
abbrev jZ:=Unit⊕(Int×Bool)
def vX (f:Zp):jZ→Ex×TSt
 | .inl y=>(.ret,⟨0,26,[],[(4,.bc false)],[],false,[]⟩)
 | .inr y=>(.exit 0,⟨0,26,[],[(0,.tv (.sl 4 qG) f.1),(1,.tv (.sl 4 qG) f.2.1),(12,xi f.2.2),(13,xi y.1),(14,xb y.2)],[],false,[]⟩)
def qfF (N:Nat):List (Nat×qH):=[]
abbrev vW:=Int
def KA:SP:=⟨0,26,[],[(0,.x (.sl 4 qG)),(1,.x (.sl 4 qG)),(12,.x (.i .i64)),(13,.x (.i .i64))],[],false,[]⟩
def qfH (f:Zp) (v:vW):TSt:=jq KA [dv (.sl 4 qG) f.1,dv (.sl 4 qG) f.2.1,dv (.i .i64) f.2.2,dv (.i .i64) v]
def Zk (N:Nat) (s0_4:List qg) (s1_4:List qg) (s12_4:Int) (v:vW):Tree (vW⊕jZ):=
 .cond (decide (v < s12_4)) (
 .bind (zn s0_4 v) fun e1=>
 .bind (zn s1_4 v) fun e2=>
 .cond (!(eqE qG e1 e2)) (
 .ret (.inr (.inl ()))) <|
 .chk (qz (v + 1)) <|
 .ret (.inl (v + 1))) <|
 .ret (.inr (.inr ((v,decide (v < s12_4)))))
def Kv (N n:Nat) (f:Zp) (v:vW):Option jZ:=q_ (Zk N f.1 f.2.1 f.2.2) some n v
theorem qfG (N:Nat) (f:Zp) (n:Nat) (v:vW) (y:jZ) (h:Kv N n f v=some y):LG Tryz.prog X9 91 (zd qpv 4) (qfH f v) (vX f y):=
 zY qk (E:=qbx N) (L:=qR (qfF N)) (st:=vX f) (g:=some) (R:=vX f) (KU N) (qu (by kernel_rfl) trivial) (rg0 (by kernel_rfl)) (fun v=>by kernel_rfl) (zl (st:=vX f) fun y=>by rcases y with _ | _<;>rfl) (js0 rfl) n v y h
def Xr (N:Nat) (s0_4:List qg) (s1_4:List qg) (s12_4:Int) (s13_4:Int):Option jZ:=Kv N N (s0_4,s1_4,s12_4) s13_4
def Kr (N:Nat):qH:=smL KA [(.sl 4 qG),(.sl 4 qG),(.i .i64),(.i .i64)] jZ (fun x=>Xr N x.1 x.2.1 x.2.2.1 x.2.2.2.1) (csS cs1) fun x=>vX (x.1,x.2.1,x.2.2.1)
theorem qeA (N:Nat):v8 Tryz.prog X9 91 (zd qpv 4) (Kr N):=jw fun x z h=>qfG N (x.1,x.2.1,x.2.2.1) N x.2.2.2.1 z h
def qjS (z:Bool):TV×THp:=(xb z,[])
def X7 (N:Nat) (a0:List qg) (a1:List qg):Tree (Bool):=
 .cond (!decide (((a0.length:Nat):Int)=((a1.length:Nat):Int))) (
 .ret false) <|
 .bind (Xr N a0 a1 ((a0.length:Nat):Int) 0) fun z1=>
 .sum z1 (fun z2=>
 .ret false) fun z2=>
 .ret true
def Vx (N:Nat) (a0:List qg) (a1:List qg):Option (Bool):=(X7 N a0 a1).run some
def qjC (N:Nat):List (Nat×qH):=[(4,Kr N)]
def qbc (N:Nat):Ent:=smF ⟨91,[],[.x (.sl 4 qG),.x (.sl 4 qG)],[],[]⟩ [(.sl 4 qG),(.sl 4 qG)] (Bool) (fun x=>Vx N x.1 x.2.1) cs1 fun _=>qjS
theorem qhQ (N:Nat):zc Tryz.prog (qbc N):=
 q8 (H:=X9) (L:=qR (qjC N)) (ts:=[(.sl 4 qG),(.sl 4 qG)]) (T:=fun x=>X7 N x.1 x.2.1) 0 qGQ (KU N) (qu (by kernel_rfl) ⟨qeA N,trivial⟩) (rg0 (by kernel_rfl)) fun x=>by kernel_rfl
noncomputable def qIl:Code:=Tryz.f63.body.getD .skip
theorem qHp:FnF Tryz.prog 63 Tryz.f63 qIl:=⟨qk,by kernel_rfl,by kernel_rfl,by kernel_rfl⟩
def qvZ:TH:={ live:=[(0,[0,1]),(1,[4])] }
def qxt (N:Nat):List Ent:=[qbc N]
theorem qsy (N:Nat):qT Tryz.prog (qxt N):=⟨qhQ N,trivial⟩
def qyi (z:Bool):TV×THp:=(xb z,[])
def qfk (N:Nat) (a0:List qg) (a1:List qg):Tree (Bool):=
 .bind (Vx N a0 a1) fun r1=>
 .ret r1
def qen (N:Nat) (a0:List qg) (a1:List qg):Option (Bool):=(qfk N a0 a1).run some
def qwn (N:Nat):List (Nat×qH):=[]
def qml (N:Nat):Ent:=smF ⟨63,[],[.x (.sl 4 qG),.x (.sl 4 qG)],[],[]⟩ [(.sl 4 qG),(.sl 4 qG)] (Bool) (fun x=>qen N x.1 x.2.1) cs1 fun _=>qyi
theorem qup (N:Nat):zc Tryz.prog (qml N):=
 q8 (H:=qvZ) (L:=qR (qwn N)) (ts:=[(.sl 4 qG),(.sl 4 qG)]) (T:=fun x=>qfk N x.1 x.2.1) 0 qHp (qsy N) (qu (by kernel_rfl) trivial) (rg0 (by kernel_rfl)) fun x=>by kernel_rfl
noncomputable def qH1:Code:=Tryz.f20.body.getD .skip
theorem qH5:FnF Tryz.prog 20 Tryz.f20 qH1:=⟨qk,by kernel_rfl,by kernel_rfl,by kernel_rfl⟩
def qFC:TH:={ live:=[(0,[2,3]),(1,[2,3,5]),(2,[4])],dec:=[11,18,25,33,40,47,54,61] }
def qFi (N:Nat):List Ent:=[qml N]
theorem qyQ (N:Nat):qT Tryz.prog (qFi N):=⟨qup N,trivial⟩
def qFs (z:Bool):TV×THp:=(xb z,[])
def qmq (N:Nat) (a0:qe) (a1:qe):Tree (Bool):=
 .cond (eqE (.ba 16) (qe.ID a0) (qe.ID a1)) (
 .cond (eqE (.ba 16) (qe.jA a0) (qe.jA a1)) (
 .cond (decide ((qe.No a0)=(qe.No a1))) (
 .cond (decide ((qe.Jt a0)=(qe.Jt a1))) (
 .cond (decide ((qe.Kind a0)=(qe.Kind a1))) (
 .cond (eqE qn (qe.S a0) (qe.S a1)) (
 .cond (decide ((qe.V a0)=(qe.V a1))) (
 .cond (eqE (.ba 32) (qe.D a0) (qe.D a1)) (
 .bind (qen N (qe.P a0) (qe.P a1)) fun r1=>
 .ret r1) <|
 .ret false) <|
 .ret false) <|
 .ret false) <|
 .ret false) <|
 .ret false) <|
 .ret false) <|
 .ret false) <|
 .ret false
def qnn (N:Nat) (a0:qe) (a1:qe):Option (Bool):=(qmq N a0 a1).run some
def qDz (N:Nat):List (Nat×qH):=[]
def qtM (N:Nat):Ent:=smF ⟨20,[],[.x zO,.x zO],[],[]⟩ [zO,zO] (Bool) (fun x=>qnn N x.1 x.2.1) cs1 fun _=>qFs
theorem qC2 (N:Nat):zc Tryz.prog (qtM N):=
 q8 (H:=qFC) (L:=qR (qDz N)) (ts:=[zO,zO]) (T:=fun x=>qmq N x.1 x.2.1) 0 qH5 (qyQ N) (qu (by kernel_rfl) trivial) (rg0 (by kernel_rfl)) fun x=>by kernel_rfl
noncomputable def qGR:Code:=Tryz.f61.body.getD .skip
theorem qFO:FnF Tryz.prog 61 Tryz.f61 qGR:=⟨qk,by kernel_rfl,by kernel_rfl,by kernel_rfl⟩
def qyx:TH:={ live:=[(0,[0]),(1,[2])],dec:=[5] }
def qyJ (N:Nat):List Ent:=[]
theorem quA (N:Nat):qT Tryz.prog (qyJ N):=trivial
def qyN (z:Bool):TV×THp:=(xb z,[])
def qgs (a0:Int):Tree (Bool):=
 .cond (decide (((0:Int))≤a0)) (
 .ret (decide (a0 < ((8:Int))))) <|
 .ret false
def qcY (a0:Int):Option (Bool):=(qgs a0).run some
def qzH:List (Nat×qH):=[]
def qn6:Ent:=smF ⟨61,[],[.x (.i .i64)],[],[]⟩ [(.i .i64)] (Bool) (fun x=>qcY x.1) cs1 fun _=>qyN
theorem qv4:zc Tryz.prog (qn6):=
 q8 (H:=qyx) (L:=qR (qzH)) (ts:=[(.i .i64)]) (T:=fun x=>qgs x.1) 0 qFO (quA 0) (qu (by kernel_rfl) trivial) (rg0 (by kernel_rfl)) fun x=>by kernel_rfl
noncomputable def qHd:Code:=Tryz.f19.body.getD .skip
theorem qHS:FnF Tryz.prog 19 Tryz.f19 qHd:=⟨qk,by kernel_rfl,by kernel_rfl,by kernel_rfl⟩
def qHy:TH:={ live:=[(0,[1]),(1,[1,23]),(2,[2]),(3,[2])],dec:=[6,11,18,27,32,37,43] }
def qGX (N:Nat):List Ent:=[qt0,qtM N,K3,qn6,qoq N]
theorem qCd (N:Nat):qT Tryz.prog (qGX N):=⟨qBT,qC2 N,qbY,qv4,qvO N,trivial⟩
def qIm (z:Bool):TV×THp:=(xb z,[])
def qoO (N:Nat) (a0:qe):Tree (Bool):=
 .cond (decide ((qe.Kind a0) < ((0:Int)))) (
 .ret false) <|
 .cond (decide (((4:Int))≤(qe.Kind a0))) (
 .ret false) <|
 .bind (qnd a0) fun r1=>
 .bind (qnn N a0 r1) fun r2=>
 .cond (!r2) (
 .ret false) <|
 .cond (eqE qn (qe.S a0) (qf.mk 0 0)) (
 .ret false) <|
 .bind (YH (qe.S a0)) fun r3=>
 .cond r3 (
 .bind (qcY (qe.No a0)) fun r4=>
 .cond r4 (
 .bind (qcY (qe.Jt a0)) fun r5=>
 .cond r5 (
 .cond (decide ((((qe.V a0).length:Nat):Int)≤((200:Int)))) (
 .bind (JJ N (qe.P a0)) fun r6=>
 .ret r6) <|
 .ret false) <|
 .ret false) <|
 .ret false) <|
 .ret false
def qp_ (N:Nat) (a0:qe):Option (Bool):=(qoO N a0).run some
def qIp (N:Nat):List (Nat×qH):=[]
def qx2 (N:Nat):Ent:=smF ⟨19,[],[.x zO],[],[]⟩ [zO] (Bool) (fun x=>qp_ N x.1) cs1 fun _=>qIm
theorem qDq (N:Nat):zc Tryz.prog (qx2 N):=
 q8 (H:=qHy) (L:=qR (qIp N)) (ts:=[zO]) (T:=fun x=>qoO N x.1) 0 qHS (qCd N) (qu (by kernel_rfl) trivial) (rg0 (by kernel_rfl)) fun x=>by kernel_rfl
noncomputable def qId:Code:=Tryz.f95.body.getD .skip
theorem qHK:FnF Tryz.prog 95 Tryz.f95 qId:=⟨qk,by kernel_rfl,by kernel_rfl,by kernel_rfl⟩
def qxS:TH:={ live:=[(0,[1]),(1,[2])],dec:=[7] }
def qxT (N:Nat):List Ent:=[]
theorem qr9 (N:Nat):qT Tryz.prog (qxT N):=trivial
def qx3 (z:Bool):TV×THp:=(xb z,[])
def qb1 (a0:qa):Tree (Bool):=
 .cond (eqE qn (qa.qX a0) (qf.mk 0 0)) (
 .ret (decide ((((qa.F a0).length:Nat):Int)=((0:Int))))) <|
 .ret false
def X4 (a0:qa):Option (Bool):=(qb1 a0).run some
def qw2:List (Nat×qH):=[]
def qld:Ent:=smF ⟨95,[],[.x qh],[],[]⟩ [qh] (Bool) (fun x=>X4 x.1) cs1 fun _=>qx3
theorem quw:zc Tryz.prog (qld):=
 q8 (H:=qxS) (L:=qR (qw2)) (ts:=[qh]) (T:=fun x=>qb1 x.1) 0 qHK (qr9 0) (qu (by kernel_rfl) trivial) (rg0 (by kernel_rfl)) fun x=>by kernel_rfl
noncomputable def qD2:Code:=Tryz.f129.body.getD .skip
theorem qEK:FnF Tryz.prog 129 Tryz.f129 qD2:=⟨qk,by kernel_rfl,by kernel_rfl,by kernel_rfl⟩
def qnZ:TH:={ live:=[(0,[0,1]),(1,[0,1,6]),(2,[0,1]),(3,[0,1]),(4,[0,1,16]),(5,[0]),(6,[4])],esc:=true,nil:=[(5,[⟨.sl 0,900001290,(.sl 19 qh)⟩])] }
def qnI (N:Nat):List Ent:=[]
theorem qkt (N:Nat):qT Tryz.prog (qnI N):=trivial
def qnt:Unit⊕Unit→TV×THp
 | .inl z=>(.v 900001290 0,[(900001290,.vec false 19 (.sl 19 qh) ([]:List qa))])
 | .inr z=>(.nils,[])
def V4 (a0:Int):Tree (Unit⊕Unit):=
 .cond (decide (a0 < ((0:Int)))) (
 .no) <|
 .chk (qz a0) <|
 .cond (decide (((0:Int)) < a0)) (
 .chk (0 < a0∧a0.toNat * 56≤zi) <|
 .ret (.inl ())) <|
 .ret (.inr ())
def ZU (a0:Int):Option (Unit⊕Unit):=(V4 a0).run some
def qnO:List (Nat×qH):=[]
def qdS:Ent:=smF ⟨129,[],[.k .nils,.x (.i .i64)],[],[]⟩ [(.i .i64)] (Unit⊕Unit) (fun x=>ZU x.1) (csS cs1) fun _=>qnt
theorem qlN:zc Tryz.prog (qdS):=
 q8 (H:=qnZ) (L:=qR (qnO)) (ts:=[(.i .i64)]) (T:=fun x=>V4 x.1) 0 qEK (qkt 0) (qu (by kernel_rfl) trivial) (rg0 (by kernel_rfl)) fun x=>by kernel_rfl
noncomputable def qdm:Code:=Tryz.f112.body.getD .skip
theorem qEe:FnF Tryz.prog 112 Tryz.f112 qdm:=⟨qk,by kernel_rfl,by kernel_rfl,by kernel_rfl⟩
def Zr:TH:={ live:=[(0,[0]),(1,[0,3]),(2,[0,3,9,10,11]),(3,[0,3,9,10,11,12]),(4,[0,3,5,9,10,11]),(5,[0,3,9,10,11]),(6,[0,3,9,10,11,20]),(7,[0,3,9,10,11]),(8,[0,3,9,10,11]),(9,[0,6]),(10,[6,25,26,27]),(11,[6,25,26,27,28]),(12,[6,8,25,26,27]),(13,[6,25,26,27]),(14,[6,25,26,27]),(15,[2])],raw:=[129],fresh:=[24],nil:=[(9,[⟨.sl 6,900001290,(.sl 19 qh)⟩])] }
def WL (N:Nat):List Ent:=[qdS]
theorem Xm (N:Nat):qT Tryz.prog (WL N):=⟨qlN,trivial⟩
abbrev ZI:=List (List qa)×List (List qa)×Int
abbrev vo:=Int×Int×Bool
def Qp (f:ZI) (y:vo):Ex×TSt:=(.exit 0,⟨0,36,[],[(0,.tv (.sl 1 (.sl 19 qh)) f.1),(3,xi y.1),(9,.tv (.sl 1 (.sl 19 qh)) f.2.1),(10,xi f.2.2),(11,xi y.2.1),(12,xb y.2.2)],[],false,[]⟩)
def qhg (N:Nat):List (Nat×qH):=[]
abbrev Ql:=Int×Int
def K2:SP:=⟨0,36,[],[(0,.x (.sl 1 (.sl 19 qh))),(3,.x (.i .i64)),(9,.x (.sl 1 (.sl 19 qh))),(10,.x (.i .i64)),(11,.x (.i .i64))],[],false,[]⟩
def qgw (f:ZI) (v:Ql):TSt:=jq K2 [dv (.sl 1 (.sl 19 qh)) f.1,dv (.i .i64) v.1,dv (.sl 1 (.sl 19 qh)) f.2.1,dv (.i .i64) f.2.2,dv (.i .i64) v.2]
def ZM (N:Nat) (s0_3:List (List qa)) (s9_3:List (List qa)) (s10_3:Int) (v:Ql):Tree (Ql⊕vo):=
 .cond (decide (v.2 < s10_3)) (
 .bind (zn s9_3 v.2) fun e1=>
 .chk (qz (v.1 + ((e1.length:Nat):Int))) <|
 .cond (decide ((v.1 + ((e1.length:Nat):Int)) < 0)) (
 .no) <|
 .chk (qz (v.2 + 1)) <|
 .ret (.inl (v.1 + ((e1.length:Nat):Int),v.2 + 1))) <|
 .ret (.inr (v.1,v.2,decide (v.2 < s10_3)))
def KY (N n:Nat) (f:ZI) (v:Ql):Option vo:=q_ (ZM N f.1 f.2.1 f.2.2) some n v
theorem qgG (N:Nat) (f:ZI) (n:Nat) (v:Ql) (y:vo) (h:KY N n f v=some y):LG Tryz.prog Zr 112 (zd qdm 3) (qgw f v) (Qp f y):=
 zY qk (E:=WL N) (L:=qR (qhg N)) (st:=Qp f) (g:=some) (R:=Qp f) (Xm N) (qu (by kernel_rfl) trivial) (rg0 (by kernel_rfl)) (fun v=>by kernel_rfl) (zl (st:=Qp f) fun y=>by rfl) (js0 rfl) n v y h
def X_ (N:Nat) (s0_3:List (List qa)) (s9_3:List (List qa)) (s10_3:Int) (s3_3:Int) (s11_3:Int):Option vo:=KY N N (s0_3,s9_3,s10_3) (s3_3,s11_3)
def K8 (N:Nat):qH:=smL K2 [(.sl 1 (.sl 19 qh)),(.i .i64),(.sl 1 (.sl 19 qh)),(.i .i64),(.i .i64)] vo (fun x=>X_ N x.1 x.2.2.1 x.2.2.2.1 x.2.1 x.2.2.2.2.1) cs1 fun x=>Qp (x.1,x.2.2.1,x.2.2.2.1)
theorem qfv (N:Nat):v8 Tryz.prog Zr 112 (zd qdm 3) (K8 N):=jw fun x z h=>qgG N (x.1,x.2.2.1,x.2.2.2.1) N (x.2.1,x.2.2.2.2.1) z h
abbrev Zm:=List (List qa)×Int
abbrev jY:=List qa×Int×Bool
def vV (f:Zm) (y:jY):Ex×TSt:=(.exit 2,⟨0,36,[],[(6,.v 900001290 y.1.length),(25,.tv (.sl 1 (.sl 19 qh)) f.1),(26,xi f.2),(27,xi y.2.1),(28,xb y.2.2)],[(900001290,.vec false 19 (.sl 19 qh) (y.1:List qa))],false,[]⟩)
def qfx (N:Nat):List (Nat×qH):=[]
abbrev vZ:=List qa×Int
def Kq:SP:=⟨0,36,[],[(6,.vs 900001290),(25,.x (.sl 1 (.sl 19 qh))),(26,.x (.i .i64)),(27,.x (.i .i64))],[(900001290,.vec false 19)],false,[]⟩
def qfu (f:Zm) (v:vZ):TSt:=jq Kq [dv (.sl 19 qh) v.1,dv (.sl 1 (.sl 19 qh)) f.1,dv (.i .i64) f.2,dv (.i .i64) v.2]
def Zn (N:Nat) (s25_11:List (List qa)) (s26_11:Int) (v:vZ):Tree (vZ⊕jY):=
 .cond (decide (v.2 < s26_11)) (
 .bind (zn s25_11 v.2) fun e1=>
 .chk (VN v.1.length v.1.length ((v.1++e1).length) 56) <|
 .chk (qz (v.2 + 1)) <|
 .ret (.inl (v.1++e1,v.2 + 1))) <|
 .ret (.inr (v.1,v.2,decide (v.2 < s26_11)))
def Kx (N n:Nat) (f:Zm) (v:vZ):Option jY:=q_ (Zn N f.1 f.2) some n v
theorem qfI (N:Nat) (f:Zm) (n:Nat) (v:vZ) (y:jY) (h:Kx N n f v=some y):LG Tryz.prog Zr 112 (zd qdm 11) (qfu f v) (vV f y):=
 zY qk (E:=WL N) (L:=qR (qfx N)) (st:=vV f) (g:=some) (R:=vV f) (Xm N) (qu (by kernel_rfl) trivial) (rg0 (by kernel_rfl)) (fun v=>by kernel_rfl) (zl (st:=vV f) fun y=>by rfl) (js0 rfl) n v y h
def Z4 (N:Nat) (s25_11:List (List qa)) (s26_11:Int) (o_11:List qa) (s27_11:Int):Option jY:=Kx N N (s25_11,s26_11) (o_11,s27_11)
def Ku (N:Nat):qH:=smL Kq [(.sl 19 qh),(.sl 1 (.sl 19 qh)),(.i .i64),(.i .i64)] jY (fun x=>Z4 N x.2.1 x.2.2.1 x.1 x.2.2.2.1) cs1 fun x=>vV (x.2.1,x.2.2.1)
theorem qeD (N:Nat):v8 Tryz.prog Zr 112 (zd qdm 11) (Ku N):=jw fun x z h=>qfI N (x.2.1,x.2.2.1) N (x.1,x.2.2.2.1) z h
def qkQ (z:List qa):TV×THp:=(.tv (.sl 19 qh) z,[])
def WI (N:Nat) (a0:List (List qa)):Tree (List qa):=
 .bind (X_ N a0 a0 ((a0.length:Nat):Int) 0 0) fun z1=>
 .bind (ZU z1.1) fun r2=>
 .sum r2 (fun r3=>
 .bind (vg [(([]:List qa).length,0)] (Z4 N a0 ((a0.length:Nat):Int) [] 0)) fun z4=>
 .chk (z4.1.length=z4.1.length) <|
 .ret z4.1) fun r3=>
 .bind (vg [(([]:List qa).length,0)] (Z4 N a0 ((a0.length:Nat):Int) [] 0)) fun z4=>
 .chk (z4.1.length=z4.1.length) <|
 .ret z4.1
def VY (N:Nat) (a0:List (List qa)):Option (List qa):=(WI N a0).run some
def qku (N:Nat):List (Nat×qH):=[(3,K8 N),(11,Ku N)]
def qb8 (N:Nat):Ent:=smF ⟨112,[],[.x (.sl 1 (.sl 19 qh))],[],[]⟩ [(.sl 1 (.sl 19 qh))] (List qa) (fun x=>VY N x.1) cs1 fun _=>qkQ
theorem qjj (N:Nat):zc Tryz.prog (qb8 N):=
 q8 (H:=Zr) (L:=qR (qku N)) (ts:=[(.sl 1 (.sl 19 qh))]) (T:=fun x=>WI N x.1) 0 qEe (Xm N) (qu (by kernel_rfl) ⟨qfv N,qeD N,trivial⟩) (rg0 (by kernel_rfl)) fun x=>by kernel_rfl
noncomputable def qDU:Code:=Tryz.f103.body.getD .skip
theorem qk5:FnF Tryz.prog 103 Tryz.f103 qDU:=⟨qk,by kernel_rfl,by kernel_rfl,by kernel_rfl⟩
def qiU:TH:={ live:=[(0,[0]),(1,[0,4]),(2,[2]),(3,[2])],vecs:=[5] }
def qiB (N:Nat):List Ent:=[]
theorem qgA (N:Nat):qT Tryz.prog (qiB N):=trivial
def qbQ (a0:List qc) (z:Unit):TV×THp:=(.tv (.sl 4 qp) ((([]:List qc))++a0:List qc),[])
def XT (a0:List qc):Tree (Unit):=
 .chk (List.isEmpty a0=false) <|
 .chk (VN ((([]:List qc)).length) 0 (((([]:List qc))++a0).length) 40) <|
 .chk (((([]:List qc))++a0).length=((([]:List qc))++a0).length) <|
 .ret ()
def Yn (a0:List qc):Option (Unit):=(XT a0).run some
def qiO:List (Nat×qH):=[]
theorem qhb:qcJ Tryz.prog ⟨103,[],[.x (.sl 4 qp)],[],[]⟩ [(.sl 4 qp)] (fun x=>XT x.1) (fun x=>qbQ x.1):=
 K9 (H:=qiU) (L:=qR (qiO)) 0 qk5 (qgA 0) (qu (by kernel_rfl) trivial) (rg0 (by kernel_rfl)) fun x=>by kernel_rfl
def qgT:TH:={ live:=[(0,[0]),(1,[0,4]),(2,[2]),(3,[2])],vecs:=[5] }
def qgJ (N:Nat):List Ent:=[]
theorem qeT (N:Nat):qT Tryz.prog (qgJ N):=trivial
def qhj (z:Unit):TV×THp:=(.tv (.sl 4 qp) ([]:List qc),[])
def K7:Tree (Unit):=
 .chk (0=0) <|
 .chk (0=0) <|
 .ret ()
def qiY:Option (Unit):=(K7).run some
def qgL:List (Nat×qH):=[]
theorem qe9:qcJ Tryz.prog ⟨103,[],[.k (.es 0)],[],[]⟩ [] (fun x=>K7) (fun _=>qhj):=
 K9 (H:=qgT) (L:=qR (qgL)) 0 qk5 (qeT 0) (qu (by kernel_rfl) trivial) (rg0 (by kernel_rfl)) fun x=>by kernel_rfl
def qhm:TH:={ live:=[(0,[0]),(1,[0,4]),(2,[2]),(3,[2])],vecs:=[5] }
def qgS (N:Nat):List Ent:=[]
theorem qeS (N:Nat):qT Tryz.prog (qgS N):=trivial
def qg7 (z:Unit):TV×THp:=(.tv (.sl 4 qp) ([]:List qc),[])
def K0:Tree (Unit):=
 .ret ()
def qiW:Option (Unit):=(K0).run some
def qgK:List (Nat×qH):=[]
theorem qez:qcJ Tryz.prog ⟨103,[],[.k (.es 1)],[],[]⟩ [] (fun x=>K0) (fun _=>qg7):=
 K9 (H:=qhm) (L:=qR (qgK)) 0 qk5 (qeS 0) (qu (by kernel_rfl) trivial) (rg0 (by kernel_rfl)) fun x=>by kernel_rfl
def KP (z:Unit):Unit:=()
def qhp (z:Unit):Unit:=()
def Qk (a0:List qc):Option (Unit):=
 bif a0.isEmpty then
  (qiY).bind fun z0=>(qiW).bind fun z1=>chk (KP z0=qhp z1) (some (KP z0))
 else Yn a0
def qa6:Ent:=smF ⟨103,[],[.x (.sl 4 qp)],[],[]⟩ [(.sl 4 qp)] (Unit) (fun x=>Qk x.1) cs1 fun x=>qbQ x.1
theorem qg8:zc Tryz.prog (qa6):=qdg fun x z h l=>by
 obtain ⟨a0,_⟩:=x
 replace h:Qk a0=some z:=h
 unfold Qk at h
 rcases qlQ h with ⟨e,h2⟩ | ⟨_,h2⟩<;>clear h
 ·have e:=List.isEmpty_iff.1 e
  subst e
  obtain ⟨z0,c0,h2⟩:=bind_some h2
  obtain ⟨z1,c1,h2⟩:=bind_some h2
  obtain ⟨hE,h2⟩:=W9 h2
  obtain rfl:=Option.some.inj h2
  refine qmU (t:=(.sl 4 qp)) (x:=[]) rfl (TV.ers []) (TV.ers []) (by exact qe9 (()) _ c0 l) ?_
  rw [hE]
  exact (by exact qez (()) _ c1 l)
 ·exact qhb (a0,()) z h2 l
noncomputable def qGw:Code:=Tryz.f75.body.getD .skip
theorem qH_:FnF Tryz.prog 75 Tryz.f75 qGw:=⟨qk,by kernel_rfl,by kernel_rfl,by kernel_rfl⟩
def qCG:TH:={ live:=[(0,[1,2]),(1,[1,2]),(2,[2])],nil:=[(0,[⟨.ob 20 [2],25,(.sl 4 qp)⟩])] }
def qCh (N:Nat):List Ent:=[qa6]
theorem qxq (N:Nat):qT Tryz.prog (qCh N):=⟨qg8,trivial⟩
def qCo (a0:qa) (z:Unit):TV×THp:=(.tv qh (qa.mk (qa.ID a0) (qa.qX a0) ((([]:List qc))++(qa.F a0))),[])
def qel (a0:qa):Tree (Unit):=
 .bind (Qk (qa.F a0)) fun r1=>
 .ret ()
def qaw (a0:qa):Option (Unit):=(qel a0).run some
def qBq:List (Nat×qH):=[]
def qjD:Ent:=smF ⟨75,[],[.x qh],[],[]⟩ [qh] (Unit) (fun x=>qaw x.1) cs1 fun x=>qCo x.1
theorem qoa:zc Tryz.prog (qjD):=
 q8 (H:=qCG) (L:=qR (qBq)) (ts:=[qh]) (T:=fun x=>qel x.1) 0 qH_ (qxq 0) (qu (by kernel_rfl) trivial) (rg0 (by kernel_rfl)) fun x=>by kernel_rfl
noncomputable def qDv:Code:=Tryz.f167.body.getD .skip
theorem qEi:FnF Tryz.prog 167 Tryz.f167 qDv:=⟨qk,by kernel_rfl,by kernel_rfl,by kernel_rfl⟩
def qmY:TH:={ live:=[(0,[2,3,4]),(1,[2,3,4,7]),(2,[6]),(3,[12]),(4,[6]),(5,[6])] }
def qmO (N:Nat):List Ent:=[Yk N]
theorem qjv (N:Nat):qT Tryz.prog (qmO N):=⟨qak N,trivial⟩
def qlS (z:Int):TV×THp:=(xi z,[])
def Ym (N:Nat) (a0:qf) (a1:qf):Tree (Int):=
 .bind (QY N a0 a1) fun r1=>
 .cond r1 (
 .ret (-1)) <|
 .bind (QY N a1 a0) fun r2=>
 .cond r2 (
 .ret 1) <|
 .ret 0
def XR (N:Nat) (a0:qf) (a1:qf):Option (Int):=(Ym N a0 a1).run some
def ql8 (N:Nat):List (Nat×qH):=[]
def qc0 (N:Nat):Ent:=smF ⟨167,[],[.x qn,.x qn,.fn 109 [] []],[],[]⟩ [qn,qn] (Int) (fun x=>XR N x.1 x.2.1) cs1 fun _=>qlS
theorem qkG (N:Nat):zc Tryz.prog (qc0 N):=
 q8 (H:=qmY) (L:=qR (ql8 N)) (ts:=[qn,qn]) (T:=fun x=>Ym N x.1 x.2.1) 0 qEi (qjv N) (qu (by kernel_rfl) trivial) (rg0 (by kernel_rfl)) fun x=>by kernel_rfl
noncomputable def qEQ:Code:=Tryz.f166.body.getD .skip
theorem qDp:FnF Tryz.prog 166 Tryz.f166 qEQ:=⟨qk,by kernel_rfl,by kernel_rfl,by kernel_rfl⟩
def quv:TH:={ live:=[(0,[0,1]),(1,[2])] }
def quF (N:Nat):List Ent:=[qc0 N]
theorem qry (N:Nat):qT Tryz.prog (quF N):=⟨qkG N,trivial⟩
def qur (a0:qd) (a1:qd) (z:Int):TV×THp:=(xi z,[(20,.cell false (.tv qq a0)),(30,.cell false (.tv qq a1))])
def qdH (N:Nat) (a0:qd) (a1:qd):Tree (Int):=
 .bind (XR N (qd.S a0) (qd.S a1)) fun r1=>
 .ret r1
def qcB (N:Nat) (a0:qd) (a1:qd):Option (Int):=(qdH N a0 a1).run some
def qu3 (N:Nat):List (Nat×qH):=[]
def qkn (N:Nat):Ent:=smF ⟨166,[],[],[.k (.p 20 [] 0),.k (.p 30 [] 0)],[(20,.cell false (.x qq)),(30,.cell false (.x qq))]⟩ [qq,qq] (Int) (fun x=>qcB N x.1 x.2.1) cs1 fun x=>qur x.1 x.2.1
theorem qsK (N:Nat):zc Tryz.prog (qkn N):=
 q8 (H:=quv) (L:=qR (qu3 N)) (ts:=[qq,qq]) (T:=fun x=>qdH N x.1 x.2.1) 0 qDp (qry N) (qu (by kernel_rfl) trivial) (rg0 (by kernel_rfl)) fun x=>by kernel_rfl
noncomputable def qG5:Code:=Tryz.f29.body.getD .skip
theorem qIc:FnF Tryz.prog 29 Tryz.f29 qG5:=⟨qk,by kernel_rfl,by kernel_rfl,by kernel_rfl⟩
def qIq:TH:={ live:=[(0,[0,2]),(1,[2])] }
def qGy (N:Nat):List Ent:=[qtW N]
theorem qCy (N:Nat):qT Tryz.prog (qGy N):=⟨qrz N,trivial⟩
def qHO (z:Vector UInt8 32):TV×THp:=(.tv (.ba 32) z,[])
def qpD (N:Nat) (a0:List UInt8):Tree (Vector UInt8 32):=
 .chk (qnl (a0:List UInt8).length) <|
 .bind (qex N a0) fun r1=>
 .ret r1
def qhZ (N:Nat) (a0:List UInt8):Option (Vector UInt8 32):=(qpD N a0).run some
def qG2 (N:Nat):List (Nat×qH):=[]
def qpa (N:Nat):Ent:=smF ⟨29,[],[.x .s],[],[]⟩ [.s] (Vector UInt8 32) (fun x=>qhZ N x.1) cs1 fun _=>qHO
theorem qtl (N:Nat):zc Tryz.prog (qpa N):=
 q8 (H:=qIq) (L:=qR (qG2 N)) (ts:=[.s]) (T:=fun x=>qpD N x.1) 0 qIc (qCy N) (qu (by kernel_rfl) trivial) (rg0 (by kernel_rfl)) fun x=>by kernel_rfl
noncomputable def qEk:Code:=Tryz.f170.body.getD .skip
theorem qEj:FnF Tryz.prog 170 Tryz.f170 qEk:=⟨qk,by kernel_rfl,by kernel_rfl,by kernel_rfl⟩
def qBf:TH:={ live:=[(0,[2,3]),(1,[4])],dec:=[8] }
def qCq (N:Nat):List Ent:=[WV]
theorem qxb (N:Nat):qT Tryz.prog (qCq N):=⟨qas,trivial⟩
def qBC (z:Bool):TV×THp:=(xb z,[])
def qjz (a0:Vector UInt8 32) (a1:Vector UInt8 32):Tree (Bool):=
 .cond (!(eqE (.ba 32) a0 a1)) (
 .bind (Wq a0.toList a1.toList) fun r1=>
 .ret (decide (r1 < ((0:Int))))) <|
 .ret false
def qfp (a0:Vector UInt8 32) (a1:Vector UInt8 32):Option (Bool):=(qjz a0 a1).run some
def qBW:List (Nat×qH):=[]
def qrf:Ent:=smF ⟨170,[],[.x (.ba 32),.x (.ba 32)],[],[]⟩ [(.ba 32),(.ba 32)] (Bool) (fun x=>qfp x.1 x.2.1) cs1 fun _=>qBC
theorem qyL:zc Tryz.prog (qrf):=
 q8 (H:=qBf) (L:=qR (qBW)) (ts:=[(.ba 32),(.ba 32)]) (T:=fun x=>qjz x.1 x.2.1) 0 qEj (qxb 0) (qu (by kernel_rfl) trivial) (rg0 (by kernel_rfl)) fun x=>by kernel_rfl
noncomputable def qDI:Code:=Tryz.f169.body.getD .skip
theorem qD8:FnF Tryz.prog 169 Tryz.f169 qDI:=⟨qk,by kernel_rfl,by kernel_rfl,by kernel_rfl⟩
def qkM:TH:={ live:=[(0,[2,3,4]),(1,[2,3,4,7]),(2,[6]),(3,[12]),(4,[6]),(5,[6])] }
def qkv (N:Nat):List Ent:=[qrf]
theorem qhN (N:Nat):qT Tryz.prog (qkv N):=⟨qyL,trivial⟩
def qkA (z:Int):TV×THp:=(xi z,[])
def WK (a0:Vector UInt8 32) (a1:Vector UInt8 32):Tree (Int):=
 .bind (qfp a0 a1) fun r1=>
 .cond r1 (
 .ret (-1)) <|
 .bind (qfp a1 a0) fun r2=>
 .cond r2 (
 .ret 1) <|
 .ret 0
def VZ (a0:Vector UInt8 32) (a1:Vector UInt8 32):Option (Int):=(WK a0 a1).run some
def qkP:List (Nat×qH):=[]
def qb_:Ent:=smF ⟨169,[],[.x (.ba 32),.x (.ba 32),.fn 170 [] []],[],[]⟩ [(.ba 32),(.ba 32)] (Int) (fun x=>VZ x.1 x.2.1) cs1 fun _=>qkA
theorem qiF:zc Tryz.prog (qb_):=
 q8 (H:=qkM) (L:=qR (qkP)) (ts:=[(.ba 32),(.ba 32)]) (T:=fun x=>WK x.1 x.2.1) 0 qD8 (qhN 0) (qu (by kernel_rfl) trivial) (rg0 (by kernel_rfl)) fun x=>by kernel_rfl
noncomputable def qDj:Code:=Tryz.f168.body.getD .skip
theorem qEH:FnF Tryz.prog 168 Tryz.f168 qDj:=⟨qk,by kernel_rfl,by kernel_rfl,by kernel_rfl⟩
def quR:TH:={ live:=[(0,[0,1]),(1,[2])] }
def qut (N:Nat):List Ent:=[qpa N,qb_]
theorem qra (N:Nat):qT Tryz.prog (qut N):=⟨qtl N,qiF,trivial⟩
def quS (a0:qd) (a1:qd) (z:Int):TV×THp:=(xi z,[(20,.cell false (.tv qq a0)),(30,.cell false (.tv qq a1))])
def qdq (N:Nat) (a0:qd) (a1:qd):Tree (Int):=
 .bind (qhZ N (qd.V a0)) fun r1=>
 .bind (qhZ N (qd.V a1)) fun r2=>
 .bind (VZ r1 r2) fun r3=>
 .ret r3
def qcA (N:Nat) (a0:qd) (a1:qd):Option (Int):=(qdq N a0 a1).run some
def quk (N:Nat):List (Nat×qH):=[]
def qj7 (N:Nat):Ent:=smF ⟨168,[],[],[.k (.p 20 [] 0),.k (.p 30 [] 0)],[(20,.cell false (.x qq)),(30,.cell false (.x qq))]⟩ [qq,qq] (Int) (fun x=>qcA N x.1 x.2.1) cs1 fun x=>quS x.1 x.2.1
theorem qrV (N:Nat):zc Tryz.prog (qj7 N):=
 q8 (H:=quR) (L:=qR (quk N)) (ts:=[qq,qq]) (T:=fun x=>qdq N x.1 x.2.1) 0 qEH (qra N) (qu (by kernel_rfl) trivial) (rg0 (by kernel_rfl)) fun x=>by kernel_rfl
noncomputable def qEx:Code:=Tryz.f175.body.getD .skip
theorem qFt:FnF Tryz.prog 175 Tryz.f175 qEx:=⟨qk,by kernel_rfl,by kernel_rfl,by kernel_rfl⟩
def qmV:TH:={ live:=[(0,[0]),(1,[2])] }
def qmC (N:Nat):List Ent:=[]
theorem qjK (N:Nat):qT Tryz.prog (qmC N):=trivial
def qlO (a0:List UInt8) (z:Unit):TV×THp:=(xb (!decide (a0=a0)),[])
def qcW (a0:List UInt8):Tree (Unit):=
 .ret ()
def X5 (a0:List UInt8):Option (Unit):=(qcW a0).run some
def qle:List (Nat×qH):=[]
def qdh:Ent:=smF ⟨175,[],[.x .s],[],[]⟩ [.s] (Unit) (fun x=>X5 x.1) cs1 fun x=>qlO x.1
theorem qky:zc Tryz.prog (qdh):=
 q8 (H:=qmV) (L:=qR (qle)) (ts:=[.s]) (T:=fun x=>qcW x.1) 0 qFt (qjK 0) (qu (by kernel_rfl) trivial) (rg0 (by kernel_rfl)) fun x=>by kernel_rfl
noncomputable def qDe:Code:=Tryz.f172.body.getD .skip
theorem qEO:FnF Tryz.prog 172 Tryz.f172 qDe:=⟨qk,by kernel_rfl,by kernel_rfl,by kernel_rfl⟩
def qiV:TH:={ live:=[(0,[0,1]),(1,[0,1,5]),(2,[0,1,5,6]),(3,[0,1,6,11]),(4,[12]),(5,[4]),(6,[4]),(7,[0,1,13]),(8,[4]),(9,[0,1,16]),(10,[4]),(11,[19]),(12,[4]),(13,[4])] }
def qjR (N:Nat):List Ent:=[qdh]
theorem qg3 (N:Nat):qT Tryz.prog (qjR N):=⟨qky,trivial⟩
def qi0 (z:Int):TV×THp:=(xi z,[])
def XX (a0:List UInt8) (a1:List UInt8):Tree (Int):=
 .bind (X5 a0) fun r1=>
 .bind (X5 a1) fun r2=>
 .cond (!decide (a0=a0)) (
 .cond (!decide (a1=a1)) (
 .ret 0) <|
 .ret (-1)) <|
 .cond (!decide (a1=a1)) (
 .ret 1) <|
 .cond (Op.bytesLess a0 a1) (
 .ret (-1)) <|
 .cond (!(Op.bytesLess a0 a1||decide (a0=a1))) (
 .ret 1) <|
 .ret 0
def Vn (a0:List UInt8) (a1:List UInt8):Option (Int):=(XX a0 a1).run some
def qiM:List (Nat×qH):=[]
def qbp:Ent:=smF ⟨172,[],[.x .s,.x .s],[],[]⟩ [.s,.s] (Int) (fun x=>Vn x.1 x.2.1) cs1 fun _=>qi0
theorem qia:zc Tryz.prog (qbp):=
 q8 (H:=qiV) (L:=qR (qiM)) (ts:=[.s,.s]) (T:=fun x=>XX x.1 x.2.1) 0 qEO (qg3 0) (qu (by kernel_rfl) trivial) (rg0 (by kernel_rfl)) fun x=>by kernel_rfl
noncomputable def qFh:Code:=Tryz.f171.body.getD .skip
theorem qEv:FnF Tryz.prog 171 Tryz.f171 qFh:=⟨qk,by kernel_rfl,by kernel_rfl,by kernel_rfl⟩
def quT:TH:={ live:=[(0,[0,1]),(1,[2])] }
def qus (N:Nat):List Ent:=[qbp]
theorem qqM (N:Nat):qT Tryz.prog (qus N):=⟨qia,trivial⟩
def quH (a0:qd) (a1:qd) (z:Int):TV×THp:=(xi z,[(20,.cell false (.tv qq a0)),(30,.cell false (.tv qq a1))])
def qdB (a0:qd) (a1:qd):Tree (Int):=
 .bind (Vn (qd.V a0) (qd.V a1)) fun r1=>
 .ret r1
def qcz (a0:qd) (a1:qd):Option (Int):=(qdB a0 a1).run some
def quh:List (Nat×qH):=[]
def qko:Ent:=smF ⟨171,[],[],[.k (.p 20 [] 0),.k (.p 30 [] 0)],[(20,.cell false (.x qq)),(30,.cell false (.x qq))]⟩ [qq,qq] (Int) (fun x=>qcz x.1 x.2.1) cs1 fun x=>quH x.1 x.2.1
theorem qsU:zc Tryz.prog (qko):=
 q8 (H:=quT) (L:=qR (quh)) (ts:=[qq,qq]) (T:=fun x=>qdB x.1 x.2.1) 0 qEv (qqM 0) (qu (by kernel_rfl) trivial) (rg0 (by kernel_rfl)) fun x=>by kernel_rfl
noncomputable def qa7:Code:=Tryz.f159.body.getD .skip
theorem qEm:FnF Tryz.prog 159 Tryz.f159 qa7:=⟨qk,by kernel_rfl,by kernel_rfl,by kernel_rfl⟩
def WA:TH:={ live:=[(0,[2,3]),(1,[5]),(2,[13,14]),(3,[13,14,15]),(4,[7,13,14]),(5,[8,13,14]),(6,[8,13,14,20]),(7,[4]),(8,[13,14]),(9,[4])] }
def KZ (N:Nat):List Ent:=[qkn N,qj7 N,qko]
theorem Wn (N:Nat):qT Tryz.prog (KZ N):=⟨qsK N,qrV N,qsU,trivial⟩
abbrev zw:=qd×qd
abbrev zx:=Bool⊕Unit
def zC (f:zw):zx→Ex×TSt
 | .inl y=>(.ret,⟨0,24,[],[(4,xb y)],[],false,[]⟩)
 | .inr y=>(.exit 0,⟨0,24,[],[(13,.ag [.fn (.func 166) [] [.p 20 [] 0,.p 30 [] 0],.fn (.func 168) [] [.p 20 [] 0,.p 30 [] 0],.fn (.func 171) [] [.p 20 [] 0,.p 30 [] 0]]),(14,.ic .i64 3),(15,.bc false)],[(20,.cell false (.tv qq f.1)),(30,.cell false (.tv qq f.2))],false,[]⟩)
def Kk (N:Nat):List (Nat×qH):=[]
abbrev Zc:=Unit
def qnM:SP:=⟨0,24,[],[(13,.ag [.fn 166 [] [.k (.p 20 [] 0),.k (.p 30 [] 0)],.fn 168 [] [.k (.p 20 [] 0),.k (.p 30 [] 0)],.fn 171 [] [.k (.p 20 [] 0),.k (.p 30 [] 0)]]),(14,.k (.ic .i64 3))],[(20,.cell false (.x qq)),(30,.cell false (.x qq))],false,[]⟩
def qd1 (f:zw) (v:Zc):TSt:=jq qnM [dv qq f.1,dv qq f.2]
def Jv (N:Nat) (o_3:qd) (o_3_2:qd) (v:Zc):Tree (Zc⊕zx):=
 .ret (.inr (.inr ()))
def qd0 (N n:Nat) (f:zw) (v:Zc):Option zx:=q_ (Jv N f.1 f.2) some n v
theorem qnS (N:Nat) (f:zw) (n:Nat) (v:Zc) (y:zx) (h:qd0 N n f v=some y):LG Tryz.prog WA 159 (zd qa7 3) (qd1 f v) (zC f y):=
 zY qk (E:=KZ N) (L:=qR (Kk N)) (st:=zC f) (g:=some) (R:=zC f) (Wn N) (qu (by kernel_rfl) trivial) (rg0 (by kernel_rfl)) (fun v=>by kernel_rfl) (zl (st:=zC f) fun y=>by rcases y with _ | _<;>rfl) (js0 rfl) n v y h
abbrev Za:=Unit
def qnJ:SP:=⟨0,24,[],[(13,.ag [.fn 166 [] [.k (.p 20 [] 0),.k (.p 30 [] 0)],.fn 168 [] [.k (.p 20 [] 0),.k (.p 30 [] 0)],.fn 171 [] [.k (.p 20 [] 0),.k (.p 30 [] 0)]]),(14,.k (.ic .i64 2))],[(20,.cell false (.x qq)),(30,.cell false (.x qq))],false,[]⟩
def qdW (f:zw) (v:Za):TSt:=jq qnJ [dv qq f.1,dv qq f.2]
abbrev KE:=Zc⊕zx
def Ze (N:Nat) (o_3:qd) (o_3_2:qd) (v:Za):Tree (Za⊕KE):=
 .chk (0≤(2:Int)∧(2:Int) < ((3:Nat):Int)) <|
 .bind (qcz o_3 o_3_2) fun r1=>
 .cond (!decide (r1=((0:Int)))) (
 .ret (.inr (.inr ((.inl (decide (r1 < ((0:Int))))))))) <|
 .ret (.inr (.inl ()))
def Jq (N n:Nat) (f:zw):KE→Option zx
 | .inl w=>qd0 N n f w
 | .inr w=>some w
def qnD (f:zw):KE→Ex×TSt
 | .inl w=>(.normal,qd1 f w)
 | .inr w=>zC f w
def qdQ (N n:Nat) (f:zw) (v:Za):Option zx:=q_ (Ze N f.1 f.2) (Jq N n f) n v
theorem qnA (N:Nat) (f:zw) (n:Nat) (v:Za) (y:zx) (h:qdQ N n f v=some y):LG Tryz.prog WA 159 (zd qa7 3) (qdW f v) (zC f y):=
 zY qk (E:=KZ N) (L:=qR (Kk N)) (st:=qnD f) (g:=(Jq N n f)) (R:=zC f) (Wn N) (qu (by kernel_rfl) trivial) (rg0 (by kernel_rfl)) (fun v=>by kernel_rfl) (fun w y h=>by
 rcases w with w | w
 ·exact qnS N f n w y h
 ·exact zl (st:=zC f) (fun y=>by rcases y with _ | _<;>rfl) w y h
) (js0 rfl) n v y h
abbrev Zb:=Unit
def qnQ:SP:=⟨0,24,[],[(13,.ag [.fn 166 [] [.k (.p 20 [] 0),.k (.p 30 [] 0)],.fn 168 [] [.k (.p 20 [] 0),.k (.p 30 [] 0)],.fn 171 [] [.k (.p 20 [] 0),.k (.p 30 [] 0)]]),(14,.k (.ic .i64 1))],[(20,.cell false (.x qq)),(30,.cell false (.x qq))],false,[]⟩
def qdY (f:zw) (v:Zb):TSt:=jq qnQ [dv qq f.1,dv qq f.2]
abbrev KI:=Za⊕zx
def Q_ (N:Nat) (o_3:qd) (o_3_2:qd) (v:Zb):Tree (Zb⊕KI):=
 .chk (0≤(1:Int)∧(1:Int) < ((3:Nat):Int)) <|
 .bind (qcA N o_3 o_3_2) fun r1=>
 .cond (!decide (r1=((0:Int)))) (
 .ret (.inr (.inr ((.inl (decide (r1 < ((0:Int))))))))) <|
 .ret (.inr (.inl ()))
def Jp (N n:Nat) (f:zw):KI→Option zx
 | .inl w=>qdQ N n f w
 | .inr w=>some w
def qnx (f:zw):KI→Ex×TSt
 | .inl w=>(.normal,qdW f w)
 | .inr w=>zC f w
def qdP (N n:Nat) (f:zw) (v:Zb):Option zx:=q_ (Q_ N f.1 f.2) (Jp N n f) n v
theorem qnT (N:Nat) (f:zw) (n:Nat) (v:Zb) (y:zx) (h:qdP N n f v=some y):LG Tryz.prog WA 159 (zd qa7 3) (qdY f v) (zC f y):=
 zY qk (E:=KZ N) (L:=qR (Kk N)) (st:=qnx f) (g:=(Jp N n f)) (R:=zC f) (Wn N) (qu (by kernel_rfl) trivial) (rg0 (by kernel_rfl)) (fun v=>by kernel_rfl) (fun w y h=>by
 rcases w with w | w
 ·exact qnA N f n w y h
 ·exact zl (st:=zC f) (fun y=>by rcases y with _ | _<;>rfl) w y h
) (js0 rfl) n v y h
abbrev V8:=Unit
def qh6:SP:=⟨0,24,[],[(13,.ag [.fn 166 [] [.k (.p 20 [] 0),.k (.p 30 [] 0)],.fn 168 [] [.k (.p 20 [] 0),.k (.p 30 [] 0)],.fn 171 [] [.k (.p 20 [] 0),.k (.p 30 [] 0)]]),(14,.k (.ic .i64 0))],[(20,.cell false (.x qq)),(30,.cell false (.x qq))],false,[]⟩
def qsz (f:zw) (v:V8):TSt:=jq qh6 [dv qq f.1,dv qq f.2]
abbrev qcg:=Zb⊕zx
def Y7 (N:Nat) (o_3:qd) (o_3_2:qd) (v:V8):Tree (V8⊕qcg):=
 .chk (0≤(0:Int)∧(0:Int) < ((3:Nat):Int)) <|
 .bind (qcB N o_3 o_3_2) fun r1=>
 .cond (!decide (r1=((0:Int)))) (
 .ret (.inr (.inr ((.inl (decide (r1 < ((0:Int))))))))) <|
 .ret (.inr (.inl ()))
def qcb (N n:Nat) (f:zw):qcg→Option zx
 | .inl w=>qdP N n f w
 | .inr w=>some w
def qr0 (f:zw):qcg→Ex×TSt
 | .inl w=>(.normal,qdY f w)
 | .inr w=>zC f w
def qim (N n:Nat) (f:zw) (v:V8):Option zx:=q_ (Y7 N f.1 f.2) (qcb N n f) n v
theorem qsM (N:Nat) (f:zw) (n:Nat) (v:V8) (y:zx) (h:qim N n f v=some y):LG Tryz.prog WA 159 (zd qa7 3) (qsz f v) (zC f y):=
 zY qk (E:=KZ N) (L:=qR (Kk N)) (st:=qr0 f) (g:=(qcb N n f)) (R:=zC f) (Wn N) (qu (by kernel_rfl) trivial) (rg0 (by kernel_rfl)) (fun v=>by kernel_rfl) (fun w y h=>by
 rcases w with w | w
 ·exact qnT N f n w y h
 ·exact zl (st:=zC f) (fun y=>by rcases y with _ | _<;>rfl) w y h
) (js0 rfl) n v y h
def qbM (N:Nat) (o_3:qd) (o_3_2:qd):Option zx:=qim N N (o_3,o_3_2) ()
def qhw (N:Nat):qH:=smL qh6 [qq,qq] zx (fun x=>qbM N x.1 x.2.1) (csS cs1) fun x=>zC (x.1,x.2.1)
theorem qqJ (N:Nat):v8 Tryz.prog WA 159 (zd qa7 3) (qhw N):=jw fun x z h=>qsM N (x.1,x.2.1) N () z h
def qzi (z:Bool):TV×THp:=(xb z,[])
def qg_ (N:Nat) (a0:qd) (a1:qd):Tree (Bool):=
 .bind (qbM N a0 a1) fun z1=>
 .sum z1 (fun z2=>
 .ret z2) fun z2=>
 .ret false
def qfU (N:Nat) (a0:qd) (a1:qd):Option (Bool):=(qg_ N a0 a1).run some
def qyG (N:Nat):List (Nat×qH):=[(3,qhw N)]
def qom (N:Nat):Ent:=smF ⟨159,[],[.x qq,.x qq],[],[]⟩ [qq,qq] (Bool) (fun x=>qfU N x.1 x.2.1) cs1 fun _=>qzi
theorem qvA (N:Nat):zc Tryz.prog (qom N):=
 q8 (H:=WA) (L:=qR (qyG N)) (ts:=[qq,qq]) (T:=fun x=>qg_ N x.1 x.2.1) 0 qEm (Wn N) (qu (by kernel_rfl) ⟨qqJ N,trivial⟩) (rg0 (by kernel_rfl)) fun x=>by kernel_rfl
noncomputable def qFg:Code:=Tryz.f144.body.getD .skip
theorem qC5:FnF Tryz.prog 144 Tryz.f144 qFg:=⟨qk,by kernel_rfl,by kernel_rfl,by kernel_rfl⟩
def qyu:TH:={ live:=[(0,[2,3,4]),(1,[2,3,4,7]),(2,[4]),(3,[4])] }
def qyV (N:Nat):List Ent:=[qom N]
theorem qum (N:Nat):qT Tryz.prog (qyV N):=⟨qvA N,trivial⟩
def qyC (z:qd):TV×THp:=(.tv qq z,[])
def qhs (N:Nat) (a0:qd) (a1:qd):Tree (qd):=
 .bind (qfU N a0 a1) fun r1=>
 .cond r1 (
 .ret a1) <|
 .ret a0
def qgc (N:Nat) (a0:qd) (a1:qd):Option (qd):=(qhs N a0 a1).run some
def qyD (N:Nat):List (Nat×qH):=[]
def qoc (N:Nat):Ent:=smF ⟨144,[],[.x qq,.x qq],[],[]⟩ [qq,qq] (qd) (fun x=>qgc N x.1 x.2.1) cs1 fun _=>qyC
theorem qxV (N:Nat):zc Tryz.prog (qoc N):=
 q8 (H:=qyu) (L:=qR (qyD N)) (ts:=[qq,qq]) (T:=fun x=>qhs N x.1 x.2.1) 0 qC5 (qum N) (qu (by kernel_rfl) trivial) (rg0 (by kernel_rfl)) fun x=>by kernel_rfl
noncomputable def qlz:Code:=Tryz.f130.body.getD .skip
theorem qC3:FnF Tryz.prog 130 Tryz.f130 qlz:=⟨qk,by kernel_rfl,by kernel_rfl,by kernel_rfl⟩
def YJ:TH:={ live:=[(0,[0,3]),(1,[0,9,10,11]),(2,[0,9,10,11,12]),(3,[0,5,9,10,11]),(4,[0,5,6,7,9,10,11]),(5,[0,5,6,9,10,11,22]),(6,[0,9,10,11]),(7,[0,9,10,11]),(8,[0,9,10,11])] }
def qdd (N:Nat):List Ent:=[qoc N]
theorem qbE (N:Nat):qT Tryz.prog (qdd N):=⟨qxV N,trivial⟩
abbrev ZX:=List qc×Int
abbrev vF:=Nat×List (Int×qd×Nat)×Int×Bool
def QC (f:ZX) (y:vF):Ex×TSt:=(.exit 0,⟨1,36,[250],[(0,.m 250),(9,.tv (.sl 4 qp) f.1),(10,xi f.2),(11,xi y.2.2.1),(12,xb y.2.2.2)],[(250,.map y.1 (.i .i64) qq (y.2.1:List (Int×qd×Nat)))],false,[]⟩)
def qiv (N:Nat):List (Nat×qH):=[]
abbrev QB:=Nat×List (Int×qd×Nat)×Int
def qa2:SP:=⟨1,36,[250],[(0,.k (.m 250)),(9,.x (.sl 4 qp)),(10,.x (.i .i64)),(11,.x (.i .i64))],[(250,.map (.i .i64) qq)],false,[]⟩
def qhX (f:ZX) (v:QB):TSt:=jq qa2 [dv .nat v.1,dv (X3 (.i .i64) qq) v.2.1,dv (.sl 4 qp) f.1,dv (.i .i64) f.2,dv (.i .i64) v.2.2]
def QI (N:Nat) (s9_2:List qc) (s10_2:Int) (v:QB):Tree (QB⊕vF):=
 .cond (decide (v.2.2 < s10_2)) (
 .bind (zn s9_2 v.2.2) fun e1=>
 .opt (fnd (β:=qd) (.i .i64) (qc.No e1) v.2.1) (
 .chk (qz (v.2.2 + 1)) <|
 .ret (.inl ((QT (.i .i64) (qc.No e1) (qc.C e1) v.1 v.2.1).1,(QT (.i .i64) (qc.No e1) (qc.C e1) v.1 v.2.1).2,v.2.2 + 1))) fun e2=>
 .bind (qgc N e2.1 (qc.C e1)) fun r3=>
 .chk (qz (v.2.2 + 1)) <|
 .ret (.inl ((QT (.i .i64) (qc.No e1) r3 v.1 v.2.1).1,(QT (.i .i64) (qc.No e1) r3 v.1 v.2.1).2,v.2.2 + 1))) <|
 .ret (.inr (v.1,v.2.1,v.2.2,decide (v.2.2 < s10_2)))
def qa8 (N n:Nat) (f:ZX) (v:QB):Option vF:=q_ (QI N f.1 f.2) some n v
theorem qhy (N:Nat) (f:ZX) (n:Nat) (v:QB) (y:vF) (h:qa8 N n f v=some y):LG Tryz.prog YJ 130 (zd qlz 2) (qhX f v) (QC f y):=
 zY qk (E:=qdd N) (L:=qR (qiv N)) (st:=QC f) (g:=some) (R:=QC f) (qbE N) (qu (by kernel_rfl) trivial) (rg0 (by kernel_rfl)) (fun v=>by kernel_rfl) (zl (st:=QC f) fun y=>by rfl) (js0 rfl) n v y h
def WT (N:Nat) (s9_2:List qc) (s10_2:Int) (o_2:Nat) (o_2_2:List (Int×qd×Nat)) (s11_2:Int):Option vF:=qa8 N N (s9_2,s10_2) (o_2,o_2_2,s11_2)
def qaJ (N:Nat):qH:=smL qa2 [.nat,(X3 (.i .i64) qq),(.sl 4 qp),(.i .i64),(.i .i64)] vF (fun x=>WT N x.2.2.1 x.2.2.2.1 x.1 x.2.1 x.2.2.2.2.1) cs1 fun x=>QC (x.2.2.1,x.2.2.2.1)
theorem qha (N:Nat):v8 Tryz.prog YJ 130 (zd qlz 2) (qaJ N):=jw fun x z h=>qhy N (x.2.2.1,x.2.2.2.1) N (x.1,x.2.1,x.2.2.2.2.1) z h
def qlt (z:Nat×List (Int×qd×Nat)):TV×THp:=(.tup [],[(250,.map z.1 (.i .i64) qq (z.2:List (Int×qd×Nat)))])
def Yx (N:Nat) (a0:Nat) (a1:List (Int×qd×Nat)) (a2:qa):Tree (Nat×List (Int×qd×Nat)):=
 .bind (WT N (qa.F a2) (((qa.F a2).length:Nat):Int) a0 a1 0) fun z1=>
 .ret (z1.1,z1.2.1)
def JX (N:Nat) (a0:Nat) (a1:List (Int×qd×Nat)) (a2:qa):Option (Nat×List (Int×qd×Nat)):=(Yx N a0 a1 a2).run some
def qkX (N:Nat):List (Nat×qH):=[(2,qaJ N)]
def qdj (N:Nat):Ent:=smF ⟨130,[],[.k (.m 250),.x qh],[],[(250,.map (.i .i64) qq)]⟩ [.nat,(X3 (.i .i64) qq),qh] (Nat×List (Int×qd×Nat)) (fun x=>JX N x.1 x.2.1 x.2.2.1) cs1 fun _=>qlt
theorem qkx (N:Nat):zc Tryz.prog (qdj N):=
 q8 (H:=YJ) (L:=qR (qkX N)) (ts:=[.nat,(X3 (.i .i64) qq),qh]) (T:=fun x=>Yx N x.1 x.2.1 x.2.2.1) 0 qC3 (qbE N) (qu (by kernel_rfl) ⟨qha N,trivial⟩) (rg0 (by kernel_rfl)) fun x=>by kernel_rfl
noncomputable def qD1:Code:=Tryz.f131.body.getD .skip
theorem qDV:FnF Tryz.prog 131 Tryz.f131 qD1:=⟨qk,by kernel_rfl,by kernel_rfl,by kernel_rfl⟩
def qzz:TH:={ live:=[(0,[2,3,4]),(1,[2,3,4,7]),(2,[4]),(3,[4])] }
def qyS (N:Nat):List Ent:=[Yk N]
theorem qua (N:Nat):qT Tryz.prog (qyS N):=⟨qak N,trivial⟩
def qyR (z:qf):TV×THp:=(.tv qn z,[])
def qg5 (N:Nat) (a0:qf) (a1:qf):Tree (qf):=
 .bind (QY N a0 a1) fun r1=>
 .cond r1 (
 .ret a1) <|
 .ret a0
def qf7 (N:Nat) (a0:qf) (a1:qf):Option (qf):=(qg5 N a0 a1).run some
def qzs (N:Nat):List (Nat×qH):=[]
def qon (N:Nat):Ent:=smF ⟨131,[],[.x qn,.x qn],[],[]⟩ [qn,qn] (qf) (fun x=>qf7 N x.1 x.2.1) cs1 fun _=>qyR
theorem qwp (N:Nat):zc Tryz.prog (qon N):=
 q8 (H:=qzz) (L:=qR (qzs N)) (ts:=[qn,qn]) (T:=fun x=>qg5 N x.1 x.2.1) 0 qDV (qua N) (qu (by kernel_rfl) trivial) (rg0 (by kernel_rfl)) fun x=>by kernel_rfl
noncomputable def qE2:Code:=Tryz.f132.body.getD .skip
theorem qDS:FnF Tryz.prog 132 Tryz.f132 qE2:=⟨qk,by kernel_rfl,by kernel_rfl,by kernel_rfl⟩
def qiq:TH:={ live:=[(0,[2,3]),(1,[4])],esc:=true }
def qic (N:Nat):List Ent:=[]
theorem qfw (N:Nat):qT Tryz.prog (qic N):=trivial
def qir (a0:Nat) (a1:List (Int×qd×Nat)) (a2:qf) (z:Unit):TV×THp:=(.fn (.func 145) [] [.p 100020 [] 0,.p 100030 [] 0],[(250,.map a0 (.i .i64) qq a1),(100020,.cell false (.m 250)),(100030,.cell false (.tv qn a2))])
def qa4 (a0:Nat) (a1:List (Int×qd×Nat)) (a2:qf):Tree (Unit):=
 .ret ()
def qca (a0:Nat) (a1:List (Int×qd×Nat)) (a2:qf):Option (Unit):=(qa4 a0 a1 a2).run some
def qih:List (Nat×qH):=[]
def qaQ:Ent:=smF ⟨132,[],[.k (.m 250),.x qn],[],[(250,.map (.i .i64) qq)]⟩ [.nat,(X3 (.i .i64) qq),qn] (Unit) (fun x=>qca x.1 x.2.1 x.2.2.1) cs1 fun x=>qir x.1 x.2.1 x.2.2.1
theorem qgN:zc Tryz.prog (qaQ):=
 q8 (H:=qiq) (L:=qR (qih)) (ts:=[.nat,(X3 (.i .i64) qq),qn]) (T:=fun x=>qa4 x.1 x.2.1 x.2.2.1) 0 qDS (qfw 0) (qu (by kernel_rfl) trivial) (rg0 (by kernel_rfl)) fun x=>by kernel_rfl
def qmi:TH:={ live:=[(0,[2,3,4]),(1,[2,3,4,23]),(2,[4,5]),(3,[2,3,4,6]),(4,[2,3,4,6]),(5,[2,3,4,6]),(6,[4,6,7]),(7,[4,7,43]),(8,[7,8]),(10,[4,5])],dec:=[12,17],fresh:=[43] }
def qkS (N:Nat):List Ent:=[]
theorem qjM (N:Nat):qT Tryz.prog (qkS N):=trivial
def qmB (a0:List qc) (a1:List qc) (a2:Nat) (a3:List (Int×qd×Nat)) (a4:Vector UInt8 16) (a5:qf) (a6:Vector UInt8 16) (a7:qf) (a8:qf) (a9:qc) (z:Unit):TV×THp:=(.bc true,[(40,.cell false (.ag [.tv (.ba 16) a4,.tv qn a5,.v 45 a0.length])),(45,.vec false 4 (.sl 4 qp) a0),(70,.cell false (.ag [.tv (.ba 16) a6,.tv qn a7,.v 75 ((a1++[a9]).length)])),(75,.vec false 4 (.sl 4 qp) (a1++[a9]:List qc)),(250,.map a2 (.i .i64) qq a3),(50080,.loop [44] 52 [(4,.p 40 [] 0),(7,.p 70 [] 0),(43,.fn (.func 145) [] [.p 100020 [] 0,.p 100030 [] 0])] 11300008 113 .ready none 50081),(50081,.dfr true),(100020,.cell false (.m 250)),(100030,.cell false (.tv qn a8))])
def Yp (a0:List qc) (a1:List qc) (a2:Nat) (a3:List (Int×qd×Nat)) (a4:Vector UInt8 16) (a5:qf) (a6:Vector UInt8 16) (a7:qf) (a8:qf) (a9:qc):Tree (Unit):=
 .chk (VN a1.length a1.length ((a1++[a9]).length) 40) <|
 .ret ()
def XM (a0:List qc) (a1:List qc) (a2:Nat) (a3:List (Int×qd×Nat)) (a4:Vector UInt8 16) (a5:qf) (a6:Vector UInt8 16) (a7:qf) (a8:qf) (a9:qc):Option (Unit):=(Yp a0 a1 a2 a3 a4 a5 a6 a7 a8 a9).run some
def qmR:List (Nat×qH):=[]
def qc7:Ent:=smR 50080 [.x qp] [(40,.cell false (.ag [.x (.ba 16),.x qn,.vs 45])),(45,.vec false 4),(70,.cell false (.ag [.x (.ba 16),.x qn,.vs 75])),(75,.vec false 4),(250,.map (.i .i64) qq),(50080,.loop [44] 52 [(4,.k (.p 40 [] 0)),(7,.k (.p 70 [] 0)),(43,.fn 145 [] [.k (.p 100020 [] 0),.k (.p 100030 [] 0)])] 11300008 113 .ready none 50081),(50081,.dfr true),(100020,.cell false (.k (.m 250))),(100030,.cell false (.x qn))] [(.sl 4 qp),(.sl 4 qp),.nat,(X3 (.i .i64) qq),(.ba 16),qn,(.ba 16),qn,qn,qp] (Unit) (fun x=>XM x.1 x.2.1 x.2.2.1 x.2.2.2.1 x.2.2.2.2.1 x.2.2.2.2.2.1 x.2.2.2.2.2.2.1 x.2.2.2.2.2.2.2.1 x.2.2.2.2.2.2.2.2.1 x.2.2.2.2.2.2.2.2.2.1) cs1 fun x=>qmB x.1 x.2.1 x.2.2.1 x.2.2.2.1 x.2.2.2.2.1 x.2.2.2.2.2.1 x.2.2.2.2.2.2.1 x.2.2.2.2.2.2.2.1 x.2.2.2.2.2.2.2.2.1 x.2.2.2.2.2.2.2.2.2.1
theorem qkH:zc Tryz.prog (qc7):=
 qKO (H:=qmi) (L:=qR (qmR)) (ts:=[(.sl 4 qp),(.sl 4 qp),.nat,(X3 (.i .i64) qq),(.ba 16),qn,(.ba 16),qn,qn,qp]) (T:=fun x=>Yp x.1 x.2.1 x.2.2.1 x.2.2.2.1 x.2.2.2.2.1 x.2.2.2.2.2.1 x.2.2.2.2.2.2.1 x.2.2.2.2.2.2.2.1 x.2.2.2.2.2.2.2.2.1 x.2.2.2.2.2.2.2.2.2.1) (K:=113) (cid:=11300008) 2 qk (qjM 0) (by kernel_rfl) (qu (by kernel_rfl) trivial) (rg0 (by kernel_rfl)) (rg0 (by kernel_rfl)) (fun x=>by kernel_rfl) fun x=>by kernel_rfl
noncomputable def qli:Code:=Tryz.f145.body.getD .skip
theorem qD_:FnF Tryz.prog 145 Tryz.f145 qli:=⟨qk,by kernel_rfl,by kernel_rfl,by kernel_rfl⟩
def J_:TH:={ live:=[(0,[0,1,2,7]),(1,[0,1,2,7,8]),(2,[0,1,2,4,7]),(3,[0,1,2,4,5,6,7]),(4,[0,1,2,7,30]),(5,[0,1,2,7])],dec:=[17,23] }
def Ky (N:Nat):List Ent:=[Yk N,qc7]
theorem W0 (N:Nat):qT Tryz.prog (Ky N):=⟨qak N,qkH,trivial⟩
abbrev Qv:=List qc×Nat×List (Int×qd×Nat)×Vector UInt8 16×qf×Vector UInt8 16×qf×qf
abbrev jz:=List qc×Int×Bool
def ve (f:Qv) (y:jz):Ex×TSt:=(.exit 0,⟨2,32,[40,45,70,75,250,50080,50081,100020,100030],[(0,.yl 50080),(1,.p 100020 [] 0),(2,.p 100030 [] 0),(7,xi y.2.1),(8,xb y.2.2)],[(40,.cell false (.ag [.tv (.ba 16) f.2.2.2.1,.tv qn f.2.2.2.2.1,.v 45 f.1.length])),(45,.vec false 4 (.sl 4 qp) f.1),(70,.cell false (.ag [.tv (.ba 16) f.2.2.2.2.2.1,.tv qn f.2.2.2.2.2.2.1,.v 75 y.1.length])),(75,.vec false 4 (.sl 4 qp) (y.1:List qc)),(250,.map f.2.1 (.i .i64) qq f.2.2.1),(50080,.loop [44] 52 [(4,.p 40 [] 0),(7,.p 70 [] 0),(43,.fn (.func 145) [] [.p 100020 [] 0,.p 100030 [] 0])] 11300008 113 .ready none 50081),(50081,.dfr true),(100020,.cell false (.m 250)),(100030,.cell false (.tv qn f.2.2.2.2.2.2.2))],false,[]⟩)
def qdG (N:Nat):List (Nat×qH):=[]
abbrev vd:=List qc×Int
def Wu:SP:=⟨2,32,[40,45,70,75,250,50080,50081,100020,100030],[(0,.k (.yl 50080)),(1,.k (.p 100020 [] 0)),(2,.k (.p 100030 [] 0)),(7,.x (.i .i64))],[(40,.cell false (.ag [.x (.ba 16),.x qn,.vs 45])),(45,.vec false 4),(70,.cell false (.ag [.x (.ba 16),.x qn,.vs 75])),(75,.vec false 4),(250,.map (.i .i64) qq),(50080,.loop [44] 52 [(4,.k (.p 40 [] 0)),(7,.k (.p 70 [] 0)),(43,.fn 145 [] [.k (.p 100020 [] 0),.k (.p 100030 [] 0)])] 11300008 113 .ready none 50081),(50081,.dfr true),(100020,.cell false (.k (.m 250))),(100030,.cell false (.x qn))],false,[]⟩
def qdK (f:Qv) (v:vd):TSt:=jq Wu [dv (.sl 4 qp) f.1,dv (.sl 4 qp) v.1,dv .nat f.2.1,dv (X3 (.i .i64) qq) f.2.2.1,dv (.ba 16) f.2.2.2.1,dv qn f.2.2.2.2.1,dv (.ba 16) f.2.2.2.2.2.1,dv qn f.2.2.2.2.2.2.1,dv qn f.2.2.2.2.2.2.2,dv (.i .i64) v.2]
def Qq (N:Nat) (o_1:List qc) (o_1_3:Nat) (o_1_4:List (Int×qd×Nat)) (o_1_5:Vector UInt8 16) (o_1_6:qf) (o_1_7:Vector UInt8 16) (o_1_8:qf) (o_1_9:qf) (v:vd):Tree (vd⊕jz):=
 .cond (decide (v.2 < ((8:Int)))) (
 .opt (fnd (β:=qd) (.i .i64) v.2 o_1_4) (
 .chk (qz (v.2 + 1)) <|
 .ret (.inl (v.1,v.2 + 1))) fun e1=>
 .bind (QY N o_1_9 (qd.S e1.1)) fun r2=>
 .cond r2 (
 .bind (vg [(o_1.length,o_1.length),(v.1.length,v.1.length)] (XM o_1 v.1 o_1_3 o_1_4 o_1_5 o_1_6 o_1_7 o_1_8 o_1_9 (qc.mk v.2 e1.1))) fun r3=>
 .chk (qz (v.2 + 1)) <|
 .ret (.inl (v.1++[qc.mk v.2 e1.1],v.2 + 1))) <|
 .chk (qz (v.2 + 1)) <|
 .ret (.inl (v.1,v.2 + 1))) <|
 .ret (.inr (v.1,v.2,decide (v.2 < ((8:Int)))))
def Wh (N n:Nat) (f:Qv) (v:vd):Option jz:=q_ (Qq N f.1 f.2.1 f.2.2.1 f.2.2.2.1 f.2.2.2.2.1 f.2.2.2.2.2.1 f.2.2.2.2.2.2.1 f.2.2.2.2.2.2.2) some n v
theorem qdM (N:Nat) (f:Qv) (n:Nat) (v:vd) (y:jz) (h:Wh N n f v=some y):LG Tryz.prog J_ 145 (zd qli 1) (qdK f v) (ve f y):=
 zY qk (E:=Ky N) (L:=qR (qdG N)) (st:=ve f) (g:=some) (R:=ve f) (W0 N) (qu (by kernel_rfl) trivial) (rg0 (by kernel_rfl)) (fun v=>by kernel_rfl) (zl (st:=ve f) fun y=>by rfl) (js0 rfl) n v y h
def J2 (N:Nat) (o_1:List qc) (o_1_3:Nat) (o_1_4:List (Int×qd×Nat)) (o_1_5:Vector UInt8 16) (o_1_6:qf) (o_1_7:Vector UInt8 16) (o_1_8:qf) (o_1_9:qf) (o_1_2:List qc) (s7_1:Int):Option jz:=Wh N N (o_1,o_1_3,o_1_4,o_1_5,o_1_6,o_1_7,o_1_8,o_1_9) (o_1_2,s7_1)
def Wo (N:Nat):qH:=smL Wu [(.sl 4 qp),(.sl 4 qp),.nat,(X3 (.i .i64) qq),(.ba 16),qn,(.ba 16),qn,qn,(.i .i64)] jz (fun x=>J2 N x.1 x.2.2.1 x.2.2.2.1 x.2.2.2.2.1 x.2.2.2.2.2.1 x.2.2.2.2.2.2.1 x.2.2.2.2.2.2.2.1 x.2.2.2.2.2.2.2.2.1 x.2.1 x.2.2.2.2.2.2.2.2.2.1) cs1 fun x=>ve (x.1,x.2.2.1,x.2.2.2.1,x.2.2.2.2.1,x.2.2.2.2.2.1,x.2.2.2.2.2.2.1,x.2.2.2.2.2.2.2.1,x.2.2.2.2.2.2.2.2.1)
theorem qdl (N:Nat):v8 Tryz.prog J_ 145 (zd qli 1) (Wo N):=jw fun x z h=>qdM N (x.1,x.2.2.1,x.2.2.2.1,x.2.2.2.2.1,x.2.2.2.2.2.1,x.2.2.2.2.2.2.1,x.2.2.2.2.2.2.2.1,x.2.2.2.2.2.2.2.2.1) N (x.2.1,x.2.2.2.2.2.2.2.2.2.1) z h
def qfB (a0:List qc) (a2:Nat) (a3:List (Int×qd×Nat)) (a4:Vector UInt8 16) (a5:qf) (a6:Vector UInt8 16) (a7:qf) (a8:qf) (z:List qc):TV×THp:=(.tup [],[(40,.cell false (.ag [.tv (.ba 16) a4,.tv qn a5,.v 45 a0.length])),(45,.vec false 4 (.sl 4 qp) a0),(70,.cell false (.ag [.tv (.ba 16) a6,.tv qn a7,.v 75 z.length])),(75,.vec false 4 (.sl 4 qp) z),(250,.map a2 (.i .i64) qq a3),(50080,.loop [44] 52 [(4,.p 40 [] 0),(7,.p 70 [] 0),(43,.fn (.func 145) [] [.p 100020 [] 0,.p 100030 [] 0])] 11300008 113 .ready none 50081),(50081,.dfr true),(100020,.cell false (.m 250)),(100030,.cell false (.tv qn a8))])
def Va (N:Nat) (a0:List qc) (a1:List qc) (a2:Nat) (a3:List (Int×qd×Nat)) (a4:Vector UInt8 16) (a5:qf) (a6:Vector UInt8 16) (a7:qf) (a8:qf):Tree (List qc):=
 .bind (vg [(a0.length,a0.length),(a1.length,a1.length)] (J2 N a0 a2 a3 a4 a5 a6 a7 a8 a1 0)) fun z1=>
 .ret z1.1
def Z3 (N:Nat) (a0:List qc) (a1:List qc) (a2:Nat) (a3:List (Int×qd×Nat)) (a4:Vector UInt8 16) (a5:qf) (a6:Vector UInt8 16) (a7:qf) (a8:qf):Option (List qc):=(Va N a0 a1 a2 a3 a4 a5 a6 a7 a8).run some
def qfy (N:Nat):List (Nat×qH):=[(1,Wo N)]
def KB (N:Nat):Ent:=smF ⟨145,[],[.k (.yl 50080)],[.k (.p 100020 [] 0),.k (.p 100030 [] 0)],[(40,.cell false (.ag [.x (.ba 16),.x qn,.vs 45])),(45,.vec false 4),(70,.cell false (.ag [.x (.ba 16),.x qn,.vs 75])),(75,.vec false 4),(250,.map (.i .i64) qq),(50080,.loop [44] 52 [(4,.k (.p 40 [] 0)),(7,.k (.p 70 [] 0)),(43,.fn 145 [] [.k (.p 100020 [] 0),.k (.p 100030 [] 0)])] 11300008 113 .ready none 50081),(50081,.dfr true),(100020,.cell false (.k (.m 250))),(100030,.cell false (.x qn))]⟩ [(.sl 4 qp),(.sl 4 qp),.nat,(X3 (.i .i64) qq),(.ba 16),qn,(.ba 16),qn,qn] (List qc) (fun x=>Z3 N x.1 x.2.1 x.2.2.1 x.2.2.2.1 x.2.2.2.2.1 x.2.2.2.2.2.1 x.2.2.2.2.2.2.1 x.2.2.2.2.2.2.2.1 x.2.2.2.2.2.2.2.2.1) cs1 fun x=>qfB x.1 x.2.2.1 x.2.2.2.1 x.2.2.2.2.1 x.2.2.2.2.2.1 x.2.2.2.2.2.2.1 x.2.2.2.2.2.2.2.1 x.2.2.2.2.2.2.2.2.1
theorem qe_ (N:Nat):zc Tryz.prog (KB N):=
 q8 (H:=J_) (L:=qR (qfy N)) (ts:=[(.sl 4 qp),(.sl 4 qp),.nat,(X3 (.i .i64) qq),(.ba 16),qn,(.ba 16),qn,qn]) (T:=fun x=>Va N x.1 x.2.1 x.2.2.1 x.2.2.2.1 x.2.2.2.2.1 x.2.2.2.2.2.1 x.2.2.2.2.2.2.1 x.2.2.2.2.2.2.2.1 x.2.2.2.2.2.2.2.2.1) 1 qD_ (W0 N) (qu (by kernel_rfl) ⟨qdl N,trivial⟩) (rg0 (by kernel_rfl)) fun x=>by kernel_rfl
noncomputable def qFq:Code:=Tryz.f113.body.getD .skip
theorem qEU:FnF Tryz.prog 113 Tryz.f113 qFq:=⟨qk,by kernel_rfl,by kernel_rfl,by kernel_rfl⟩
def qCF:TH:={ live:=[(0,[2,3,4]),(1,[2,3,4,23]),(2,[4,5]),(3,[2,3,4,6]),(4,[2,3,4,6]),(5,[2,3,4,6]),(6,[4,6,7]),(7,[4,7,43]),(8,[7,8]),(10,[4,5])],dec:=[12,17],fresh:=[43],nil:=[(0,[⟨.ob 40 [2],45,(.sl 4 qp)⟩]),(2,[⟨.ob 40 [2],45,(.sl 4 qp)⟩]),(6,[⟨.ob 70 [2],75,(.sl 4 qp)⟩])] }
def qBE (N:Nat):List Ent:=[qfM N,qdj N,qon N,qaQ,KB N]
theorem qw6 (N:Nat):qT Tryz.prog (qBE N):=⟨qix N,qkx N,qwp N,qgN,qe_ N,trivial⟩
def qCv (z:qa×Bool):TV×THp:=(.tup [.tv qh (z.1:qa),xb z.2],[])
def qiX (N:Nat) (a0:qa) (a1:qa):Tree (qa×Bool):=
 .bind (qcv N a0) fun r1=>
 .cond (!r1) (
 .chk (0=0) <|
 .ret (qa.mk ((Vector.replicate 16 0)) (qf.mk 0 0) [],false)) <|
 .bind (qcv N a1) fun r2=>
 .cond (!r2) (
 .chk (0=0) <|
 .ret (qa.mk ((Vector.replicate 16 0)) (qf.mk 0 0) [],false)) <|
 .cond (!(eqE (.ba 16) (qa.ID a0) (qa.ID a1))) (
 .chk (0=0) <|
 .ret (qa.mk ((Vector.replicate 16 0)) (qf.mk 0 0) [],false)) <|
 .bind (JX N 0 [] a0) fun r3=>
 .bind (JX N r3.1 r3.2 a1) fun r4=>
 .bind (qf7 N (qa.qX a0) (qa.qX a1)) fun r5=>
 .bind (qca r4.1 r4.2 r5) fun r6=>
 .bind (vg [(([]:List qc).length,0),(([]:List qc).length,0)] (Z3 N [] [] r4.1 r4.2 ((Vector.replicate 16 0)) (qf.mk 0 0) (qa.ID a0) r5 r5)) fun r7=>
 .chk (r7.length=r7.length) <|
 .ret (qa.mk (qa.ID a0) r5 r7,true)
def qjO (N:Nat) (a0:qa) (a1:qa):Option (qa×Bool):=(qiX N a0 a1).run some
def qCC (N:Nat):List (Nat×qH):=[]
def qqB (N:Nat):Ent:=smF ⟨113,[],[.x qh,.x qh],[],[]⟩ [qh,qh] (qa×Bool) (fun x=>qjO N x.1 x.2.1) cs1 fun _=>qCv
theorem qzl (N:Nat):zc Tryz.prog (qqB N):=
 q8 (H:=qCF) (L:=qR (qCC N)) (ts:=[qh,qh]) (T:=fun x=>qiX N x.1 x.2.1) 0 qEU (qw6 N) (qu (by kernel_rfl) trivial) (rgs (by kernel_rfl)) fun x=>by kernel_rfl
noncomputable def qDi:Code:=Tryz.f155.body.getD .skip
theorem qFm:FnF Tryz.prog 155 Tryz.f155 qDi:=⟨qk,by kernel_rfl,by kernel_rfl,by kernel_rfl⟩
def qnv:TH:={ live:=[(0,[0,2]),(1,[0,2,4]),(2,[0]),(3,[0,2]),(4,[0,2,8]),(5,[0,2]),(6,[0,2]),(7,[0,2,14]),(8,[0,2]),(9,[0,2]),(10,[2])] }
def qnH (N:Nat):List Ent:=[]
theorem qkB (N:Nat):qT Tryz.prog (qnH N):=trivial
def qnU (z:Int):TV×THp:=(xi z,[])
def qdT (a0:Int):Tree (Int):=
 .cond (decide (((4294967296:Int))≤a0)) (
 .chk (0≤(32:Int)) <|
 .cond (decide (65536≤(ZT a0 32))) (
 .chk (0≤(16:Int)) <|
 .cond (decide (256≤(ZT (ZT a0 32) 16))) (
 .chk (0≤(8:Int)) <|
 let w1:Int:=IntKind.u8.wrap (ZT (ZT (ZT a0 32) 16) 8)
 .bind (zn qlx w1) fun e2=>
 .chk (qz ((e2.toNat:Nat):Int)) <|
 .chk (qz (((56:Int)) + ((e2.toNat:Nat):Int))) <|
 .ret (((56:Int)) + ((e2.toNat:Nat):Int))) <|
 .bind (zn qlx (IntKind.u8.wrap (ZT (ZT a0 32) 16))) fun e1=>
 .chk (qz ((e1.toNat:Nat):Int)) <|
 .chk (qz (((48:Int)) + ((e1.toNat:Nat):Int))) <|
 .ret (((48:Int)) + ((e1.toNat:Nat):Int))) <|
 .cond (decide (256≤(ZT a0 32))) (
 .chk (0≤(8:Int)) <|
 .bind (zn qlx (IntKind.u8.wrap (ZT (ZT a0 32) 8))) fun e1=>
 .chk (qz ((e1.toNat:Nat):Int)) <|
 .chk (qz (((40:Int)) + ((e1.toNat:Nat):Int))) <|
 .ret (((40:Int)) + ((e1.toNat:Nat):Int))) <|
 .bind (zn qlx (IntKind.u8.wrap (ZT a0 32))) fun e1=>
 .chk (qz ((e1.toNat:Nat):Int)) <|
 .chk (qz (((32:Int)) + ((e1.toNat:Nat):Int))) <|
 .ret (((32:Int)) + ((e1.toNat:Nat):Int))) <|
 .cond (decide (((65536:Int))≤a0)) (
 .chk (0≤(16:Int)) <|
 .cond (decide (256≤(ZT a0 16))) (
 .chk (0≤(8:Int)) <|
 .bind (zn qlx (IntKind.u8.wrap (ZT (ZT a0 16) 8))) fun e1=>
 .chk (qz ((e1.toNat:Nat):Int)) <|
 .chk (qz (((24:Int)) + ((e1.toNat:Nat):Int))) <|
 .ret (((24:Int)) + ((e1.toNat:Nat):Int))) <|
 .bind (zn qlx (IntKind.u8.wrap (ZT a0 16))) fun e1=>
 .chk (qz ((e1.toNat:Nat):Int)) <|
 .chk (qz (((16:Int)) + ((e1.toNat:Nat):Int))) <|
 .ret (((16:Int)) + ((e1.toNat:Nat):Int))) <|
 .cond (decide (((256:Int))≤a0)) (
 .chk (0≤(8:Int)) <|
 .bind (zn qlx (IntKind.u8.wrap (ZT a0 8))) fun e1=>
 .chk (qz ((e1.toNat:Nat):Int)) <|
 .chk (qz (((8:Int)) + ((e1.toNat:Nat):Int))) <|
 .ret (((8:Int)) + ((e1.toNat:Nat):Int))) <|
 .bind (zn qlx (IntKind.u8.wrap a0)) fun e1=>
 .chk (qz ((e1.toNat:Nat):Int)) <|
 .chk (qz (((0:Int)) + ((e1.toNat:Nat):Int))) <|
 .ret (((0:Int)) + ((e1.toNat:Nat):Int))
def qf8 (a0:Int):Option (Int):=(qdT a0).run some
def qnG:List (Nat×qH):=[]
def qdV:Ent:=smF ⟨155,[],[.x (.i .u64)],[],[]⟩ [(.i .u64)] (Int) (fun x=>qf8 x.1) cs1 fun _=>qnU
theorem qlV:zc Tryz.prog (qdV):=
 q8 (H:=qnv) (L:=qR (qnG)) (ts:=[(.i .u64)]) (T:=fun x=>qdT x.1) 0 qFm (qkB 0) (qu (by kernel_rfl) trivial) (rg0 (by kernel_rfl)) fun x=>by kernel_rfl
noncomputable def qE3:Code:=Tryz.f134.body.getD .skip
theorem qEI:FnF Tryz.prog 134 Tryz.f134 qE3:=⟨qk,by kernel_rfl,by kernel_rfl,by kernel_rfl⟩
def qrI:TH:={ live:=[(0,[0]),(1,[2]),(2,[2])] }
def qrv (N:Nat):List Ent:=[qdV]
theorem qnE (N:Nat):qT Tryz.prog (qrv N):=⟨qlV,trivial⟩
def qqT (z:Int):TV×THp:=(xi z,[])
def qfV (a0:Int):Tree (Int):=
 .bind (qf8 a0) fun r1=>
 .ret r1
def qal (a0:Int):Option (Int):=(qfV a0).run some
def qqY:List (Nat×qH):=[]
def qfS:Ent:=smF ⟨134,[],[.x (.i .u64)],[],[]⟩ [(.i .u64)] (Int) (fun x=>qal x.1) cs1 fun _=>qqT
theorem qpo:zc Tryz.prog (qfS):=
 q8 (H:=qrI) (L:=qR (qqY)) (ts:=[(.i .u64)]) (T:=fun x=>qfV x.1) 0 qEI (qnE 0) (qu (by kernel_rfl) trivial) (rg0 (by kernel_rfl)) fun x=>by kernel_rfl
noncomputable def qDg:Code:=Tryz.f115.body.getD .skip
theorem qC_:FnF Tryz.prog 115 Tryz.f115 qDg:=⟨qk,by kernel_rfl,by kernel_rfl,by kernel_rfl⟩
def qr5:TH:={ live:=[(0,[2,3]),(1,[4])] }
def qrU (N:Nat):List Ent:=[WV]
theorem qpS (N:Nat):qT Tryz.prog (qrU N):=⟨qas,trivial⟩
def qrW (z:Int):TV×THp:=(xi z,[])
def qhB (a0:Vector UInt8 16) (a1:Vector UInt8 16):Tree (Int):=
 .bind (Wq a0.toList a1.toList) fun r1=>
 .ret r1
def qfr (a0:Vector UInt8 16) (a1:Vector UInt8 16):Option (Int):=(qhB a0 a1).run some
def qsg:List (Nat×qH):=[]
def qhz:Ent:=smF ⟨115,[],[.x (.ba 16),.x (.ba 16)],[],[]⟩ [(.ba 16),(.ba 16)] (Int) (fun x=>qfr x.1 x.2.1) cs1 fun _=>qrW
theorem qrN:zc Tryz.prog (qhz):=
 q8 (H:=qr5) (L:=qR (qsg)) (ts:=[(.ba 16),(.ba 16)]) (T:=fun x=>qhB x.1 x.2.1) 0 qC_ (qpS 0) (qu (by kernel_rfl) trivial) (rg0 (by kernel_rfl)) fun x=>by kernel_rfl
noncomputable def qc_:Code:=Tryz.f146.body.getD .skip
theorem qDF:FnF Tryz.prog 146 Tryz.f146 qc_:=⟨qk,by kernel_rfl,by kernel_rfl,by kernel_rfl⟩
def jk:TH:={ live:=[(0,[0,1,2,3,8]),(1,[0,1,2,3,8,14]),(2,[0,1,2,3,8]),(3,[0,1,2,3,8,9]),(4,[0,1,2,3,8,9,34]),(5,[0,1,2,3,8,9]),(6,[0,1,2,3,8,9])],dec:=[21] }
def Qy (N:Nat):List Ent:=[qhz]
theorem Qa (N:Nat):qT Tryz.prog (Qy N):=⟨qrN,trivial⟩
abbrev jF:=Nat×Int×Int×Int
abbrev zG:=List (Vector UInt8 16)×Int×Bool
def jb (f:jF) (y:zG):Ex×TSt:=(.exit 2,⟨1,53,[75],[(0,.v 75 f.1),(1,xi f.2.1),(2,xi f.2.2.1),(3,.fn (.func 115) [] []),(8,xi f.2.2.2),(9,xi y.2.1),(34,xb y.2.2)],[(75,.vec false 16 (.sl 16 (.ba 16)) (y.1:List (Vector UInt8 16)))],false,[]⟩)
def Y6 (N:Nat):List (Nat×qH):=[]
abbrev zZ:=List (Vector UInt8 16)×Int
def Z0:SP:=⟨1,53,[75],[(0,.v 75),(1,.x (.i .i64)),(2,.x (.i .i64)),(3,.fn 115 [] []),(8,.x (.i .i64)),(9,.x (.i .i64))],[(75,.vec false 16)],false,[]⟩
def Y8 (f:jF) (v:zZ):TSt:=jq Z0 [dv (.sl 16 (.ba 16)) v.1,dv .nat f.1,dv (.i .i64) f.2.1,dv (.i .i64) f.2.2.1,dv (.i .i64) f.2.2.2,dv (.i .i64) v.2]
def z_ (N:Nat) (s0_4:Nat) (s1_4:Int) (s2_4:Int) (s8_4:Int) (v:zZ):Tree (zZ⊕zG):=
 .cond (decide (s1_4 < v.2)) (
 .chk (0≤v.2∧v.2 < ((s0_4:Nat):Int)) <|
 .bind (KH v.1 s0_4 v.2.toNat) fun e1=>
 .chk (qz (v.2 - 1)) <|
 .chk (0≤(v.2 - 1)∧(v.2 - 1) < ((s0_4:Nat):Int)) <|
 .bind (KH v.1 s0_4 ((v.2 - 1).toNat)) fun e2=>
 .bind (qfr e1 e2) fun r3=>
 .cond (decide (r3 < ((0:Int)))) (
 .chk (qz (v.2 - 1)) <|
 .chk (qz (v.2 - 1)) <|
 .chk (0≤(v.2 - 1)∧(v.2 - 1) < ((s0_4:Nat):Int)) <|
 .bind (KH v.1 s0_4 ((v.2 - 1).toNat)) fun e4=>
 .chk (0≤v.2∧v.2 < ((s0_4:Nat):Int)) <|
 .bind (KH v.1 s0_4 v.2.toNat) fun e5=>
 .chk (0≤v.2∧v.2 < ((s0_4:Nat):Int)) <|
 .chk (qgh v.1.length s0_4 v.2.toNat) <|
 .chk (0≤(v.2 - 1)∧(v.2 - 1) < ((s0_4:Nat):Int)) <|
 .chk (qgh ((v.1.set v.2.toNat e4).length) s0_4 ((v.2 - 1).toNat)) <|
 .chk (qz (v.2 - 1)) <|
 .ret (.inl ((v.1.set v.2.toNat e4).set ((v.2 - 1).toNat) e5,v.2 - 1))) <|
 .ret (.inr (v.1,v.2,decide (r3 < ((0:Int)))))) <|
 .ret (.inr (v.1,v.2,false))
def Ja (N n:Nat) (f:jF) (v:zZ):Option zG:=q_ (z_ N f.1 f.2.1 f.2.2.1 f.2.2.2) some n v
theorem Km (N:Nat) (f:jF) (n:Nat) (v:zZ) (y:zG) (h:Ja N n f v=some y):LG Tryz.prog jk 146 (zd (zd qc_ 1) 4) (Y8 f v) (jb f y):=
 zY qk (E:=Qy N) (L:=qR (Y6 N)) (st:=jb f) (g:=some) (R:=jb f) (Qa N) (qu (by kernel_rfl) trivial) (rg0 (by kernel_rfl)) (fun v=>by kernel_rfl) (zl (st:=jb f) fun y=>by rfl) (js0 rfl) n v y h
def JL (N:Nat) (s0_4:Nat) (s1_4:Int) (s2_4:Int) (s8_4:Int) (o_4:List (Vector UInt8 16)) (s9_4:Int):Option zG:=Ja N N (s0_4,s1_4,s2_4,s8_4) (o_4,s9_4)
def Z9 (N:Nat):qH:=smL Z0 [(.sl 16 (.ba 16)),.nat,(.i .i64),(.i .i64),(.i .i64),(.i .i64)] zG (fun x=>JL N x.2.1 x.2.2.1 x.2.2.2.1 x.2.2.2.2.1 x.1 x.2.2.2.2.2.1) cs1 fun x=>jb (x.2.1,x.2.2.1,x.2.2.2.1,x.2.2.2.2.1)
theorem W_ (N:Nat):v8 Tryz.prog jk 146 (zd (zd qc_ 1) 4) (Z9 N):=jw fun x z h=>Km N (x.2.1,x.2.2.1,x.2.2.2.1,x.2.2.2.2.1) N (x.1,x.2.2.2.2.2.1) z h
abbrev jE:=Nat×Int×Int
abbrev zH:=List (Vector UInt8 16)×Int×Bool
def jd (f:jE) (y:zH):Ex×TSt:=(.exit 0,⟨1,53,[75],[(0,.v 75 f.1),(1,xi f.2.1),(2,xi f.2.2),(3,.fn (.func 115) [] []),(8,xi y.2.1),(14,xb y.2.2)],[(75,.vec false 16 (.sl 16 (.ba 16)) (y.1:List (Vector UInt8 16)))],false,[]⟩)
def Kd (N:Nat):List (Nat×qH):=[(4,Z9 N)]
abbrev jc:=List (Vector UInt8 16)×Int
def Z8:SP:=⟨1,53,[75],[(0,.v 75),(1,.x (.i .i64)),(2,.x (.i .i64)),(3,.fn 115 [] []),(8,.x (.i .i64))],[(75,.vec false 16)],false,[]⟩
def Ko (f:jE) (v:jc):TSt:=jq Z8 [dv (.sl 16 (.ba 16)) v.1,dv .nat f.1,dv (.i .i64) f.2.1,dv (.i .i64) f.2.2,dv (.i .i64) v.2]
def zu (N:Nat) (s0_1:Nat) (s1_1:Int) (s2_1:Int) (v:jc):Tree (jc⊕zH):=
 .cond (decide (v.2 < s2_1)) (
 .bind (JL N s0_1 s1_1 s2_1 v.2 v.1 v.2) fun z1=>
 .chk (qz (v.2 + 1)) <|
 .ret (.inl (z1.1,v.2 + 1))) <|
 .ret (.inr (v.1,v.2,decide (v.2 < s2_1)))
def Jc (N n:Nat) (f:jE) (v:jc):Option zH:=q_ (zu N f.1 f.2.1 f.2.2) some n v
theorem Ki (N:Nat) (f:jE) (n:Nat) (v:jc) (y:zH) (h:Jc N n f v=some y):LG Tryz.prog jk 146 (zd qc_ 1) (Ko f v) (jd f y):=
 zY qk (E:=Qy N) (L:=qR (Kd N)) (st:=jd f) (g:=some) (R:=jd f) (Qa N) (qu (by kernel_rfl) ⟨W_ N,trivial⟩) (rg0 (by kernel_rfl)) (fun v=>by kernel_rfl) (zl (st:=jd f) fun y=>by rfl) (js0 rfl) n v y h
def jO (N:Nat) (s0_1:Nat) (s1_1:Int) (s2_1:Int) (o_1:List (Vector UInt8 16)) (s8_1:Int):Option zH:=Jc N N (s0_1,s1_1,s2_1) (o_1,s8_1)
def Z2 (N:Nat):qH:=smL Z8 [(.sl 16 (.ba 16)),.nat,(.i .i64),(.i .i64),(.i .i64)] zH (fun x=>jO N x.2.1 x.2.2.1 x.2.2.2.1 x.1 x.2.2.2.2.1) cs1 fun x=>jd (x.2.1,x.2.2.1,x.2.2.2.1)
theorem YI (N:Nat):v8 Tryz.prog jk 146 (zd qc_ 1) (Z2 N):=jw fun x z h=>Ki N (x.2.1,x.2.2.1,x.2.2.2.1) N (x.1,x.2.2.2.2.1) z h
def qaD (z:List (Vector UInt8 16)):TV×THp:=(.tup [],[(75,.vec false 16 (.sl 16 (.ba 16)) z)])
def j8 (N:Nat) (a0:List (Vector UInt8 16)) (a1:Int) (a2:Int):Tree (List (Vector UInt8 16)):=
 .chk (qz (a1 + 1)) <|
 .bind (jO N a0.length a1 a2 a0 (a1 + 1)) fun z1=>
 .ret z1.1
def zK (N:Nat) (a0:List (Vector UInt8 16)) (a1:Int) (a2:Int):Option (List (Vector UInt8 16)):=(j8 N a0 a1 a2).run some
def qaA (N:Nat):List (Nat×qH):=[(1,Z2 N)]
def JY (N:Nat):Ent:=smF ⟨146,[],[.vs 75,.x (.i .i64),.x (.i .i64),.fn 115 [] []],[],[(75,.vec false 16)]⟩ [(.sl 16 (.ba 16)),(.i .i64),(.i .i64)] (List (Vector UInt8 16)) (fun x=>zK N x.1 x.2.1 x.2.2.1) cs1 fun _=>qaD
theorem KK (N:Nat):zc Tryz.prog (JY N):=
 q8 (H:=jk) (L:=qR (qaA N)) (ts:=[(.sl 16 (.ba 16)),(.i .i64),(.i .i64)]) (T:=fun x=>j8 N x.1 x.2.1 x.2.2.1) 0 qDF (Qa N) (qu (by kernel_rfl) ⟨YI N,trivial⟩) (rg0 (by kernel_rfl)) fun x=>by kernel_rfl
noncomputable def qlG:Code:=Tryz.f133.body.getD .skip
theorem qFA:FnF Tryz.prog 133 Tryz.f133 qlG:=⟨qk,by kernel_rfl,by kernel_rfl,by kernel_rfl⟩
def Jm:TH:={ live:=[(0,[0,1,2,3,4,10]),(1,[0,1,2,3,4,10,11]),(2,[0,1,2,3,4,10,11,12]),(3,[0,1,2,3,4,10,11,12,25]),(5,[0,1,2,3,4,10,11,12,32]),(7,[0,1,2,3,4,10,11,12,39]),(8,[0,1,2,3,4,10,11,12]),(9,[0,1,2,3,4,10,11,12]),(10,[0,1,2,3,4,10,11,12,13,14]),(11,[0,1,2,3,4,10,11,12,13,14,56]),(12,[0,1,2,3,4,10,11,12,13]),(13,[0,1,2,3,4,10,11,12,13]),(14,[0,1,2,3,4,10,11,12,13,14]),(15,[0,1,2,3,4,10,11,12,13,75]),(16,[0,1,2,3,4,10,11,12,13,80]),(17,[0,1,2,3,4,10,11,12,13,97]),(18,[0,2,3,4,10,11,15]),(19,[0,1,2,3,4,10,11]),(20,[0,1,2,3,4,12,16,17]),(21,[0,1,2,3,4,11,12,16]),(22,[0,1,2,3,4,11,12,16,18,19]),(23,[0,1,2,3,4,11,16,18,19,20]),(24,[0,1,2,3,4,11,16,18,19,20,125]),(25,[0,1,2,3,4,10,11,16]),(26,[0,2,3,4,10,11,16]),(27,[0,1,2,3,4,10,11]),(28,[0,1,2,3,4,10,11,16]),(29,[0,1,3,4,10,11,16]),(30,[0,1,2,3,4,10,11])],dec:=[69,72,83],raw:=[146] }
def Ww (N:Nat):List Ent:=[JY N]
theorem XA (N:Nat):qT Tryz.prog (Ww N):=⟨KK N,trivial⟩
abbrev vL:=List (Vector UInt8 16)×Int×Int×Int
abbrev jg:=List (Vector UInt8 16)
def jJ (f:vL) (y:jg):Ex×TSt:=(.ret,⟨1,148,[75],[],[(75,.vec false 16 (.sl 16 (.ba 16)) y)],false,[]⟩)
def qb3 (N:Nat):List (Nat×qH):=[]
abbrev jI:=Unit
def VX:SP:=⟨1,148,[75],[(0,.vs 75),(1,.x (.i .i64)),(2,.x (.i .i64)),(3,.x (.i .i64)),(4,.fn 115 [] []),(10,.k (.bc true)),(11,.k (.bc true))],[(75,.vec false 16)],false,[]⟩
def qb5 (f:vL) (v:jI):TSt:=jq VX [dv (.sl 16 (.ba 16)) f.1,dv (.i .i64) f.2.1,dv (.i .i64) f.2.2.1,dv (.i .i64) f.2.2.2]
def vK (N:Nat) (o_2:List (Vector UInt8 16)) (s1_2:Int) (s2_2:Int) (s3_2:Int) (v:jI):Tree (jI⊕jg):=
 .chk (qz (s2_2 - s1_2)) <|
 .cond (decide ((s2_2 - s1_2)≤12)) (
 .bind (vg [(o_2.length,o_2.length)] (zK N o_2 s1_2 s2_2)) fun r1=>
 .ret (.inr r1)) <|
 .cond (decide (s3_2=((0:Int)))) (
 .chk (o_2.length=o_2.length) <|
 .no) <|
 .chk (o_2.length=o_2.length) <|
 .no
def VV (N n:Nat) (f:vL) (v:jI):Option jg:=q_ (vK N f.1 f.2.1 f.2.2.1 f.2.2.2) some n v
theorem qb4 (N:Nat) (f:vL) (n:Nat) (v:jI) (y:jg) (h:VV N n f v=some y):LG Tryz.prog Jm 133 (zd qlG 2) (qb5 f v) (jJ f y):=
 zY qk (E:=Ww N) (L:=qR (qb3 N)) (st:=jJ f) (g:=some) (R:=jJ f) (XA N) (qu (by kernel_rfl) trivial) (rg0 (by kernel_rfl)) (fun v=>by kernel_rfl) (zl (st:=jJ f) fun y=>by rfl) (js0 rfl) n v y h
def ZR (N:Nat) (o_2:List (Vector UInt8 16)) (s1_2:Int) (s2_2:Int) (s3_2:Int):Option jg:=VV N N (o_2,s1_2,s2_2,s3_2) ()
def VW (N:Nat):qH:=smL VX [(.sl 16 (.ba 16)),(.i .i64),(.i .i64),(.i .i64)] jg (fun x=>ZR N x.1 x.2.1 x.2.2.1 x.2.2.2.1) cs1 fun x=>jJ (x.1,x.2.1,x.2.2.1,x.2.2.2.1)
theorem qbH (N:Nat):v8 Tryz.prog Jm 133 (zd qlG 2) (VW N):=jw fun x z h=>qb4 N (x.1,x.2.1,x.2.2.1,x.2.2.2.1) N () z h
def qdy (z:List (Vector UInt8 16)):TV×THp:=(.tup [],[(75,.vec false 16 (.sl 16 (.ba 16)) z)])
def Jg (N:Nat) (a0:List (Vector UInt8 16)) (a1:Int) (a2:Int) (a3:Int):Tree (List (Vector UInt8 16)):=
 .bind (vg [(a0.length,a0.length)] (ZR N a0 a1 a2 a3)) fun z1=>
 .ret z1
def Q3 (N:Nat) (a0:List (Vector UInt8 16)) (a1:Int) (a2:Int) (a3:Int):Option (List (Vector UInt8 16)):=(Jg N a0 a1 a2 a3).run some
def qdC (N:Nat):List (Nat×qH):=[(2,VW N)]
def Wg (N:Nat):Ent:=smF ⟨133,[],[.vs 75,.x (.i .i64),.x (.i .i64),.x (.i .i64),.fn 115 [] []],[],[(75,.vec false 16)]⟩ [(.sl 16 (.ba 16)),(.i .i64),(.i .i64),(.i .i64)] (List (Vector UInt8 16)) (fun x=>Q3 N x.1 x.2.1 x.2.2.1 x.2.2.2.1) cs1 fun _=>qdy
theorem qde (N:Nat):zc Tryz.prog (Wg N):=
 q8 (H:=Jm) (L:=qR (qdC N)) (ts:=[(.sl 16 (.ba 16)),(.i .i64),(.i .i64),(.i .i64)]) (T:=fun x=>Jg N x.1 x.2.1 x.2.2.1 x.2.2.2.1) 0 qFA (XA N) (qu (by kernel_rfl) ⟨qbH N,trivial⟩) (rg0 (by kernel_rfl)) fun x=>by kernel_rfl
noncomputable def qEG:Code:=Tryz.f114.body.getD .skip
theorem qDM:FnF Tryz.prog 114 Tryz.f114 qEG:=⟨qk,by kernel_rfl,by kernel_rfl,by kernel_rfl⟩
def qiE:TH:={ live:=[(0,[0,1,4])],raw:=[133] }
def qje (N:Nat):List Ent:=[qfS,Wg N]
theorem qgV (N:Nat):qT Tryz.prog (qje N):=⟨qpo,qde N,trivial⟩
def qiH (z:List (Vector UInt8 16)):TV×THp:=(.tup [],[(75,.vec false 16 (.sl 16 (.ba 16)) z)])
def XO (N:Nat) (a0:List (Vector UInt8 16)):Tree (List (Vector UInt8 16)):=
 let w1:Int:=IntKind.u64.wrap ((a0.length:Nat):Int)
 .bind (qal w1) fun r2=>
 .bind (vg [(a0.length,a0.length)] (Q3 N a0 0 ((a0.length:Nat):Int) r2)) fun r3=>
 .ret r3
def Vo (N:Nat) (a0:List (Vector UInt8 16)):Option (List (Vector UInt8 16)):=(XO N a0).run some
def qjA (N:Nat):List (Nat×qH):=[]
def qbV (N:Nat):Ent:=smF ⟨114,[],[.vs 75,.fn 115 [] []],[],[(75,.vec false 16)]⟩ [(.sl 16 (.ba 16))] (List (Vector UInt8 16)) (fun x=>Vo N x.1) cs1 fun _=>qiH
theorem qip (N:Nat):zc Tryz.prog (qbV N):=
 q8 (H:=qiE) (L:=qR (qjA N)) (ts:=[(.sl 16 (.ba 16))]) (T:=fun x=>XO N x.1) 0 qDM (qgV N) (qu (by kernel_rfl) trivial) (rg0 (by kernel_rfl)) fun x=>by kernel_rfl
noncomputable def qeC:Code:=Tryz.f83.body.getD .skip
theorem qIh:FnF Tryz.prog 83 Tryz.f83 qeC:=⟨qk,by kernel_rfl,by kernel_rfl,by kernel_rfl⟩
def K6:TH:={ live:=[(0,[2,3,4]),(1,[2,3,4,22]),(2,[4,5]),(3,[2,3,4,6]),(4,[2,3,4,6,7]),(5,[4,6,7,30,31,32]),(6,[4,6,7,30,31,32,33]),(7,[4,6,7,9,30,31,32]),(8,[4,6,7,9,10,11,30,31,32]),(9,[4,6,7,9,10,30,31,32,44]),(10,[4,6,7,9,30,31,32]),(11,[4,6,7,30,31,32]),(12,[4,6,7,30,31,32]),(13,[4,6,7,30,31,32]),(14,[4,6,7,67]),(15,[4,5]),(16,[4,6,7]),(17,[4,6,7,12]),(18,[4,6,12,71,72,73]),(19,[4,6,12,71,72,73,74]),(20,[4,6,12,14,71,72,73]),(21,[4,6,12,71,72,73]),(22,[4,6,12,71,72,73]),(23,[4,5])],dec:=[18],raw:=[114],nil:=[(0,[⟨.ob 40 [0],43,(.sl 19 qh)⟩]),(2,[⟨.ob 40 [0],43,(.sl 19 qh)⟩]),(4,[⟨.sl 7,75,(.sl 16 (.ba 16))⟩]),(8,[⟨.ob 100 [2],105,(.sl 4 qp)⟩]),(15,[⟨.ob 40 [0],43,(.sl 19 qh)⟩]),(17,[⟨.ob 120 [0],123,(.sl 19 qh)⟩])] }
def qgC (N:Nat):List Ent:=[qbT N,qb8 N,qjD,qqB N,qbV N]
theorem qdu (N:Nat):qT Tryz.prog (qgC N):=⟨qcF N,qjj N,qoa,qzl N,qip N,trivial⟩
abbrev Y_:=List qa×List qa×Int
abbrev JN:=List (Vector UInt8 16)×Nat×List (Vector UInt8 16×qa×Nat)×Int×Bool
def V6 (f:Y_) (y:JN):Ex×TSt:=(.exit 0,⟨0,87,[],[(4,.p 40 [] 0),(6,.m 240),(7,.v 75 y.1.length),(30,.tv (.sl 19 qh) f.2.1),(31,xi f.2.2),(32,xi y.2.2.2.1),(33,xb y.2.2.2.2)],[(40,.cell false (.ag [.v 43 f.1.length])),(43,.vec false 19 (.sl 19 qh) f.1),(75,.vec false 16 (.sl 16 (.ba 16)) (y.1:List (Vector UInt8 16))),(240,.map y.2.1 (.ba 16) qh (y.2.2.1:List (Vector UInt8 16×qa×Nat)))],false,[]⟩)
def qsw (N:Nat):List (Nat×qH):=[]
abbrev Xb:=List (Vector UInt8 16)×Nat×List (Vector UInt8 16×qa×Nat)×Int
def qhY:SP:=⟨0,87,[],[(4,.k (.p 40 [] 0)),(6,.k (.m 240)),(7,.vs 75),(30,.x (.sl 19 qh)),(31,.x (.i .i64)),(32,.x (.i .i64))],[(40,.cell false (.ag [.vs 43])),(43,.vec false 19),(75,.vec false 16),(240,.map (.ba 16) qh)],false,[]⟩
def qs4 (f:Y_) (v:Xb):TSt:=jq qhY [dv (.sl 19 qh) f.1,dv (.sl 16 (.ba 16)) v.1,dv .nat v.2.1,dv (X3 (.ba 16) qh) v.2.2.1,dv (.sl 19 qh) f.2.1,dv (.i .i64) f.2.2,dv (.i .i64) v.2.2.2]
def Xc (N:Nat) (o_6:List qa) (s30_6:List qa) (s31_6:Int) (v:Xb):Tree (Xb⊕JN):=
 .cond (decide (v.2.2.2 < s31_6)) (
 .bind (zn s30_6 v.2.2.2) fun e1=>
 .opt (fnd (β:=qa) (.ba 16) (qa.ID e1) v.2.2.1) (
 .chk (VN v.1.length v.1.length ((v.1++[qa.ID e1]).length) 16) <|
 .bind (qaw e1) fun r3=>
 .chk (qz (v.2.2.2 + 1)) <|
 .ret (.inl (v.1++[qa.ID e1],(QT (.ba 16) (qa.ID e1) (qa.mk (qa.ID e1) (qa.qX e1) ((([]:List qc))++(qa.F e1))) v.2.1 v.2.2.1).1,(QT (.ba 16) (qa.ID e1) (qa.mk (qa.ID e1) (qa.qX e1) ((([]:List qc))++(qa.F e1))) v.2.1 v.2.2.1).2,v.2.2.2 + 1))) fun e2=>
 .bind (qjO N e2.1 e1) fun r3=>
 .chk (qz (v.2.2.2 + 1)) <|
 .ret (.inl (v.1,(QT (.ba 16) (qa.ID e1) r3.1 v.2.1 v.2.2.1).1,(QT (.ba 16) (qa.ID e1) r3.1 v.2.1 v.2.2.1).2,v.2.2.2 + 1))) <|
 .ret (.inr (v.1,v.2.1,v.2.2.1,v.2.2.2,decide (v.2.2.2 < s31_6)))
def qh4 (N n:Nat) (f:Y_) (v:Xb):Option JN:=q_ (Xc N f.1 f.2.1 f.2.2) some n v
theorem qsJ (N:Nat) (f:Y_) (n:Nat) (v:Xb) (y:JN) (h:qh4 N n f v=some y):LG Tryz.prog K6 83 (zd qeC 6) (qs4 f v) (V6 f y):=
 zY qk (E:=qgC N) (L:=qR (qsw N)) (st:=V6 f) (g:=some) (R:=V6 f) (qdu N) (qu (by kernel_rfl) trivial) (rg0 (by kernel_rfl)) (fun v=>by kernel_rfl) (zl (st:=V6 f) fun y=>by rfl) (js0 rfl) n v y h
def qfh (N:Nat) (o_6:List qa) (s30_6:List qa) (s31_6:Int) (o_6_2:List (Vector UInt8 16)) (o_6_3:Nat) (o_6_4:List (Vector UInt8 16×qa×Nat)) (s32_6:Int):Option JN:=qh4 N N (o_6,s30_6,s31_6) (o_6_2,o_6_3,o_6_4,s32_6)
def qhU (N:Nat):qH:=smL qhY [(.sl 19 qh),(.sl 16 (.ba 16)),.nat,(X3 (.ba 16) qh),(.sl 19 qh),(.i .i64),(.i .i64)] JN (fun x=>qfh N x.1 x.2.2.2.2.1 x.2.2.2.2.2.1 x.2.1 x.2.2.1 x.2.2.2.1 x.2.2.2.2.2.2.1) cs1 fun x=>V6 (x.1,x.2.2.2.2.1,x.2.2.2.2.2.1)
theorem qq_ (N:Nat):v8 Tryz.prog K6 83 (zd qeC 6) (qhU N):=jw fun x z h=>qsJ N (x.1,x.2.2.2.2.1,x.2.2.2.2.2.1) N (x.2.1,x.2.2.1,x.2.2.2.1,x.2.2.2.2.2.2.1) z h
abbrev W3:=List qa×List (Vector UInt8 16)×Nat×List (Vector UInt8 16×qa×Nat)×Nat×Int
abbrev Z7:=List qa×Int×Bool
def Vr (f:W3) (y:Z7):Ex×TSt:=(.exit 2,⟨0,87,[],[(4,.p 40 [] 0),(6,.m 240),(12,.p 120 [] 0),(71,.v 75 f.2.2.2.2.1),(72,xi f.2.2.2.2.2),(73,xi y.2.1),(74,xb y.2.2)],[(40,.cell false (.ag [.v 43 f.1.length])),(43,.vec false 19 (.sl 19 qh) f.1),(75,.vec false 16 (.sl 16 (.ba 16)) f.2.1),(120,.cell false (.ag [.v 123 y.1.length])),(123,.vec false 19 (.sl 19 qh) (y.1:List qa)),(240,.map f.2.2.1 (.ba 16) qh f.2.2.2.1)],false,[]⟩)
def qp3 (N:Nat):List (Nat×qH):=[]
abbrev Vq:=List qa×Int
def qfR:SP:=⟨0,87,[],[(4,.k (.p 40 [] 0)),(6,.k (.m 240)),(12,.k (.p 120 [] 0)),(71,.v 75),(72,.x (.i .i64)),(73,.x (.i .i64))],[(40,.cell false (.ag [.vs 43])),(43,.vec false 19),(75,.vec false 16),(120,.cell false (.ag [.vs 123])),(123,.vec false 19),(240,.map (.ba 16) qh)],false,[]⟩
def qrx (f:W3) (v:Vq):TSt:=jq qfR [dv (.sl 19 qh) f.1,dv (.sl 16 (.ba 16)) f.2.1,dv (.sl 19 qh) v.1,dv .nat f.2.2.1,dv (X3 (.ba 16) qh) f.2.2.2.1,dv .nat f.2.2.2.2.1,dv (.i .i64) f.2.2.2.2.2,dv (.i .i64) v.2]
def WU (N:Nat) (o_19:List qa) (o_19_2:List (Vector UInt8 16)) (o_19_4:Nat) (o_19_5:List (Vector UInt8 16×qa×Nat)) (s71_19:Nat) (s72_19:Int) (v:Vq):Tree (Vq⊕Z7):=
 .cond (decide (v.2 < s72_19)) (
 .chk (0≤v.2∧v.2 < ((s71_19:Nat):Int)) <|
 .bind (KH o_19_2 s71_19 v.2.toNat) fun e1=>
 .opt (fnd (β:=qa) (.ba 16) e1 o_19_5) (
 .chk (VN v.1.length v.1.length ((v.1++[qa.mk ((Vector.replicate 16 0)) (qf.mk 0 0) []]).length) 56) <|
 .chk (qz (v.2 + 1)) <|
 .ret (.inl (v.1++[qa.mk ((Vector.replicate 16 0)) (qf.mk 0 0) []],v.2 + 1))) fun e2=>
 .chk (VN v.1.length v.1.length ((v.1++[e2.1]).length) 56) <|
 .chk (qz (v.2 + 1)) <|
 .ret (.inl (v.1++[e2.1],v.2 + 1))) <|
 .ret (.inr (v.1,v.2,decide (v.2 < s72_19)))
def qgm (N n:Nat) (f:W3) (v:Vq):Option Z7:=q_ (WU N f.1 f.2.1 f.2.2.1 f.2.2.2.1 f.2.2.2.2.1 f.2.2.2.2.2) some n v
theorem qp5 (N:Nat) (f:W3) (n:Nat) (v:Vq) (y:Z7) (h:qgm N n f v=some y):LG Tryz.prog K6 83 (zd qeC 19) (qrx f v) (Vr f y):=
 zY qk (E:=qgC N) (L:=qR (qp3 N)) (st:=Vr f) (g:=some) (R:=Vr f) (qdu N) (qu (by kernel_rfl) trivial) (rg0 (by kernel_rfl)) (fun v=>by kernel_rfl) (zl (st:=Vr f) fun y=>by rfl) (js0 rfl) n v y h
def qdp (N:Nat) (o_19:List qa) (o_19_2:List (Vector UInt8 16)) (o_19_4:Nat) (o_19_5:List (Vector UInt8 16×qa×Nat)) (s71_19:Nat) (s72_19:Int) (o_19_3:List qa) (s73_19:Int):Option Z7:=qgm N N (o_19,o_19_2,o_19_4,o_19_5,s71_19,s72_19) (o_19_3,s73_19)
def qgf (N:Nat):qH:=smL qfR [(.sl 19 qh),(.sl 16 (.ba 16)),(.sl 19 qh),.nat,(X3 (.ba 16) qh),.nat,(.i .i64),(.i .i64)] Z7 (fun x=>qdp N x.1 x.2.1 x.2.2.2.1 x.2.2.2.2.1 x.2.2.2.2.2.1 x.2.2.2.2.2.2.1 x.2.2.1 x.2.2.2.2.2.2.2.1) cs1 fun x=>Vr (x.1,x.2.1,x.2.2.2.1,x.2.2.2.2.1,x.2.2.2.2.2.1,x.2.2.2.2.2.2.1)
theorem qoG (N:Nat):v8 Tryz.prog K6 83 (zd qeC 19) (qgf N):=jw fun x z h=>qp5 N (x.1,x.2.1,x.2.2.2.1,x.2.2.2.2.1,x.2.2.2.2.2.1,x.2.2.2.2.2.2.1) N (x.2.2.1,x.2.2.2.2.2.2.2.1) z h
def qzu (z:qb×Int):TV×THp:=(.tup [.tv qL (z.1:qb),xi z.2],[])
def qcL (N:Nat) (a0:qb) (a1:qb):Tree (qb×Int):=
 .bind (JZ N a0) fun r1=>
 .cond (!r1) (
 .chk (0=0) <|
 .ret (qb.mk [],1)) <|
 .bind (JZ N a1) fun r2=>
 .cond (!r2) (
 .chk (0=0) <|
 .ret (qb.mk [],1)) <|
 .bind (VY N [qb.R a0,qb.R a1]) fun r3=>
 .bind (vg [(([]:List qa).length,0),(([]:List (Vector UInt8 16)).length,0)] (qfh N [] r3 ((r3.length:Nat):Int) [] 0 [] 0)) fun z4=>
 .cond (decide (((10:Int)) < ((z4.1.length:Nat):Int))) (
 .chk (0=0) <|
 .ret (qb.mk [],4)) <|
 .bind (vg [(z4.1.length,z4.1.length)] (Vo N z4.1)) fun r5=>
 .bind (vg [(([]:List qa).length,0),(([]:List qa).length,0)] (qdp N [] r5 z4.2.1 z4.2.2.1 z4.1.length ((z4.1.length:Nat):Int) [] 0)) fun z6=>
 .chk (z6.1.length=z6.1.length) <|
 .ret (qb.mk z6.1,0)
def Vv (N:Nat) (a0:qb) (a1:qb):Option (qb×Int):=(qcL N a0 a1).run some
def qyI (N:Nat):List (Nat×qH):=[(6,qhU N),(19,qgf N)]
def qhi (N:Nat):Ent:=smF ⟨83,[],[.x qL,.x qL],[],[]⟩ [qL,qL] (qb×Int) (fun x=>Vv N x.1 x.2.1) cs1 fun _=>qzu
theorem qlp (N:Nat):zc Tryz.prog (qhi N):=
 q8 (H:=K6) (L:=qR (qyI N)) (ts:=[qL,qL]) (T:=fun x=>qcL N x.1 x.2.1) 0 qIh (qdu N) (qu (by kernel_rfl) ⟨qq_ N,qoG N,trivial⟩) (rg0 (by kernel_rfl)) fun x=>by kernel_rfl
noncomputable def qpQ:Code:=Tryz.f68.body.getD .skip
theorem qGz:FnF Tryz.prog 68 Tryz.f68 qpQ:=⟨qk,by kernel_rfl,by kernel_rfl,by kernel_rfl⟩
def qgF:TH:={ live:=[(0,[2,3,4]),(1,[2,3,4,6]),(2,[2,3,4,6,39]),(3,[4,5]),(4,[2,4,47,48,49]),(5,[2,4,47,48,49,50]),(6,[2,4,8,47,48,49]),(7,[2,4,8,47,48,49,54]),(8,[2,4,9,10,47,48,49]),(9,[2,4,9,10,47,48,49,64]),(10,[4,5]),(11,[2,4,47,48,49]),(12,[2,4,47,48,49]),(13,[4,5])],dec:=[19,23,29,34],nil:=[(0,[⟨.ob 40 [0],43,(.sl 19 qh)⟩]),(3,[⟨.ob 40 [0],43,(.sl 19 qh)⟩]),(10,[⟨.ob 40 [0],43,(.sl 19 qh)⟩])] }
def qov (N:Nat):List Ent:=[qbT N,qld,K3,qfM N,qhi N]
theorem qkr (N:Nat):qT Tryz.prog (qov N):=⟨qcF N,quw,qbY,qix N,qlp N,trivial⟩
abbrev YY:=List qa×List qa×Int
abbrev JR:=(qb×Int×Bool)⊕Int
def V7 (f:YY):JR→Ex×TSt
 | .inl y=>(.exit 0,⟨0,70,[],[(2,.p 20 [] 0),(4,.p 40 [] 0),(47,.tv (.sl 19 qh) f.2.1),(48,xi f.2.2),(49,xi y.2.1),(50,xb y.2.2)],[(20,.cell false (.tv qL (y.1:qb))),(40,.cell false (.ag [.v 43 f.1.length])),(43,.vec false 19 (.sl 19 qh) f.1)],false,[]⟩)
 | .inr y=>(.ret,⟨0,70,[],[(4,.p 40 [] 0),(5,xi y)],[(40,.cell false (.ag [.v 43 0])),(43,.vec false 19 (.sl 19 qh) ([]:List qa))],false,[]⟩)
def qs8 (N:Nat):List (Nat×qH):=[]
abbrev V_:=qb×Int
def qh5:SP:=⟨0,70,[],[(2,.k (.p 20 [] 0)),(4,.k (.p 40 [] 0)),(47,.x (.sl 19 qh)),(48,.x (.i .i64)),(49,.x (.i .i64))],[(20,.cell false (.x qL)),(40,.cell false (.ag [.vs 43])),(43,.vec false 19)],false,[]⟩
def qr1 (f:YY) (v:V_):TSt:=jq qh5 [dv (.sl 19 qh) f.1,dv qL v.1,dv (.sl 19 qh) f.2.1,dv (.i .i64) f.2.2,dv (.i .i64) v.2]
def Xp (N:Nat) (o_5:List qa) (s47_5:List qa) (s48_5:Int) (v:V_):Tree (V_⊕JR):=
 .cond (decide (v.2 < s48_5)) (
 .bind (zn s47_5 v.2) fun e1=>
 .bind (X4 e1) fun r2=>
 .cond r2 (
 .chk (qz (v.2 + 1)) <|
 .ret (.inl (v.1,v.2 + 1))) <|
 .bind (Vv N v.1 (qb.mk [e1])) fun r3=>
 .cond (!decide (r3.2=0)) (
 .ret (.inr (.inr r3.2))) <|
 .chk (qz (v.2 + 1)) <|
 .ret (.inl (r3.1,v.2 + 1))) <|
 .ret (.inr (.inl (v.1,v.2,decide (v.2 < s48_5))))
def qhE (N n:Nat) (f:YY) (v:V_):Option JR:=q_ (Xp N f.1 f.2.1 f.2.2) some n v
theorem qs6 (N:Nat) (f:YY) (n:Nat) (v:V_) (y:JR) (h:qhE N n f v=some y):LG Tryz.prog qgF 68 (zd qpQ 5) (qr1 f v) (V7 f y):=
 zY qk (E:=qov N) (L:=qR (qs8 N)) (st:=V7 f) (g:=some) (R:=V7 f) (qkr N) (qu (by kernel_rfl) trivial) (rg0 (by kernel_rfl)) (fun v=>by kernel_rfl) (zl (st:=V7 f) fun y=>by rcases y with _ | _<;>rfl) (js0 rfl) n v y h
def Xt (N:Nat) (o_5:List qa) (s47_5:List qa) (s48_5:Int) (o_5_2:qb) (s49_5:Int):Option JR:=qhE N N (o_5,s47_5,s48_5) (o_5_2,s49_5)
def qit (N:Nat):qH:=smL qh5 [(.sl 19 qh),qL,(.sl 19 qh),(.i .i64),(.i .i64)] JR (fun x=>Xt N x.1 x.2.2.1 x.2.2.2.1 x.2.1 x.2.2.2.2.1) (csS cs1) fun x=>V7 (x.1,x.2.2.1,x.2.2.2.1)
theorem qqm (N:Nat):v8 Tryz.prog qgF 68 (zd qpQ 5) (qit N):=jw fun x z h=>qs6 N (x.1,x.2.2.1,x.2.2.2.1) N (x.2.1,x.2.2.2.2.1) z h
def qzy (z:qb×Int):TV×THp:=(.tup [.tv qL (z.1:qb),xi z.2],[])
def qhe (N:Nat) (a0:qb) (a1:qa):Tree (qb×Int):=
 .bind (JZ N a0) fun r1=>
 .cond (!r1) (
 .chk (0=0) <|
 .ret (qb.mk [],1)) <|
 .bind (X4 a1) fun r2=>
 .cond r2 (
 .chk (0=0) <|
 .ret (qb.mk [],1)) <|
 .bind (YH (qa.qX a1)) fun r3=>
 .cond (!r3) (
 .chk (0=0) <|
 .ret (qb.mk [],1)) <|
 .cond (decide (((0:Int)) < (((qa.F a1).length:Nat):Int))) (
 .bind (qcv N (qa.mk (qa.ID a1) (qf.mk 0 0) (qa.F a1))) fun r4=>
 .cond (!r4) (
 .chk (0=0) <|
 .ret (qb.mk [],1)) <|
 .bind (vg [(([]:List qa).length,0)] (Xt N [] [qa.mk (qa.ID a1) (qa.qX a1) [],qa.mk (qa.ID a1) (qf.mk 0 0) (qa.F a1)] (((([qa.mk (qa.ID a1) (qa.qX a1) [],qa.mk (qa.ID a1) (qf.mk 0 0) (qa.F a1)]:List qa)).length:Nat):Int) a0 0)) fun z5=>
 .sum z5 (fun z6=>
 .ret (z6.1,0)) fun z6=>
 .chk (0=0) <|
 .ret (qb.mk [],z6)) <|
 .bind (vg [(([]:List qa).length,0)] (Xt N [] [qa.mk (qa.ID a1) (qa.qX a1) [],qa.mk (qa.ID a1) (qf.mk 0 0) (qa.F a1)] (((([qa.mk (qa.ID a1) (qa.qX a1) [],qa.mk (qa.ID a1) (qf.mk 0 0) (qa.F a1)]:List qa)).length:Nat):Int) a0 0)) fun z4=>
 .sum z4 (fun z5=>
 .ret (z5.1,0)) fun z5=>
 .chk (0=0) <|
 .ret (qb.mk [],z5)
def XD (N:Nat) (a0:qb) (a1:qa):Option (qb×Int):=(qhe N a0 a1).run some
def qzd (N:Nat):List (Nat×qH):=[(5,qit N)]
def qoh (N:Nat):Ent:=smF ⟨68,[],[.x qL,.x qh],[],[]⟩ [qL,qh] (qb×Int) (fun x=>XD N x.1 x.2.1) cs1 fun _=>qzy
theorem qwG (N:Nat):zc Tryz.prog (qoh N):=
 q8 (H:=qgF) (L:=qR (qzd N)) (ts:=[qL,qh]) (T:=fun x=>qhe N x.1 x.2.1) 0 qGz (qkr N) (qu (by kernel_rfl) ⟨qqm N,trivial⟩) (rg0 (by kernel_rfl)) fun x=>by kernel_rfl
noncomputable def qHn:Code:=Tryz.f65.body.getD .skip
theorem qGt:FnF Tryz.prog 65 Tryz.f65 qHn:=⟨qk,by kernel_rfl,by kernel_rfl,by kernel_rfl⟩
def qqz:TH:={ live:=[(0,[1]),(1,[2,3])] }
def qrJ (N:Nat):List Ent:=[]
theorem qnP (N:Nat):qT Tryz.prog (qrJ N):=trivial
def qqy (a0:qW) (z:Unit):TV×THp:=(.tup [.tv .s (qe.V (qW.o a0)),.ic .i64 0],[])
def qf9 (a0:qW):Tree (Unit):=
 .ret ()
def qdA (a0:qW):Option (Unit):=(qf9 a0).run some
def qq8:List (Nat×qH):=[]
def qfZ:Ent:=smF ⟨65,[],[.x ju],[],[]⟩ [ju] (Unit) (fun x=>qdA x.1) cs1 fun x=>qqy x.1
theorem qpE:zc Tryz.prog (qfZ):=
 q8 (H:=qqz) (L:=qR (qq8)) (ts:=[ju]) (T:=fun x=>qf9 x.1) 0 qGt (qnP 0) (qu (by kernel_rfl) trivial) (rg0 (by kernel_rfl)) fun x=>by kernel_rfl
noncomputable def qGU:Code:=Tryz.f74.body.getD .skip
theorem qIs:FnF Tryz.prog 74 Tryz.f74 qGU:=⟨qk,by kernel_rfl,by kernel_rfl,by kernel_rfl⟩
def qub:TH:={ live:=[(0,[1,2]),(1,[3])] }
def quU (N:Nat):List Ent:=[]
theorem qqx (N:Nat):qT Tryz.prog (quU N):=trivial
def qul (a0:Vector UInt8 16) (a1:qa) (z:Unit):TV×THp:=(xb (eqE (.ba 16) (qa.ID a1) a0),[(30,.cell false (.tv (.ba 16) a0))])
def qdr (a0:Vector UInt8 16) (a1:qa):Tree (Unit):=
 .ret ()
def qhh (a0:Vector UInt8 16) (a1:qa):Option (Unit):=(qdr a0 a1).run some
def quM:List (Nat×qH):=[]
def qkf:Ent:=smF ⟨74,[],[.x qh],[.k (.p 30 [] 0)],[(30,.cell false (.x (.ba 16)))]⟩ [(.ba 16),qh] (Unit) (fun x=>qhh x.1 x.2.1) cs1 fun x=>qul x.1 x.2.1
theorem qsP:zc Tryz.prog (qkf):=
 q8 (H:=qub) (L:=qR (quM)) (ts:=[(.ba 16),qh]) (T:=fun x=>qdr x.1 x.2.1) 0 qIs (qqx 0) (qu (by kernel_rfl) trivial) (rg0 (by kernel_rfl)) fun x=>by kernel_rfl
noncomputable def qps:Code:=Tryz.f73.body.getD .skip
theorem qF6:FnF Tryz.prog 73 Tryz.f73 qps:=⟨qk,by kernel_rfl,by kernel_rfl,by kernel_rfl⟩
def VL:TH:={ live:=[(0,[0,1]),(1,[0,1,7,8]),(2,[0,1,7,8,9]),(3,[0,1,5,7,8]),(4,[0,1,5,7,8,16]),(5,[4]),(6,[0,1,7,8]),(7,[4])] }
def KR (N:Nat):List Ent:=[qkf]
theorem Yz (N:Nat):qT Tryz.prog (KR N):=⟨qsP,trivial⟩
abbrev QQ:=Vector UInt8 16×List qa×Int
abbrev jG:=Int⊕(Int×Bool)
def vD (f:QQ):jG→Ex×TSt
 | .inl y=>(.ret,⟨1,19,[30],[(4,xi y)],[(30,.cell false (.tv (.ba 16) f.1))],false,[]⟩)
 | .inr y=>(.exit 0,⟨1,19,[30],[(0,.tv (.sl 19 qh) f.2.1),(1,.fn (.func 74) [] [.p 30 [] 0]),(7,xi f.2.2),(8,xi y.1),(9,xb y.2)],[(30,.cell false (.tv (.ba 16) f.1))],false,[]⟩)
def qd_ (N:Nat):List (Nat×qH):=[]
abbrev vA:=Int
def W5:SP:=⟨1,19,[30],[(0,.x (.sl 19 qh)),(1,.fn 74 [] [.k (.p 30 [] 0)]),(7,.x (.i .i64)),(8,.x (.i .i64))],[(30,.cell false (.x (.ba 16)))],false,[]⟩
def qd6 (f:QQ) (v:vA):TSt:=jq W5 [dv (.ba 16) f.1,dv (.sl 19 qh) f.2.1,dv (.i .i64) f.2.2,dv (.i .i64) v]
def vE (N:Nat) (o_2:Vector UInt8 16) (s0_2:List qa) (s7_2:Int) (v:vA):Tree (vA⊕jG):=
 .cond (decide (v < s7_2)) (
 .bind (zn s0_2 v) fun e1=>
 .bind (qhh o_2 e1) fun r2=>
 .cond (eqE (.ba 16) (qa.ID e1) o_2) (
 .ret (.inr (.inl v))) <|
 .chk (qz (v + 1)) <|
 .ret (.inl (v + 1))) <|
 .ret (.inr (.inr ((v,decide (v < s7_2)))))
def WX (N n:Nat) (f:QQ) (v:vA):Option jG:=q_ (vE N f.1 f.2.1 f.2.2) some n v
theorem qd2 (N:Nat) (f:QQ) (n:Nat) (v:vA) (y:jG) (h:WX N n f v=some y):LG Tryz.prog VL 73 (zd qps 2) (qd6 f v) (vD f y):=
 zY qk (E:=KR N) (L:=qR (qd_ N)) (st:=vD f) (g:=some) (R:=vD f) (Yz N) (qu (by kernel_rfl) trivial) (rg0 (by kernel_rfl)) (fun v=>by kernel_rfl) (zl (st:=vD f) fun y=>by rcases y with _ | _<;>rfl) (js0 rfl) n v y h
def Vb (N:Nat) (o_2:Vector UInt8 16) (s0_2:List qa) (s7_2:Int) (s8_2:Int):Option jG:=WX N N (o_2,s0_2,s7_2) s8_2
def W8 (N:Nat):qH:=smL W5 [(.ba 16),(.sl 19 qh),(.i .i64),(.i .i64)] jG (fun x=>Vb N x.1 x.2.1 x.2.2.1 x.2.2.2.1) (csS cs1) fun x=>vD (x.1,x.2.1,x.2.2.1)
theorem qdx (N:Nat):v8 Tryz.prog VL 73 (zd qps 2) (W8 N):=jw fun x z h=>qd2 N (x.1,x.2.1,x.2.2.1) N x.2.2.2.1 z h
def qgz (a0:Vector UInt8 16) (z:Int):TV×THp:=(xi z,[(30,.cell false (.tv (.ba 16) a0))])
def VK (N:Nat) (a0:Vector UInt8 16) (a1:List qa):Tree (Int):=
 .bind (Vb N a0 a1 ((a1.length:Nat):Int) 0) fun z1=>
 .sum z1 (fun z2=>
 .ret z2) fun z2=>
 .ret (-1)
def JA (N:Nat) (a0:Vector UInt8 16) (a1:List qa):Option (Int):=(VK N a0 a1).run some
def qht (N:Nat):List (Nat×qH):=[(2,W8 N)]
def KO (N:Nat):Ent:=smF ⟨73,[],[.x (.sl 19 qh),.fn 74 [] [.k (.p 30 [] 0)]],[],[(30,.cell false (.x (.ba 16)))]⟩ [(.ba 16),(.sl 19 qh)] (Int) (fun x=>JA N x.1 x.2.1) cs1 fun x=>qgz x.1
theorem qfA (N:Nat):zc Tryz.prog (KO N):=
 q8 (H:=VL) (L:=qR (qht N)) (ts:=[(.ba 16),(.sl 19 qh)]) (T:=fun x=>VK N x.1 x.2.1) 0 qF6 (Yz N) (qu (by kernel_rfl) ⟨qdx N,trivial⟩) (rg0 (by kernel_rfl)) fun x=>by kernel_rfl
noncomputable def qH9:Code:=Tryz.f27.body.getD .skip
theorem qGp:FnF Tryz.prog 27 Tryz.f27 qH9:=⟨qk,by kernel_rfl,by kernel_rfl,by kernel_rfl⟩
def qy0:TH:={ live:=[(0,[2,3,4]),(1,[2,4,6]),(2,[2,4,6,12]),(3,[4,5]),(4,[4,5])],nil:=[(0,[⟨.ob 40 [2],45,(.sl 4 qp)⟩]),(3,[⟨.ob 40 [2],45,(.sl 4 qp)⟩])] }
def qza (N:Nat):List Ent:=[KO N,qjD]
theorem quG (N:Nat):qT Tryz.prog (qza N):=⟨qfA N,qoa,trivial⟩
def qym (z:qa×Bool):TV×THp:=(.tup [.tv qh (z.1:qa),xb z.2],[])
def qgD (N:Nat) (a0:qb) (a1:Vector UInt8 16):Tree (qa×Bool):=
 .bind (JA N a1 (qb.R a0)) fun r1=>
 .cond (decide (r1 < ((0:Int)))) (
 .chk (0=0) <|
 .ret (qa.mk ((Vector.replicate 16 0)) (qf.mk 0 0) [],false)) <|
 .bind (zn (qb.R a0) r1) fun e2=>
 .bind (qaw e2) fun r3=>
 .ret (qa.mk (qa.ID e2) (qa.qX e2) ((([]:List qc))++(qa.F e2)),true)
def qfL (N:Nat) (a0:qb) (a1:Vector UInt8 16):Option (qa×Bool):=(qgD N a0 a1).run some
def qyO (N:Nat):List (Nat×qH):=[]
def qoC (N:Nat):Ent:=smF ⟨27,[],[.x qL,.x (.ba 16)],[],[]⟩ [qL,(.ba 16)] (qa×Bool) (fun x=>qfL N x.1 x.2.1) cs1 fun _=>qym
theorem qxJ (N:Nat):zc Tryz.prog (qoC N):=
 q8 (H:=qy0) (L:=qR (qyO N)) (ts:=[qL,(.ba 16)]) (T:=fun x=>qgD N x.1 x.2.1) 0 qGp (quG N) (qu (by kernel_rfl) trivial) (rg0 (by kernel_rfl)) fun x=>by kernel_rfl
noncomputable def qHm:Code:=Tryz.f77.body.getD .skip
theorem qGc:FnF Tryz.prog 77 Tryz.f77 qHm:=⟨qk,by kernel_rfl,by kernel_rfl,by kernel_rfl⟩
def qwa:TH:={ live:=[(0,[1,2]),(1,[3])] }
def qvQ (N:Nat):List Ent:=[]
theorem qs3 (N:Nat):qT Tryz.prog (qvQ N):=trivial
def qv6 (a0:Int) (a1:qc) (z:Unit):TV×THp:=(xb (decide ((qc.No a1)=a0)),[(30,.cell false (xi a0))])
def qeV (a0:Int) (a1:qc):Tree (Unit):=
 .ret ()
def qjL (a0:Int) (a1:qc):Option (Unit):=(qeV a0 a1).run some
def qwb:List (Nat×qH):=[]
def qmz:Ent:=smF ⟨77,[],[.x qp],[.k (.p 30 [] 0)],[(30,.cell false (.x (.i .i64)))]⟩ [(.i .i64),qp] (Unit) (fun x=>qjL x.1 x.2.1) cs1 fun x=>qv6 x.1 x.2.1
theorem qu4:zc Tryz.prog (qmz):=
 q8 (H:=qwa) (L:=qR (qwb)) (ts:=[(.i .i64),qp]) (T:=fun x=>qeV x.1 x.2.1) 0 qGc (qs3 0) (qu (by kernel_rfl) trivial) (rg0 (by kernel_rfl)) fun x=>by kernel_rfl
noncomputable def qpp:Code:=Tryz.f76.body.getD .skip
theorem qGP:FnF Tryz.prog 76 Tryz.f76 qpp:=⟨qk,by kernel_rfl,by kernel_rfl,by kernel_rfl⟩
def J6:TH:={ live:=[(0,[0,1]),(1,[0,1,7,8]),(2,[0,1,7,8,9]),(3,[0,1,5,7,8]),(4,[0,1,5,7,8,16]),(5,[4]),(6,[0,1,7,8]),(7,[4])] }
def Yw (N:Nat):List Ent:=[qmz]
theorem Ws (N:Nat):qT Tryz.prog (Yw N):=⟨qu4,trivial⟩
abbrev Qc:=Int×List qc×Int
abbrev js:=Int⊕(Int×Bool)
def jW (f:Qc):js→Ex×TSt
 | .inl y=>(.ret,⟨1,19,[30],[(4,xi y)],[(30,.cell false (xi f.1))],false,[]⟩)
 | .inr y=>(.exit 0,⟨1,19,[30],[(0,.tv (.sl 4 qp) f.2.1),(1,.fn (.func 77) [] [.p 30 [] 0]),(7,xi f.2.2),(8,xi y.1),(9,xb y.2)],[(30,.cell false (xi f.1))],false,[]⟩)
def qc2 (N:Nat):List (Nat×qH):=[]
abbrev jT:=Int
def XE:SP:=⟨1,19,[30],[(0,.x (.sl 4 qp)),(1,.fn 77 [] [.k (.p 30 [] 0)]),(7,.x (.i .i64)),(8,.x (.i .i64))],[(30,.cell false (.x (.i .i64)))],false,[]⟩
def qc6 (f:Qc) (v:jT):TSt:=jq XE [dv (.i .i64) f.1,dv (.sl 4 qp) f.2.1,dv (.i .i64) f.2.2,dv (.i .i64) v]
def jU (N:Nat) (o_2:Int) (s0_2:List qc) (s7_2:Int) (v:jT):Tree (jT⊕js):=
 .cond (decide (v < s7_2)) (
 .bind (zn s0_2 v) fun e1=>
 .bind (qjL o_2 e1) fun r2=>
 .cond (decide ((qc.No e1)=o_2)) (
 .ret (.inr (.inl v))) <|
 .chk (qz (v + 1)) <|
 .ret (.inl (v + 1))) <|
 .ret (.inr (.inr ((v,decide (v < s7_2)))))
def XF (N n:Nat) (f:Qc) (v:jT):Option js:=q_ (jU N f.1 f.2.1 f.2.2) some n v
theorem qcV (N:Nat) (f:Qc) (n:Nat) (v:jT) (y:js) (h:XF N n f v=some y):LG Tryz.prog J6 76 (zd qpp 2) (qc6 f v) (jW f y):=
 zY qk (E:=Yw N) (L:=qR (qc2 N)) (st:=jW f) (g:=some) (R:=jW f) (Ws N) (qu (by kernel_rfl) trivial) (rg0 (by kernel_rfl)) (fun v=>by kernel_rfl) (zl (st:=jW f) fun y=>by rcases y with _ | _<;>rfl) (js0 rfl) n v y h
def JC (N:Nat) (o_2:Int) (s0_2:List qc) (s7_2:Int) (s8_2:Int):Option js:=XF N N (o_2,s0_2,s7_2) s8_2
def XC (N:Nat):qH:=smL XE [(.i .i64),(.sl 4 qp),(.i .i64),(.i .i64)] js (fun x=>JC N x.1 x.2.1 x.2.2.1 x.2.2.2.1) (csS cs1) fun x=>jW (x.1,x.2.1,x.2.2.1)
theorem qci (N:Nat):v8 Tryz.prog J6 76 (zd qpp 2) (XC N):=jw fun x z h=>qcV N (x.1,x.2.1,x.2.2.1) N x.2.2.2.1 z h
def qeB (a0:Int) (z:Int):TV×THp:=(xi z,[(30,.cell false (xi a0))])
def J4 (N:Nat) (a0:Int) (a1:List qc):Tree (Int):=
 .bind (JC N a0 a1 ((a1.length:Nat):Int) 0) fun z1=>
 .sum z1 (fun z2=>
 .ret z2) fun z2=>
 .ret (-1)
def ZN (N:Nat) (a0:Int) (a1:List qc):Option (Int):=(J4 N a0 a1).run some
def qfa (N:Nat):List (Nat×qH):=[(2,XC N)]
def Yh (N:Nat):Ent:=smF ⟨76,[],[.x (.sl 4 qp),.fn 77 [] [.k (.p 30 [] 0)]],[],[(30,.cell false (.x (.i .i64)))]⟩ [(.i .i64),(.sl 4 qp)] (Int) (fun x=>ZN N x.1 x.2.1) cs1 fun x=>qeB x.1
theorem qd4 (N:Nat):zc Tryz.prog (Yh N):=
 q8 (H:=J6) (L:=qR (qfa N)) (ts:=[(.i .i64),(.sl 4 qp)]) (T:=fun x=>J4 N x.1 x.2.1) 0 qGP (Ws N) (qu (by kernel_rfl) ⟨qci N,trivial⟩) (rg0 (by kernel_rfl)) fun x=>by kernel_rfl
noncomputable def qGC:Code:=Tryz.f28.body.getD .skip
theorem qGS:FnF Tryz.prog 28 Tryz.f28 qGC:=⟨qk,by kernel_rfl,by kernel_rfl,by kernel_rfl⟩
def qBz:TH:={ live:=[(0,[2,3,4]),(1,[2,4,6]),(2,[2,4,6,12]),(3,[4,5]),(4,[4,5])] }
def qBH (N:Nat):List Ent:=[Yh N]
theorem qyc (N:Nat):qT Tryz.prog (qBH N):=⟨qd4 N,trivial⟩
def qBa (z:qd×Bool):TV×THp:=(.tup [.tv qq (z.1:qd),xb z.2],[])
def qiL (N:Nat) (a0:qa) (a1:Int):Tree (qd×Bool):=
 .bind (ZN N a1 (qa.F a0)) fun r1=>
 .cond (decide (r1 < ((0:Int)))) (
 .ret (qd.mk (qf.mk 0 0) [],false)) <|
 .bind (zn (qa.F a0) r1) fun e2=>
 .ret (qc.C e2,true)
def qiw (N:Nat) (a0:qa) (a1:Int):Option (qd×Bool):=(qiL N a0 a1).run some
def qCN (N:Nat):List (Nat×qH):=[]
def qro (N:Nat):Ent:=smF ⟨28,[],[.x qh,.x (.i .i64)],[],[]⟩ [qh,(.i .i64)] (qd×Bool) (fun x=>qiw N x.1 x.2.1) cs1 fun _=>qBa
theorem qzI (N:Nat):zc Tryz.prog (qro N):=
 q8 (H:=qBz) (L:=qR (qCN N)) (ts:=[qh,(.i .i64)]) (T:=fun x=>qiL N x.1 x.2.1) 0 qGS (qyc N) (qu (by kernel_rfl) trivial) (rg0 (by kernel_rfl)) fun x=>by kernel_rfl
noncomputable def qH3:Code:=Tryz.f93.body.getD .skip
theorem qG_:FnF Tryz.prog 93 Tryz.f93 qH3:=⟨qk,by kernel_rfl,by kernel_rfl,by kernel_rfl⟩
def qoU:TH:={ live:=[(0,[2,3,4]),(1,[2,8]),(2,[10,11]),(3,[10,26]),(4,[6,7]),(5,[6,7])] }
def qpi (N:Nat):List Ent:=[qoC N,qro N]
theorem ql9 (N:Nat):qT Tryz.prog (qpi N):=⟨qxJ N,qzI N,trivial⟩
def qpO (z:List UInt8×Int):TV×THp:=(.tup [.tv .s (z.1:List UInt8),xi z.2],[])
def qat (N:Nat) (a0:qW) (a1:Vector UInt8 16) (a2:Int):Tree (List UInt8×Int):=
 .bind (qfL N (qW.b a0) a1) fun r1=>
 .bind (qiw N r1.1 a2) fun r2=>
 .cond (!r2.2) (
 .ret ([],6)) <|
 .ret (qd.V r2.1,0)
def Xu (N:Nat) (a0:qW) (a1:Vector UInt8 16) (a2:Int):Option (List UInt8×Int):=(qat N a0 a1 a2).run some
def qpI (N:Nat):List (Nat×qH):=[]
def qaB (N:Nat):Ent:=smF ⟨93,[],[.x ju,.x (.ba 16),.x (.i .i64)],[],[]⟩ [ju,(.ba 16),(.i .i64)] (List UInt8×Int) (fun x=>Xu N x.1 x.2.1 x.2.2.1) cs1 fun _=>qpO
theorem qdR (N:Nat):zc Tryz.prog (qaB N):=
 q8 (H:=qoU) (L:=qR (qpI N)) (ts:=[ju,(.ba 16),(.i .i64)]) (T:=fun x=>qat N x.1 x.2.1 x.2.2.1) 0 qG_ (ql9 N) (qu (by kernel_rfl) trivial) (rg0 (by kernel_rfl)) fun x=>by kernel_rfl
noncomputable def qH0:Code:=Tryz.f92.body.getD .skip
theorem qHB:FnF Tryz.prog 92 Tryz.f92 qH0:=⟨qk,by kernel_rfl,by kernel_rfl,by kernel_rfl⟩
def qkD:TH:={ live:=[(0,[1,2,3]),(1,[1,2,17]),(2,[6,7]),(3,[6,7])],dec:=[10] }
def qkC (N:Nat):List Ent:=[qpa N]
theorem qiu (N:Nat):qT Tryz.prog (qkC N):=⟨qtl N,trivial⟩
def qks (z:List UInt8×Int):TV×THp:=(.tup [.tv .s (z.1:List UInt8),xi z.2],[])
def WS (N:Nat) (a0:qW) (a1:List UInt8) (a2:Int):Tree (List UInt8×Int):=
 .cond (decide (a2=((0:Int)))) (
 .bind (qhZ N a1) fun r1=>
 .cond (!(eqE (.ba 32) r1 (qe.D (qW.o a0)))) (
 .ret ([],7)) <|
 .ret (a1,a2)) <|
 .ret (a1,a2)
def Jw (N:Nat) (a0:qW) (a1:List UInt8) (a2:Int):Option (List UInt8×Int):=(WS N a0 a1 a2).run some
def qkz (N:Nat):List (Nat×qH):=[]
def WN (N:Nat):Ent:=smF ⟨92,[],[.x ju,.x .s,.x (.i .i64)],[],[]⟩ [ju,.s,(.i .i64)] (List UInt8×Int) (fun x=>Jw N x.1 x.2.1 x.2.2.1) cs1 fun _=>qks
theorem qbu (N:Nat):zc Tryz.prog (WN N):=
 q8 (H:=qkD) (L:=qR (qkz N)) (ts:=[ju,.s,(.i .i64)]) (T:=fun x=>WS N x.1 x.2.1 x.2.2.1) 0 qHB (qiu N) (qu (by kernel_rfl) trivial) (rg0 (by kernel_rfl)) fun x=>by kernel_rfl
noncomputable def qGx:Code:=Tryz.f66.body.getD .skip
theorem qGg:FnF Tryz.prog 66 Tryz.f66 qGx:=⟨qk,by kernel_rfl,by kernel_rfl,by kernel_rfl⟩
def qlo:TH:={ live:=[(0,[1]),(1,[2,3])] }
def qlI (N:Nat):List Ent:=[qaB N,WN N]
theorem qiK (N:Nat):qT Tryz.prog (qlI N):=⟨qdR N,qbu N,trivial⟩
def qlc (z:List UInt8×Int):TV×THp:=(.tup [.tv .s (z.1:List UInt8),xi z.2],[])
def YK (N:Nat) (a0:qW):Tree (List UInt8×Int):=
 .bind (Xu N a0 (qe.jA (qW.o a0)) (qe.Jt (qW.o a0))) fun r1=>
 .bind (Jw N a0 r1.1 r1.2) fun r2=>
 .ret (r2.1,r2.2)
def We (N:Nat) (a0:qW):Option (List UInt8×Int):=(YK N a0).run some
def qlM (N:Nat):List (Nat×qH):=[]
def qdn (N:Nat):Ent:=smF ⟨66,[],[.x ju],[],[]⟩ [ju] (List UInt8×Int) (fun x=>We N x.1) cs1 fun _=>qlc
theorem qkF (N:Nat):zc Tryz.prog (qdn N):=
 q8 (H:=qlo) (L:=qR (qlM N)) (ts:=[ju]) (T:=fun x=>YK N x.1) 0 qGg (qiK N) (qu (by kernel_rfl) trivial) (rg0 (by kernel_rfl)) fun x=>by kernel_rfl
noncomputable def qG4:Code:=Tryz.f67.body.getD .skip
theorem qH2:FnF Tryz.prog 67 Tryz.f67 qG4:=⟨qk,by kernel_rfl,by kernel_rfl,by kernel_rfl⟩
def qpf:TH:={ live:=[(0,[1]),(1,[1,4,5]),(2,[1,4,5,20]),(3,[2,3]),(4,[1,6,7]),(5,[1,6,31]),(6,[2,3]),(7,[2,3])] }
def qoI (N:Nat):List Ent:=[qaB N,qj9 N,WN N]
theorem qlq (N:Nat):qT Tryz.prog (qoI N):=⟨qdR N,qrY N,qbu N,trivial⟩
def qo7 (z:List UInt8×Int):TV×THp:=(.tup [.tv .s (z.1:List UInt8),xi z.2],[])
def qau (N:Nat) (a0:qW):Tree (List UInt8×Int):=
 .bind (Xu N a0 (qe.ID (qW.o a0)) (qe.No (qW.o a0))) fun r1=>
 .cond (!decide (r1.2=0)) (
 .ret ([],r1.2)) <|
 .bind (qcI N r1.1 (qe.P (qW.o a0))) fun r2=>
 .cond (!r2.2) (
 .ret ([],7)) <|
 .bind (Jw N a0 r2.1 0) fun r3=>
 .ret (r3.1,r3.2)
def Y3 (N:Nat) (a0:qW):Option (List UInt8×Int):=(qau N a0).run some
def qpq (N:Nat):List (Nat×qH):=[]
def qeG (N:Nat):Ent:=smF ⟨67,[],[.x ju],[],[]⟩ [ju] (List UInt8×Int) (fun x=>Y3 N x.1) cs1 fun _=>qo7
theorem qnu (N:Nat):zc Tryz.prog (qeG N):=
 q8 (H:=qpf) (L:=qR (qpq N)) (ts:=[ju]) (T:=fun x=>qau N x.1) 0 qH2 (qlq N) (qu (by kernel_rfl) trivial) (rg0 (by kernel_rfl)) fun x=>by kernel_rfl
noncomputable def qFW:Code:=Tryz.f24.body.getD .skip
theorem qGD:FnF Tryz.prog 24 Tryz.f24 qFW:=⟨qk,by kernel_rfl,by kernel_rfl,by kernel_rfl⟩
def qJH:TH:={ live:=[(0,[2,3,4]),(1,[2,3,4,17]),(2,[4,5]),(3,[2,3,4,6]),(4,[2,3,4,7]),(5,[2,3,4,7,25]),(6,[4,5]),(7,[2,3,4,8,9]),(8,[2,3,4,8,9,44]),(9,[4,5]),(10,[4,5])],dec:=[13,21],nil:=[(0,[⟨.ob 40 [0],43,(.sl 19 qh)⟩]),(2,[⟨.ob 40 [0],43,(.sl 19 qh)⟩]),(9,[⟨.ob 40 [0],43,(.sl 19 qh)⟩])] }
def qJg (N:Nat):List Ent:=[qbT N,qx2 N,qoh N,qfZ,qdn N,qeG N]
theorem qEz (N:Nat):qT Tryz.prog (qJg N):=⟨qcF N,qDq N,qwG N,qpE,qkF N,qnu N,trivial⟩
def qIX (z:qb×Int):TV×THp:=(.tup [.tv qL (z.1:qb),xi z.2],[])
def qnh (N:Nat) (a0:qb) (a1:qe):Tree (qb×Int):=
 .bind (JZ N a0) fun r1=>
 .cond (!r1) (
 .chk (0=0) <|
 .ret (qb.mk [],1)) <|
 .bind (qp_ N a1) fun r2=>
 .cond (!r2) (
 .chk (0=0) <|
 .ret (qb.mk [],1)) <|
 .cond (decide ((qe.Kind a1)=0)) (
 .chk (0≤(0:Int)∧(0:Int) < ((4:Nat):Int)) <|
 .bind (XD N a0 (qa.mk (qe.ID a1) (qe.S a1) [])) fun r3=>
 .ret (r3.1,r3.2)) <|
 .cond (decide ((qe.Kind a1)=1)) (
 .chk (0≤(1:Int)∧(1:Int) < ((4:Nat):Int)) <|
 .bind (qdA (qW.mk a0 a1)) fun r3=>
 .bind (XD N a0 (qa.mk (qe.ID a1) (qf.mk 0 0) [qc.mk (qe.No a1) (qd.mk (qe.S a1) (qe.V a1))])) fun r4=>
 .ret (r4.1,r4.2)) <|
 .cond (decide ((qe.Kind a1)=2)) (
 .chk (0≤(2:Int)∧(2:Int) < ((4:Nat):Int)) <|
 .bind (We N (qW.mk a0 a1)) fun r3=>
 .cond (!decide (r3.2=0)) (
 .chk (0=0) <|
 .ret (qb.mk [],r3.2)) <|
 .bind (XD N a0 (qa.mk (qe.ID a1) (qf.mk 0 0) [qc.mk (qe.No a1) (qd.mk (qe.S a1) r3.1)])) fun r4=>
 .ret (r4.1,r4.2)) <|
 .cond (decide ((qe.Kind a1)=3)) (
 .chk (0≤(3:Int)∧(3:Int) < ((4:Nat):Int)) <|
 .bind (Y3 N (qW.mk a0 a1)) fun r3=>
 .cond (!decide (r3.2=0)) (
 .chk (0=0) <|
 .ret (qb.mk [],r3.2)) <|
 .bind (XD N a0 (qa.mk (qe.ID a1) (qf.mk 0 0) [qc.mk (qe.No a1) (qd.mk (qe.S a1) r3.1)])) fun r4=>
 .ret (r4.1,r4.2)) <|
 .no
def qi1 (N:Nat) (a0:qb) (a1:qe):Option (qb×Int):=(qnh N a0 a1).run some
def qIY (N:Nat):List (Nat×qH):=[]
def qAr (N:Nat):Ent:=smF ⟨24,[],[.x qL,.x zO],[],[]⟩ [qL,zO] (qb×Int) (fun x=>qi1 N x.1 x.2.1) cs1 fun _=>qIX
theorem qHg (N:Nat):zc Tryz.prog (qAr N):=
 q8 (H:=qJH) (L:=qR (qIY N)) (ts:=[qL,zO]) (T:=fun x=>qnh N x.1 x.2.1) 0 qGD (qEz N) (qu (by kernel_rfl) trivial) (rg0 (by kernel_rfl)) fun x=>by kernel_rfl
noncomputable def qly:Code:=Tryz.f111.body.getD .skip
theorem qD5:FnF Tryz.prog 111 Tryz.f111 qly:=⟨qk,by kernel_rfl,by kernel_rfl,by kernel_rfl⟩
def XJ:TH:={ live:=[(0,[0,1]),(1,[0,1,10]),(2,[4]),(3,[0,1,12,13]),(4,[0,1,12,13,14]),(5,[0,1,5,12,13]),(6,[0,1,12,13,24]),(7,[4]),(8,[0,1,12,13]),(9,[4])] }
def qb2 (N:Nat):List Ent:=[]
theorem KL (N:Nat):qT Tryz.prog (qb2 N):=trivial
abbrev Zj:=List qc×List qc×Int
abbrev jX:=Unit⊕(Int×Bool)
def vU (f:Zj):jX→Ex×TSt
 | .inl y=>(.ret,⟨0,26,[],[(4,.bc false)],[],false,[]⟩)
 | .inr y=>(.exit 0,⟨0,26,[],[(0,.tv (.sl 4 qp) f.1),(1,.tv (.sl 4 qp) f.2.1),(12,xi f.2.2),(13,xi y.1),(14,xb y.2)],[],false,[]⟩)
def qfE (N:Nat):List (Nat×qH):=[]
abbrev vY:=Int
def Kz:SP:=⟨0,26,[],[(0,.x (.sl 4 qp)),(1,.x (.sl 4 qp)),(12,.x (.i .i64)),(13,.x (.i .i64))],[],false,[]⟩
def qfD (f:Zj) (v:vY):TSt:=jq Kz [dv (.sl 4 qp) f.1,dv (.sl 4 qp) f.2.1,dv (.i .i64) f.2.2,dv (.i .i64) v]
def Zi (N:Nat) (s0_4:List qc) (s1_4:List qc) (s12_4:Int) (v:vY):Tree (vY⊕jX):=
 .cond (decide (v < s12_4)) (
 .bind (zn s0_4 v) fun e1=>
 .bind (zn s1_4 v) fun e2=>
 .cond (!(eqE qp e1 e2)) (
 .ret (.inr (.inl ()))) <|
 .chk (qz (v + 1)) <|
 .ret (.inl (v + 1))) <|
 .ret (.inr (.inr ((v,decide (v < s12_4)))))
def Kt (N n:Nat) (f:Zj) (v:vY):Option jX:=q_ (Zi N f.1 f.2.1 f.2.2) some n v
theorem qfC (N:Nat) (f:Zj) (n:Nat) (v:vY) (y:jX) (h:Kt N n f v=some y):LG Tryz.prog XJ 111 (zd qly 4) (qfD f v) (vU f y):=
 zY qk (E:=qb2 N) (L:=qR (qfE N)) (st:=vU f) (g:=some) (R:=vU f) (KL N) (qu (by kernel_rfl) trivial) (rg0 (by kernel_rfl)) (fun v=>by kernel_rfl) (zl (st:=vU f) fun y=>by rcases y with _ | _<;>rfl) (js0 rfl) n v y h
def qa5 (N:Nat) (s0_4:List qc) (s1_4:List qc) (s12_4:Int) (s13_4:Int):Option jX:=Kt N N (s0_4,s1_4,s12_4) s13_4
def Kw (N:Nat):qH:=smL Kz [(.sl 4 qp),(.sl 4 qp),(.i .i64),(.i .i64)] jX (fun x=>qa5 N x.1 x.2.1 x.2.2.1 x.2.2.2.1) (csS cs1) fun x=>vU (x.1,x.2.1,x.2.2.1)
theorem qeJ (N:Nat):v8 Tryz.prog XJ 111 (zd qly 4) (Kw N):=jw fun x z h=>qfC N (x.1,x.2.1,x.2.2.1) N x.2.2.2.1 z h
def qji (z:Bool):TV×THp:=(xb z,[])
def XK (N:Nat) (a0:List qc) (a1:List qc):Tree (Bool):=
 .cond (!decide (((a0.length:Nat):Int)=((a1.length:Nat):Int))) (
 .ret false) <|
 .bind (qa5 N a0 a1 ((a0.length:Nat):Int) 0) fun z1=>
 .sum z1 (fun z2=>
 .ret false) fun z2=>
 .ret true
def Vm (N:Nat) (a0:List qc) (a1:List qc):Option (Bool):=(XK N a0 a1).run some
def qjN (N:Nat):List (Nat×qH):=[(4,Kw N)]
def qba (N:Nat):Ent:=smF ⟨111,[],[.x (.sl 4 qp),.x (.sl 4 qp)],[],[]⟩ [(.sl 4 qp),(.sl 4 qp)] (Bool) (fun x=>Vm N x.1 x.2.1) cs1 fun _=>qji
theorem qik (N:Nat):zc Tryz.prog (qba N):=
 q8 (H:=XJ) (L:=qR (qjN N)) (ts:=[(.sl 4 qp),(.sl 4 qp)]) (T:=fun x=>XK N x.1 x.2.1) 0 qD5 (KL N) (qu (by kernel_rfl) ⟨qeJ N,trivial⟩) (rg0 (by kernel_rfl)) fun x=>by kernel_rfl
noncomputable def qGJ:Code:=Tryz.f82.body.getD .skip
theorem qF9:FnF Tryz.prog 82 Tryz.f82 qGJ:=⟨qk,by kernel_rfl,by kernel_rfl,by kernel_rfl⟩
def qCV:TH:={ live:=[(0,[2,3]),(1,[4])],dec:=[10,17] }
def qBM (N:Nat):List Ent:=[qba N]
theorem qv3 (N:Nat):qT Tryz.prog (qBM N):=⟨qik N,trivial⟩
def qCL (z:Bool):TV×THp:=(xb z,[])
def qi8 (N:Nat) (a0:qa) (a1:qa):Tree (Bool):=
 .cond (eqE (.ba 16) (qa.ID a0) (qa.ID a1)) (
 .cond (eqE qn (qa.qX a0) (qa.qX a1)) (
 .bind (Vm N (qa.F a0) (qa.F a1)) fun r1=>
 .ret r1) <|
 .ret false) <|
 .ret false
def qiR (N:Nat) (a0:qa) (a1:qa):Option (Bool):=(qi8 N a0 a1).run some
def qB_ (N:Nat):List (Nat×qH):=[]
def qq1 (N:Nat):Ent:=smF ⟨82,[],[.x qh,.x qh],[],[]⟩ [qh,qh] (Bool) (fun x=>qiR N x.1 x.2.1) cs1 fun _=>qCL
theorem qyP (N:Nat):zc Tryz.prog (qq1 N):=
 q8 (H:=qCV) (L:=qR (qB_ N)) (ts:=[qh,qh]) (T:=fun x=>qi8 N x.1 x.2.1) 0 qF9 (qv3 N) (qu (by kernel_rfl) trivial) (rg0 (by kernel_rfl)) fun x=>by kernel_rfl
noncomputable def qo6:Code:=Tryz.f81.body.getD .skip
theorem qHx:FnF Tryz.prog 81 Tryz.f81 qo6:=⟨qk,by kernel_rfl,by kernel_rfl,by kernel_rfl⟩
def VR:TH:={ live:=[(0,[0,1,2]),(1,[0,1,2,14]),(2,[6]),(3,[1,2,15,16,17]),(4,[1,2,15,16,17,18]),(5,[1,2,7,8,15,16,17]),(6,[1,2,8,9,15,16,17]),(7,[1,2,15,16,17,30]),(8,[6]),(9,[1,2,15,16,17]),(10,[6])] }
def K4 (N:Nat):List Ent:=[qq1 N]
theorem Ys (N:Nat):qT Tryz.prog (K4 N):=⟨qyP N,trivial⟩
abbrev QR:=List qa×List qa×Int
abbrev jH:=Unit⊕(Int×Bool)
def vB (f:QR):jH→Ex×TSt
 | .inl y=>(.ret,⟨0,32,[],[(6,.bc false)],[],false,[]⟩)
 | .inr y=>(.exit 0,⟨0,32,[],[(1,.tv (.sl 19 qh) f.1),(2,.fn (.func 82) [] []),(15,.tv (.sl 19 qh) f.2.1),(16,xi f.2.2),(17,xi y.1),(18,xb y.2)],[],false,[]⟩)
def qeo (N:Nat):List (Nat×qH):=[]
abbrev vC:=Int
def W4:SP:=⟨0,32,[],[(1,.x (.sl 19 qh)),(2,.fn 82 [] []),(15,.x (.sl 19 qh)),(16,.x (.i .i64)),(17,.x (.i .i64))],[],false,[]⟩
def qd7 (f:QR) (v:vC):TSt:=jq W4 [dv (.sl 19 qh) f.1,dv (.sl 19 qh) f.2.1,dv (.i .i64) f.2.2,dv (.i .i64) v]
def QN (N:Nat) (s1_4:List qa) (s15_4:List qa) (s16_4:Int) (v:vC):Tree (vC⊕jH):=
 .cond (decide (v < s16_4)) (
 .bind (zn s15_4 v) fun e1=>
 .bind (zn s1_4 v) fun e2=>
 .bind (qiR N e1 e2) fun r3=>
 .cond (!r3) (
 .ret (.inr (.inl ()))) <|
 .chk (qz (v + 1)) <|
 .ret (.inl (v + 1))) <|
 .ret (.inr (.inr ((v,decide (v < s16_4)))))
def WZ (N n:Nat) (f:QR) (v:vC):Option jH:=q_ (QN N f.1 f.2.1 f.2.2) some n v
theorem qd9 (N:Nat) (f:QR) (n:Nat) (v:vC) (y:jH) (h:WZ N n f v=some y):LG Tryz.prog VR 81 (zd qo6 4) (qd7 f v) (vB f y):=
 zY qk (E:=K4 N) (L:=qR (qeo N)) (st:=vB f) (g:=some) (R:=vB f) (Ys N) (qu (by kernel_rfl) trivial) (rg0 (by kernel_rfl)) (fun v=>by kernel_rfl) (zl (st:=vB f) fun y=>by rcases y with _ | _<;>rfl) (js0 rfl) n v y h
def Ks (N:Nat) (s1_4:List qa) (s15_4:List qa) (s16_4:Int) (s17_4:Int):Option jH:=WZ N N (s1_4,s15_4,s16_4) s17_4
def WW (N:Nat):qH:=smL W4 [(.sl 19 qh),(.sl 19 qh),(.i .i64),(.i .i64)] jH (fun x=>Ks N x.1 x.2.1 x.2.2.1 x.2.2.2.1) (csS cs1) fun x=>vB (x.1,x.2.1,x.2.2.1)
theorem qdJ (N:Nat):v8 Tryz.prog VR 81 (zd qo6 4) (WW N):=jw fun x z h=>qd9 N (x.1,x.2.1,x.2.2.1) N x.2.2.2.1 z h
def qgU (z:Bool):TV×THp:=(xb z,[])
def VF (N:Nat) (a0:List qa) (a1:List qa):Tree (Bool):=
 .cond (!decide (((a0.length:Nat):Int)=((a1.length:Nat):Int))) (
 .ret false) <|
 .bind (Ks N a1 a0 ((a0.length:Nat):Int) 0) fun z1=>
 .sum z1 (fun z2=>
 .ret false) fun z2=>
 .ret true
def JF (N:Nat) (a0:List qa) (a1:List qa):Option (Bool):=(VF N a0 a1).run some
def qgW (N:Nat):List (Nat×qH):=[(4,WW N)]
def KS (N:Nat):Ent:=smF ⟨81,[],[.x (.sl 19 qh),.x (.sl 19 qh),.fn 82 [] []],[],[]⟩ [(.sl 19 qh),(.sl 19 qh)] (Bool) (fun x=>JF N x.1 x.2.1) cs1 fun _=>qgU
theorem qft (N:Nat):zc Tryz.prog (KS N):=
 q8 (H:=VR) (L:=qR (qgW N)) (ts:=[(.sl 19 qh),(.sl 19 qh)]) (T:=fun x=>VF N x.1 x.2.1) 0 qHx (Ys N) (qu (by kernel_rfl) ⟨qdJ N,trivial⟩) (rg0 (by kernel_rfl)) fun x=>by kernel_rfl
noncomputable def qF2:Code:=Tryz.f31.body.getD .skip
theorem qHi:FnF Tryz.prog 31 Tryz.f31 qF2:=⟨qk,by kernel_rfl,by kernel_rfl,by kernel_rfl⟩
def qyp:TH:={ live:=[(0,[2,3]),(1,[4])] }
def qy7 (N:Nat):List Ent:=[KS N]
theorem quV (N:Nat):qT Tryz.prog (qy7 N):=⟨qft N,trivial⟩
def qy2 (z:Bool):TV×THp:=(xb z,[])
def qg4 (N:Nat) (a0:qb) (a1:qb):Tree (Bool):=
 .bind (JF N (qb.R a0) (qb.R a1)) fun r1=>
 .ret r1
def YM (N:Nat) (a0:qb) (a1:qb):Option (Bool):=(qg4 N a0 a1).run some
def qyW (N:Nat):List (Nat×qH):=[]
def qgY (N:Nat):Ent:=smF ⟨31,[],[.x qL,.x qL],[],[]⟩ [qL,qL] (Bool) (fun x=>YM N x.1 x.2.1) cs1 fun _=>qy2
theorem ql2 (N:Nat):zc Tryz.prog (qgY N):=
 q8 (H:=qyp) (L:=qR (qyW N)) (ts:=[qL,qL]) (T:=fun x=>qg4 N x.1 x.2.1) 0 qHi (quV N) (qu (by kernel_rfl) trivial) (rg0 (by kernel_rfl)) fun x=>by kernel_rfl
noncomputable def qGd:Code:=Tryz.f32.body.getD .skip
theorem qGM:FnF Tryz.prog 32 Tryz.f32 qGd:=⟨qk,by kernel_rfl,by kernel_rfl,by kernel_rfl⟩
def qB8:TH:={ live:=[(0,[2,3]),(1,[3,5,6]),(2,[4])],dec:=[15] }
def qCE (N:Nat):List Ent:=[qhi N,qgY N]
theorem qvK (N:Nat):qT Tryz.prog (qCE N):=⟨qlp N,ql2 N,trivial⟩
def qBQ (z:Bool):TV×THp:=(xb z,[])
def qjP (N:Nat) (a0:qb) (a1:qb):Tree (Bool):=
 .bind (Vv N a0 a1) fun r1=>
 .cond (decide (r1.2=0)) (
 .bind (YM N r1.1 a1) fun r2=>
 .ret r2) <|
 .ret false
def qay (N:Nat) (a0:qb) (a1:qb):Option (Bool):=(qjP N a0 a1).run some
def qA4 (N:Nat):List (Nat×qH):=[]
def qp0 (N:Nat):Ent:=smF ⟨32,[],[.x qL,.x qL],[],[]⟩ [qL,qL] (Bool) (fun x=>qay N x.1 x.2.1) cs1 fun _=>qBQ
theorem qzk (N:Nat):zc Tryz.prog (qp0 N):=
 q8 (H:=qB8) (L:=qR (qA4 N)) (ts:=[qL,qL]) (T:=fun x=>qjP N x.1 x.2.1) 0 qGM (qvK N) (qu (by kernel_rfl) trivial) (rg0 (by kernel_rfl)) fun x=>by kernel_rfl
noncomputable def qxK:Code:=Tryz.f10.body.getD .skip
theorem qHA:FnF Tryz.prog 10 Tryz.f10 qxK:=⟨qk,by kernel_rfl,by kernel_rfl,by kernel_rfl⟩
def qh2:TH:={ live:=[(0,[2,3]),(1,[2,3,5]),(2,[2,3,5,6]),(3,[2,3,5,6,7]),(4,[2,3,5,6,7,8,9]),(5,[2,3,5,8,9,32]),(6,[4]),(7,[2,3,8,9,35]),(8,[4]),(9,[2,3,8,10,11]),(10,[2,8,10,11,65]),(11,[4]),(12,[4])],dec:=[25,29,40,44,48,61,69,73,77,85,89,92] }
def qis (N:Nat):List Ent:=[qxX,qc9 N,qdb N,qAr N,qp0 N,qbT N,qgY N]
theorem qfs (N:Nat):qT Tryz.prog (qis N):=⟨qDZ,qkK N,qkL N,qHg N,qzk N,qcF N,ql2 N,trivial⟩
def qii (z:Bool):TV×THp:=(xb z,[])
def Xj (N:Nat) (a0:qb) (a1:qe):Tree (Bool):=
 .bind (qwV) fun r1=>
 .bind (XY N a0) fun r2=>
 .bind (Qz N a1) fun r3=>
 .bind (qi1 N a0 a1) fun r4=>
 .cond (!r1) (
 .ret r1) <|
 .cond (!r2) (
 .ret r1) <|
 .cond (!r3) (
 .ret r1) <|
 .cond (!decide (r4.2=0)) (
 .cond (decide ((((qb.R r4.1).length:Nat):Int)=((0:Int)))) (
 .cond (!decide (r4.2=2)) (
 .cond (!decide (r4.2=5)) (
 .ret (!decide (r4.2=3))) <|
 .ret false) <|
 .ret false) <|
 .ret false) <|
 .bind (qi1 N r4.1 a1) fun r5=>
 .cond (decide ((qe.Kind a1)=((0:Int)))) (
 .bind (qay N a0 r4.1) fun r6=>
 .cond r6 (
 .bind (JZ N r4.1) fun r7=>
 .cond r7 (
 .cond (decide (r5.2=0)) (
 .bind (YM N r4.1 r5.1) fun r8=>
 .ret r8) <|
 .ret false) <|
 .ret false) <|
 .ret false) <|
 .cond (decide ((qe.Kind a1)=((1:Int)))) (
 .bind (qay N a0 r4.1) fun r6=>
 .cond r6 (
 .bind (JZ N r4.1) fun r7=>
 .cond r7 (
 .cond (decide (r5.2=0)) (
 .bind (YM N r4.1 r5.1) fun r8=>
 .ret r8) <|
 .ret false) <|
 .ret false) <|
 .ret false) <|
 .bind (qay N a0 r4.1) fun r6=>
 .cond r6 (
 .bind (JZ N r4.1) fun r7=>
 .cond r7 (
 .cond (!decide (r5.2=0)) (
 .ret true) <|
 .bind (qay N r4.1 r5.1) fun r8=>
 .ret r8) <|
 .ret false) <|
 .ret false
def Qg (N:Nat) (a0:qb) (a1:qe):Option (Bool):=(Xj N a0 a1).run some
def qin (N:Nat):List (Nat×qH):=[]
theorem qfz (N:Nat):qcJ Tryz.prog ⟨10,[],[.x qL,.x zO],[],[]⟩ [qL,zO] (fun x=>Xj N x.1 x.2.1) (fun _=>qii):=
 K9 (H:=qh2) (L:=qR (qin N)) 0 qHA (qfs N) (qu (by kernel_rfl) trivial) (rg0 (by kernel_rfl)) fun x=>by kernel_rfl
end Go.Rx
end
set_option maxRecDepth 100000
noncomputable section
namespace Go.Rx
open Go.Proofs
abbrev Qw (q:Nat→Bool) (n:Nat):Bool:=qxL q n 0
theorem J0 {q:Nat→Bool} {n:Nat}:Qw q n=true↔∀ j,j < n→q j=true:=by
 unfold Qw; rw [qyb]
 exact ⟨fun h j hj=>h j (Nat.zero_le _) (by omega),fun h j _ hj=>h j (by omega)⟩
theorem qDA {p q:Nat→Bool} {n:Nat} (h:Jo p n 0=none) (hq:∀ j,j < n→p j=!q j):Qw q n=true:=
 J0.2 fun j hj=>by
  have:=qoe h j (Nat.zero_le _) (by omega)
  rw [hq j hj] at this; simpa using this
theorem qE5 {p q:Nat→Bool} {n i:Nat} (h:Jo p n 0=some i) (hq:∀ j,j < n→p j=!q j):Qw q n=false:=by
 obtain ⟨h1,_,h2,_⟩:=qgr h
 cases e:Qw q n with
 | false=>rfl
 | true=>
  have:=J0.1 e i (by omega)
  rw [hq i (by omega),this] at h1; simp at h1
theorem XH {α Y : Type} {B : Int → Tree (Int ⊕ (α ⊕ (Int × Bool)))} {g : α ⊕ (Int × Bool) → Option Y} {q : Nat → Bool} {n : Nat} {hit : α}
    (h1:∀ k,k < n→(B (k:Int)).run some=some (if q k then .inl ((k + 1:Nat):Int) else .inr (.inl hit))) (h2:(B (n:Int)).run some=some (.inr (.inr (((n:Nat):Int),false)))) {N:Nat} (hN:n < N) :
    q_ B g N ((0:Nat):Int)=g (if Qw q n then .inr (((n:Nat):Int),false) else .inl hit):=by
 rw [qgg (p:=fun k=>!q k) (hit:=fun _=>.inl hit) (fin:=.inr (((n:Nat):Int),false)) (n:=n) (fun k hk=>by rw [h1 k hk]; cases q k<;>rfl) h2 N 0 (Nat.zero_le _) (by omega),Nat.sub_zero]
 cases e:Jo (fun k=>!q k) n 0 with
 | none=>rw [qDA e fun _ _=>rfl]; rfl
 | some i=>rw [qE5 e fun _ _=>rfl]; rfl
theorem qiG {α:Type} {d:α} {l:List α} {k:Nat} (h:k < l.length):l.take (k + 1)=l.take k++[l.getD k d]:=by
 rw [List.take_succ_eq_append_getElem h,List.getD_eq_getElem?_getD,List.getElem?_eq_getElem h]; rfl
class Q0 (N:Nat):Prop where
 h:100000≤N
theorem Q0.of {N:Nat} (h:100000≤N):Q0 N:=⟨h⟩
theorem big (N:Nat) [Q0 N]:100000≤N:=Q0.h
abbrev zSt:qf:=((0:Int),(0:Int))
theorem qIo {c n:Nat}:decide (((c:Nat):Int) < ((n:Nat):Int))=!decide (n≤c):=by
 by_cases h:n≤c
 ·rw [decide_eq_true h,decide_eq_false (by omega)]; rfl
 ·rw [decide_eq_false h,decide_eq_true (by omega)]; rfl
def stB (a:qf):Bool:=decide (a=zSt)||(decide (0 < a.1)&&decide (a.1≤1099511627776)&&decide (0≤a.2)&&decide (a.2 < 8))
def slB (a b:qf):Bool:=decide (a.1 < b.1∨(a.1=b.1∧a.2 < b.2))
theorem qkV (a b:qf):eqE qn a b=decide (a=b):=Bool.eq_iff_iff.2 ((Qj qn a b).trans (decide_eq_true_iff (p:=(a:Int×Int)=b)).symm)
theorem qwF (a b:Vector UInt8 16):eqE (.ba 16) a b=decide (a=b):=Bool.eq_iff_iff.2 ((Qj (.ba 16) a b).trans (decide_eq_true_iff (p:=(a:Vector UInt8 16)=b)).symm)
theorem qjo (a:qf):YH a=some (stB a):=by
 unfold YH qgt
 have e:=qkV a (qf.mk 0 0)
 simp only [Tree.run,e]
 show (bif decide (a=zSt) then _ else _)=some (decide (a=zSt)||_)
 cases decide (a=zSt) with
 | true=>rfl
 | false=>
  show (bif decide (0 < a.1) then _ else _)=_
  cases decide (0 < a.1) with
  | false=>rfl
  | true=>
   show (bif decide (a.1≤1099511627776) then _ else _)=_
   cases decide (a.1≤1099511627776) with
   | false=>rfl
   | true=>
    show (bif decide (0≤a.2) then _ else _)=_
    cases decide (0≤a.2)<;>rfl
end Go.Rx
end
set_option maxRecDepth 100000
noncomputable section
namespace Go.Rx
open Go.Proofs
abbrev zP:qg:=(false,0,0,[])
def inP (a lo hi:Int):Bool:=decide (lo≤a)&&decide (a≤hi)
def Jr (p:qg):Bool:=bif p.qbG then inP p.jA 0 200&&inP p.Len 1 200&&decide (p.Lit=[]) else decide (p=(false,0,0,p.Lit))&&inP (p.Lit.length:Nat) 1 200
theorem qGN (a b:qg):eqE qG a b=decide (a=b):=Bool.eq_iff_iff.2 ((Qj qG a b).trans (decide_eq_true_iff (p:=(a:Bool×Int×Int×List UInt8)=b)).symm)
theorem qxr (a lo hi:Int):qck a lo hi=some (inP a lo hi):=by
 unfold qck qja inP
 exact vu rfl (fun h=>qD (by rw [h]; rfl)) fun h=>qD (by rw [h]; rfl)
theorem qHH (p:qg):qf6 p=some (Jr p):=by
 unfold qf6 qhr Jr
 refine vu rfl (fun h=>?_) fun h=>?_
 ·rw [h]
  refine qy (qxr _ _ _) <| vu rfl (fun h1=>?_) fun h1=>qD (by rw [h1]; rfl)
  refine qy (qxr _ _ _) <| vu rfl (fun h2=>?_) fun h2=>qD (by rw [h1,h2]; rfl)
  exact qD (by rw [h1,h2]; rfl)
 ·rw [h]
  exact vu (qGN _ _) (fun h1=>qy (qxr _ _ _) (qD (by rw [show decide (p=(false,0,0,p.Lit))=true from h1]; rfl))) fun h1=>qD (by rw [show decide (p=(false,0,0,p.Lit))=false from h1]; rfl)
def qdE (l:List qg) (k:Nat):Int:=((l.take k).map fun p=>p.Len + ((p.Lit.length:Nat):Int)).sum
def qaZ (l:List qg):Bool:=Qw (fun k=>Jr (l.getD k zP)) l.length&&decide (l.length≤60)&&decide (qdE l l.length≤200)
theorem qtj {l:List qg} {k:Nat} (h:k < l.length):qdE l (k + 1)=qdE l k + ((l.getD k zP).Len + (((l.getD k zP).Lit.length:Nat):Int)):=by
 unfold qdE
 rw [qiG (d:=zP) h,List.map_append,List.sum_append]; simp
theorem qk6 {p:qg} (h:Jr p=true):0≤p.Len + ((p.Lit.length:Nat):Int)∧p.Len + ((p.Lit.length:Nat):Int)≤200∧0≤p.Len:=by
 unfold Jr inP at h
 cases e:p.qbG with
 | true=>
  rw [e,cond_true] at h
  simp only [Bool.and_eq_true,decide_eq_true_eq] at h
  obtain ⟨⟨_,h1,h2⟩,h3⟩:=h
  rw [h3]; simp only [List.length_nil]; omega
 | false=>
  rw [e,cond_false] at h
  simp only [Bool.and_eq_true,decide_eq_true_eq] at h
  obtain ⟨h1,h2,h3⟩:=h
  have:p.Len=0:=by rw [h1]; rfl
  omega
theorem qzT {l:List qg}:∀ {k:Nat},k≤l.length→(∀ j,j < k→Jr (l.getD j zP)=true)→0≤qdE l k∧qdE l k≤200 * (k:Int)
 | 0,_,_=>by unfold qdE; simp
 | k + 1,hk,h=>by
  have h1:=qzT (k:=k) (by omega) fun j hj=>h j (by omega)
  have h2:=qk6 (h k (by omega))
  rw [qtj (by omega)]; omega
theorem qqn {V W Y : Type} {B : V → Tree (V ⊕ W)} {g : W → Option Y} {at_ : Nat → V} {q : Nat → Bool} {n : Nat} {hit fin : W}
    (h1:∀ k,k < n→(∀ j,j < k→q j=true)→(B (at_ k)).run some=some (if q k then .inl (at_ (k + 1)) else .inr hit)) (h2:(B (at_ n)).run some=some (.inr fin)) :
    ∀ (m k:Nat),k + m=n→∀ N,m < N→(∀ j,j < k→q j=true)→q_ B g N (at_ k)=g (if Qw q n then fin else hit)
 | 0,k,hk,N + 1,_,hq=>by
  obtain rfl:k=n:=by omega
  rw [zM h2,if_pos (J0.2 hq)]
 | m + 1,k,hk,N + 1,hN,hq=>by
  have h:=h1 k (by omega) hq
  cases e:q k with
  | true=>
   rw [e,if_pos rfl] at h
   rw [JI h]
   exact qqn h1 h2 m (k + 1) (by omega) N (by omega) fun j hj=>by
    by_cases ej:j=k
    ·rw [ej]; exact e
    ·exact hq j (by omega)
  | false=>
   rw [e,if_neg (by simp)] at h
   rw [zM h,if_neg (fun ha=>by have:=J0.1 ha k (by omega); rw [e] at this; cases this)]
 | _,_,_,0,hN,_=>by omega
section
variable {N:Nat} [Q0 N]
theorem qDw {l : List qg} (hl : l.length < N) (hl2 : l.length ≤ 1000000000000000) :
    qfj N l l ((l.length:Nat):Int) 0 0=some (if Qw (fun k=>Jr (l.getD k zP)) l.length then .inr (qdE l l.length,((l.length:Nat):Int),false) else .inl ()):=by
 refine (qqn (B:=Kh N l l ((l.length:Nat):Int)) (g:=some) (at_:=fun k=>(qdE l k,(k:Int))) (q:=fun k=>Jr (l.getD k zP)) (n:=l.length) (hit:=.inl ()) (fin:=.inr (qdE l l.length,((l.length:Nat):Int),false)) (fun k hk hq=>?_) ?_ l.length 0 (by omega) N (by omega) (fun j hj=>by omega)).trans ?_
 ·unfold Kh
  refine w_t (dec_lt hk) <| qy (jV (d:=zP) hk) <| qy (qHH _) <| vu rfl (fun h=>?_) fun h=>?_
  ·have h':Jr (l.getD k zP)=false:=by rw [Bool.not_eq_true'] at h; exact h
   rw [h']; exact qD rfl
  ·have h':Jr (l.getD k zP)=true:=by rw [Bool.not_eq_false'] at h; exact h
   have h1:=qzT (k:=k) (Nat.le_of_lt hk) hq
   have h2:=qk6 h'
   rw [h']
   refine q6 (show qz ((l.getD k zP).Len + (((l.getD k zP).Lit.length:Nat):Int)) by unfold qz; omega) <| q6 (show qz (qdE l k + ((l.getD k zP).Len + (((l.getD k zP).Lit.length:Nat):Int))) by unfold qz; omega) <| q6 (Q9 (by omega)) <| qD ?_
   rw [if_pos rfl,qtj hk,zB]
 ·unfold Kh
  exact w_f (jt (Nat.lt_irrefl _)) (qD (by rw [jt (Nat.lt_irrefl _)]))
 ·split<;>rfl
theorem qtq {l:List qg} (hl:l.length < N) (hl2:l.length≤1000000000000000):JJ N l=some (qaZ l):=by
 unfold JJ qgH qaZ
 refine qy (qDw hl hl2) ?_
 cases Qw (fun k=>Jr (l.getD k zP)) l.length with
 | false=>rfl
 | true=>
  refine w_r rfl <| vu (c:=decide (l.length≤60)) (decide_eq_decide.2 (by omega)) (fun h=>qD ?_) fun h=>qD ?_
  ·rw [h]; rfl
  ·rw [h]; rfl
end
section
variable {N:Nat}
theorem qGH {l m : List qg} (hl : l.length < N) (hm : m.length = l.length) (hl2 : l.length ≤ 1000000000000000) :
    Xr N l m ((l.length:Nat):Int) 0=some (if Qw (fun k=>decide (l.getD k zP=m.getD k zP)) l.length then .inr (((l.length:Nat):Int),false) else .inl ()):=by
 refine (XH (B:=Zk N l m ((l.length:Nat):Int)) (g:=some) (q:=fun k=>decide (l.getD k zP=m.getD k zP)) (n:=l.length) (hit:=()) (fun k hk=>?_) ?_ hl)
 ·unfold Zk
  refine w_t (dec_lt hk) <| qy (jV (d:=zP) hk) <| qy (jV (d:=zP) (by omega)) <| vu rfl (fun h=>?_) fun h=>?_
  ·have h':decide (l.getD k zP=m.getD k zP)=false:=by rw [qGN,Bool.not_eq_true'] at h; exact h
   rw [h']; exact qD rfl
  ·have h':decide (l.getD k zP=m.getD k zP)=true:=by rw [qGN,Bool.not_eq_false'] at h; exact h
   rw [h']; exact q6 (Q9 (by omega)) <| qD (by rw [zB]; rfl)
 ·unfold Zk
  exact w_f (jt (Nat.lt_irrefl _)) (qD (by rw [jt (Nat.lt_irrefl _)]))
theorem quu {α:Type} {d:α} {l m:List α} (h:m.length=l.length) (hg:∀ k,k < l.length→l.getD k d=m.getD k d):l=m:=by
 refine List.ext_getElem h.symm fun i h1 h2=>?_
 have:=hg i h1
 rw [List.getD_eq_getElem?_getD,List.getD_eq_getElem?_getD,List.getElem?_eq_getElem h1,List.getElem?_eq_getElem h2] at this
 exact this
theorem qHZ {l m:List qg} (hl:l.length < N) (hl2:l.length≤1000000000000000):qen N l m=some (decide (l=m)):=by
 have e:Vx N l m=some (decide (l=m)):=by
  unfold Vx X7
  by_cases hm:m.length=l.length
  ·refine w_f (by rw [decide_eq_true (by omega)]; rfl) <| qy (qGH hl hm hl2) ?_
   cases e:Qw (fun k=>decide (l.getD k zP=m.getD k zP)) l.length with
   | true=>
    have:l=m:=quu hm fun k hk=>of_decide_eq_true (J0.1 e k hk)
    exact w_r rfl (qD (by rw [decide_eq_true this]))
   | false=>
    have:¬ l=m:=fun h=>by
     rw [J0.2 (fun k _=>by rw [h]; exact decide_eq_true rfl)] at e; cases e
    exact w_l rfl (qD (by rw [decide_eq_false this]))
  ·exact w_t (by rw [decide_eq_false (by omega)]; rfl) (qD (by rw [decide_eq_false (fun h=>hm (by rw [h]))]))
 unfold qen qfk
 exact qy e (qD rfl)
theorem qKp (a b:Vector UInt8 32):eqE (.ba 32) a b=decide (a=b):=Bool.eq_iff_iff.2 ((Qj (.ba 32) a b).trans (decide_eq_true_iff (p:=(a:Vector UInt8 32)=b)).symm)
theorem qER {a b:qe} (hl:(qe.P a).length < N) (hl2:(qe.P a).length≤1000000000000000):qnn N a b=some (decide (a=b)):=by
 unfold qnn qmq
 have no:∀ {p:Prop} [Decidable p],(a=b→p)→decide p=false→some false=some (decide (a=b)):=fun hp h=>by rw [decide_eq_false (fun e=>of_decide_eq_false h (hp e))]
 refine vu (qwF _ _) (fun h1=>?_) fun h1=>qD (no (fun e=>by rw [e]) h1)
 refine vu (qwF _ _) (fun h2=>?_) fun h2=>qD (no (fun e=>by rw [e]) h2)
 refine vu rfl (fun h3=>?_) fun h3=>qD (no (fun e=>by rw [e]) h3)
 refine vu rfl (fun h4=>?_) fun h4=>qD (no (fun e=>by rw [e]) h4)
 refine vu rfl (fun h5=>?_) fun h5=>qD (no (fun e=>by rw [e]) h5)
 refine vu (qkV _ _) (fun h6=>?_) fun h6=>qD (no (fun e=>by rw [e]) h6)
 refine vu rfl (fun h7=>?_) fun h7=>qD (no (fun e=>by rw [e]) h7)
 refine vu (qKp _ _) (fun h8=>?_) fun h8=>qD (no (fun e=>by rw [e]) h8)
 refine qy (qHZ hl hl2) <| qD ?_
 have key:qe.P a=qe.P b↔a=b:=by
  obtain ⟨a1,a2,a3,a4,a5,a6,a7,a8,a9⟩:=a
  obtain ⟨b1,b2,b3,b4,b5,b6,b7,b8,b9⟩:=b
  have e1:a2=b2:=of_decide_eq_true h1
  have e2:a7=b7:=of_decide_eq_true h2
  have e3:a4=b4:=of_decide_eq_true h3
  have e4:a8=b8:=of_decide_eq_true h4
  have e5:a1=b1:=of_decide_eq_true h5
  have e6:a3=b3:=of_decide_eq_true h6
  have e7:a5=b5:=of_decide_eq_true h7
  have e8:a9=b9:=of_decide_eq_true h8
  subst e1 e2 e3 e4 e5 e6 e7 e8
  exact ⟨fun h=>by have h:a6=b6:=h; rw [h],fun h=>by rw [h]⟩
 exact congrArg some (decide_eq_decide.2 key)
end
theorem qtE (a:Int):qcY a=some (decide (0≤a)&&decide (a < 8)):=by
 unfold qcY qgs
 exact vu rfl (fun h=>qD (by rw [h]; rfl)) fun h=>qD (by rw [h]; rfl)
end Go.Rx
end
set_option maxRecDepth 100000
noncomputable section
namespace Go.Rx
open Go.Proofs
abbrev zI:Vector UInt8 16:=Vector.replicate 16 0
abbrev zD:Vector UInt8 32:=Vector.replicate 32 0
def qBJ (o:qe):qe:=
 if o.Kind=1 then .mk o.Kind o.ID o.S o.No o.V [] zI 0 zD
 else if o.Kind=2 then .mk o.Kind o.ID o.S o.No [] [] o.jA o.Jt o.D
 else if o.Kind=3 then .mk o.Kind o.ID o.S o.No [] o.P zI 0 o.D
 else .mk o.Kind o.ID o.S 0 [] [] zI 0 zD
def qCQ (a:Int):Bool:=decide (0≤a)&&decide (a < 8)
def opB (o:qe):Bool:=!decide (o.Kind < 0)&&!decide (4≤o.Kind)&&decide (o=qBJ o)&&!decide (o.S=zSt)&&stB o.S&&qCQ o.No&&qCQ o.Jt&&decide ((o.V.length:Int)≤200)&&qaZ o.P
theorem qJy (o:qe):qnd o=some (qBJ o):=by
 unfold qnd qma qBJ
 refine vu rfl (fun h=>qD ?_) fun h=>vu rfl (fun h2=>qD ?_) fun h2=>vu rfl (fun h3=>qD ?_) fun h3=>qD ?_
 ·rw [if_pos (of_decide_eq_true h)]
 ·rw [if_neg (of_decide_eq_false h),if_pos (of_decide_eq_true h2)]
 ·rw [if_neg (of_decide_eq_false h),if_neg (of_decide_eq_false h2),if_pos (of_decide_eq_true h3)]
 ·rw [if_neg (of_decide_eq_false h),if_neg (of_decide_eq_false h2),if_neg (of_decide_eq_false h3)]
section
variable {N:Nat} [Q0 N]
theorem qwu {o:qe} (hl:(qe.P o).length < N) (hl2:(qe.P o).length≤1000000000000000):qp_ N o=some (opB o):=by
 unfold qp_ qoO opB
 refine vu rfl (fun h1=>qD (by rw [h1]; rfl)) fun h1=>?_
 refine vu rfl (fun h2=>qD (by rw [h1,h2]; rfl)) fun h2=>?_
 refine qy (qJy o) <| qy (qER hl hl2) ?_
 refine vu rfl (fun h3=>qD ?_) fun h3=>?_
 ·rw [Bool.not_eq_true'] at h3
  rw [h1,h2,h3]; rfl
 rw [Bool.not_eq_false'] at h3
 refine vu (qkV _ _) (fun h4=>qD ?_) fun h4=>?_
 ·have h4:decide (o.S=zSt)=true:=h4
  rw [h1,h2,h3,h4]; rfl
 have h4:decide (o.S=zSt)=false:=h4
 refine qy (qjo _) <| vu rfl (fun h5=>?_) fun h5=>qD (by rw [h1,h2,h3,h4,h5]; rfl)
 refine qy (qtE _) <| vu (show _=qCQ o.No from rfl) (fun h6=>?_) fun h6=>qD (by rw [h1,h2,h3,h4,h5,h6]; rfl)
 refine qy (qtE _) <| vu (show _=qCQ o.Jt from rfl) (fun h7=>?_) fun h7=>qD (by rw [h1,h2,h3,h4,h5,h6,h7]; rfl)
 refine vu rfl (fun h8=>?_) fun h8=>qD (by rw [h1,h2,h3,h4,h5,h6,h7,h8]; rfl)
 exact qy (qtq hl hl2) <| qD (by rw [h1,h2,h3,h4,h5,h6,h7,h8]; rfl)
end
end Go.Rx
end
set_option maxRecDepth 100000
noncomputable section
namespace Go.Rx
open Go.Proofs
section n
variable {N:Nat} [Q0 N]
def sgn (a b:Int):Int:=if a < b then -1 else if b < a then 1 else 0
theorem qJW (a b:Int):Vs a b=some (sgn a b):=by
 unfold Vs KF qag qbq
 simp only [Tree.run,Option.bind_some,decide_true,Bool.not_true,cond_false,sgn]
 by_cases h:a < b
 ·simp [h]
 ·by_cases h2:b < a
  ·simp [h,h2]
  ·simp [h,h2]
theorem qCf (a b:Int):qbZ N [a,b]=some (if a=0 then b else a):=by
 obtain ⟨n,rfl⟩:∃ n,N=n + 3:=⟨N - 3,by have:=big N; omega⟩
 have e:qds (n + 3) [a,b] ((([a,b]:List Int).length:Nat):Int) 0=q_ (Q4 (n + 3) [a,b] 2) some (n + 3) 0:=rfl
 have r0:(Q4 (n + 3) [a,b] 2 0).run some=if a=0 then some (.inl 1) else some (.inr (.inl a)):=by
  unfold Q4
  have g:zn [a,b] 0=some a:=rfl
  have c:qz ((0:Int) + 1):=by unfold qz; omega
  rw [qJ,show decide ((0:Int) < 2)=true from rfl,cond_true,run_bind,g,Option.bind_some,qJ,zA,qm c]
  by_cases h:a=0
  ·rw [if_pos h,decide_eq_true h]; rfl
  ·rw [if_neg h,decide_eq_false h]; rfl
 have r1:(Q4 (n + 3) [a,b] 2 1).run some=if b=0 then some (.inl 2) else some (.inr (.inl b)):=by
  unfold Q4
  have g:zn [a,b] 1=some b:=rfl
  have c:qz ((1:Int) + 1):=by unfold qz; omega
  rw [qJ,show decide ((1:Int) < 2)=true from rfl,cond_true,run_bind,g,Option.bind_some,qJ,zA,qm c]
  by_cases h:b=0
  ·rw [if_pos h,decide_eq_true h]; rfl
  ·rw [if_neg h,decide_eq_false h]; rfl
 have r2:(Q4 (n + 3) [a,b] 2 2).run some=some (.inr (.inr (2,false))):=rfl
 unfold qbZ qe4
 rw [run_bind,e]
 by_cases h:a=0
 ·rw [if_pos h] at r0
  rw [JI r0,if_pos h]
  by_cases h2:b=0
  ·rw [if_pos h2] at r1
   rw [JI r1,zM r2,h2]; rfl
  ·rw [if_neg h2] at r1
   rw [zM r1]; rfl
 ·rw [if_neg h] at r0
  rw [zM r0,if_neg h]; rfl
theorem qK5 (a b:Int):sgn a b=-1∨sgn a b=0∨sgn a b=1:=by
 unfold sgn; split
 ·exact .inl rfl
 ·split
  ·exact .inr (.inr rfl)
  ·exact .inr (.inl rfl)
theorem qcX (a b:qf):QY N a b=some (slB a b):=by
 obtain ⟨a1,a2⟩:=a
 obtain ⟨b1,b2⟩:=b
 unfold QY qe8
 simp only [Tree.run,qkV,qJW,Option.bind_some]
 by_cases h:((a1,a2):qf)=(b1,b2)
 ·cases h
  have:slB ((a1,a2):qf) (a1,a2)=false:=decide_eq_false (by simp only; omega)
  rw [this,decide_eq_true rfl]; rfl
 ·rw [decide_eq_false h]
  simp only [Bool.not_false,cond_true]
  show ((qbZ N [sgn a1 b1,sgn a2 b2]).bind _)=_
  have hs:=qK5 a2 b2
  by_cases h1:a1 < b1
  ·rw [show sgn a1 b1=-1 from if_pos h1,qCf,show slB ((a1,a2):qf) (b1,b2)=true from decide_eq_true (.inl h1)]; rfl
  ·by_cases h2:b1 < a1
   ·rw [show sgn a1 b1=1 by unfold sgn; rw [if_neg h1,if_pos h2],qCf,show slB ((a1,a2):qf) (b1,b2)=false from decide_eq_false (by simp only; omega)]; rfl
   ·have he:a1=b1:=by omega
    rw [show sgn a1 b1=0 by unfold sgn; rw [if_neg h1,if_neg h2],qCf,if_pos rfl,Option.bind_some]
    congr 1
    show decide (sgn a2 b2 < 0)=decide (a1 < b1∨(a1=b1∧a2 < b2))
    rw [decide_eq_decide]
    simp only [he,Int.lt_irrefl,false_or,true_and]
    unfold sgn
    split
    ·rename_i h3; simp [h3]
    ·rename_i h3
     split
     ·simp; omega
     ·simp; omega
end n
end Go.Rx
end
set_option maxRecDepth 100000
noncomputable section
namespace Go.Rx
open Go.Proofs
def lbB (a b:Vector UInt8 16):Bool:=!decide (a=b)&&decide (Go.Lib.compareBytes a.toList b.toList < 0)
section n
variable {N:Nat} [Q0 N]
theorem qx9 {k:Nat} (h:0 < k):(k:Int) - 1=((k - 1:Nat):Int):=by omega
theorem qJM {k:Nat}:decide ((0:Int) < (k:Int))=!decide (k=0):=by
 by_cases h:k=0
 ·subst h; rfl
 ·rw [decide_eq_false h,decide_eq_true (by omega)]; rfl
theorem qGq (a b:Vector UInt8 16):qfQ a b=some (lbB a b):=by
 unfold qfQ qg2 Wq qbw qGe lbB
 simp only [Tree.run,Option.bind_some,qwF]
 cases decide (a=b)<;>rfl
end n
theorem qfn (a:Vector UInt8 16):lbB a a=false:=by unfold lbB; rw [decide_eq_true rfl]; rfl
end Go.Rx
end
set_option maxRecDepth 100000
noncomputable section
namespace Go.Rx
abbrev c32 (x:UInt32):Int:=((x.toNat:Nat):Int)
theorem qGv (x:UInt32):x.toNat < 4294967296:=x.toNat_lt
theorem qjd (n:Nat):IntKind.u32.wrap ((n:Nat):Int)=((n % 4294967296:Nat):Int):=by rw [IntKind.wrap_u32']; omega
theorem qaV (x:UInt32):BitVec.ofInt 32 (c32 x)=x.toBitVec:=by
 apply BitVec.eq_of_toNat_eq
 rw [ofInt_u32 _ (qGv x)]
 rfl
theorem qoN (x:UInt32):IntKind.u32.wrap ((x.toNat:Nat):Int)=c32 x:=by rw [qjd,Nat.mod_eq_of_lt (qGv x)]
theorem qAY (x y:UInt32):qaE .u32 (c32 x) (c32 y)=c32 (x + y):=by
 unfold qaE
 show IntKind.u32.wrap (((x.toNat:Nat):Int) + ((y.toNat:Nat):Int))=_
 rw [← Int.natCast_add,qjd,c32,UInt32.toNat_add]
theorem qB7 (x y:UInt32):qav .u32 (c32 x) (c32 y)=c32 (x ^^^ y):=by
 unfold qav
 rw [show IntKind.u32.bits=32 from rfl,qaV,qaV]
 exact qoN (x ^^^ y)
theorem qKJ (x y:UInt32):qfm .u32 (c32 x) (c32 y)=c32 (x &&& y):=by
 unfold qfm
 rw [show IntKind.u32.bits=32 from rfl,qaV,qaV]
 exact qoN (x &&& y)
theorem qKd (x y:UInt32):uOr .u32 (c32 x) (c32 y)=c32 (x ||| y):=by
 unfold uOr
 rw [show IntKind.u32.bits=32 from rfl,qaV,qaV]
 exact qoN (x ||| y)
theorem qKI (x:UInt32):qav .u32 4294967295 (c32 x)=c32 (~~~x):=by
 have h:(4294967295:Int)=c32 4294967295:=rfl
 rw [h,qB7]
 congr 2
theorem qvj (x:UInt32) (n:Nat) (h:n < 32):qsD .u32 (c32 x) n=c32 (x <<< UInt32.ofNat n):=by
 unfold qsD
 rw [show c32 x * 2 ^ n=((x.toNat * 2 ^ n:Nat):Int) by push_cast; rfl,qjd,c32,UInt32.toNat_shiftLeft,UInt32.toNat_ofNat_of_lt' (show n < UInt32.size by unfold UInt32.size; omega),Nat.mod_eq_of_lt h,Nat.shiftLeft_eq]
theorem qvs (x:UInt32) (n:Nat) (h:n < 32):ZT (c32 x) n=c32 (x >>> UInt32.ofNat n):=by
 unfold ZT
 rw [show ((2:Int) ^ n)=((2 ^ n:Nat):Int) by push_cast; rfl,Int.fdiv_eq_ediv_of_nonneg _ (Int.natCast_nonneg _),c32,← Int.natCast_ediv,c32,UInt32.toNat_shiftRight,UInt32.toNat_ofNat_of_lt' (show n < UInt32.size by unfold UInt32.size; omega),Nat.mod_eq_of_lt h,Nat.shiftRight_eq_div_pow]
theorem qvc (x:UInt32):inW (c32 x):=⟨Int.natCast_nonneg _,by have:=qGv x; show ((x.toNat:Nat):Int) < _; omega⟩
def rot (x:UInt32) (n:Nat):UInt32:=(x <<< UInt32.ofNat (32 - n)) ||| (x >>> UInt32.ofNat n)
end Go.Rx
end
set_option maxRecDepth 100000
noncomputable section
namespace Go.Rx
open Go.Proofs
theorem qKA:∀ n < 32,0 < n→qfm .u64 (IntKind.u64.wrap (0 - ((n:Nat):Int))) 31=((32 - n:Nat):Int):=by decide +kernel
theorem qIH:∀ n < 32,0 < n→qJR .u64 (32:Int) ((32 - n:Nat):Int)=((n:Nat):Int):=by decide +kernel
theorem qfg (x:UInt32) (n:Nat) (h:n < 32) (h0:0 < n):zX (c32 x) ((n:Nat):Int)=some (c32 (rot x n)):=by
 unfold zX qgZ VM J8
 have h64:qz (0 - ((n:Nat):Int)):=by unfold qz; omega
 simp only [run_bind,zA,qS,qm h64,qKA n h h0,qIH n h h0]
 rw [qm (show (0:Int)≤((32 - n:Nat):Int) by omega),qm (show (0:Int)≤((n:Nat):Int) by omega),Int.toNat_natCast,Int.toNat_natCast,Nat.min_eq_left (show 32 - n≤32 by omega),Nat.min_eq_left (show n≤32 by omega),qvj x _ (by omega),qvs x n h,qKd]
 rfl
abbrev wAt {n:Nat} (v:Vector UInt32 n) (k:Nat):UInt32:=v.toList.getD k 0
abbrev bAt (l:List UInt8) (k:Nat):UInt32:=(l.getD k 0).toUInt32
def qsk (b:List UInt8) (k:Nat) (w:Vector UInt32 64):Vector UInt32 64:=
 if k < 16 then w.setIfInBounds k ((bAt b (4 * k) <<< UInt32.ofNat 24) ||| (bAt b (4 * k + 1) <<< UInt32.ofNat 16) ||| (bAt b (4 * k + 2) <<< UInt32.ofNat 8) ||| bAt b (4 * k + 3))
 else w.setIfInBounds k (wAt w (k - 16) + wAt w (k - 7) + (rot (wAt w (k - 15)) 7 ^^^ rot (wAt w (k - 15)) 18 ^^^ (wAt w (k - 15) >>> UInt32.ofNat 3)) + (rot (wAt w (k - 2)) 17 ^^^ rot (wAt w (k - 2)) 19 ^^^ (wAt w (k - 2) >>> UInt32.ofNat 10)))
def qo1 (b:List UInt8):Vector UInt32 64:=VB (qsk b) 64 0 (Vector.replicate 64 0)
theorem qKv (c:UInt8):IntKind.u32.wrap ((c.toNat:Nat):Int)=c32 c.toUInt32:=by
 rw [qjd,Nat.mod_eq_of_lt (by have:=c.toNat_lt; omega),c32,UInt8.toNat_toUInt32]
theorem qJ0 {N:Nat} {o:Vector UInt32 64} {b:List UInt8} {w:Vector UInt32 64} {k:Nat} (hb:b.length=64) (hk:k < 16):(v_ N o b (w,(k:Int))).run some=some (.inl (qsk b k w,((k + 1:Nat):Int))):=by
 have g:∀ j < 4,zn b ((4:Int) * (k:Int) + ((j:Nat):Int))=some (b.getD (4 * k + j) 0):=fun j hj=>by
  rw [show (4:Int) * (k:Int) + ((j:Nat):Int)=((4 * k + j:Nat):Int) by omega]; exact jV (by omega)
 have g0:zn b ((4:Int) * (k:Int))=some (b.getD (4 * k) 0):=by have:=g 0 (by omega); simpa using this
 have g1:zn b ((4:Int) * (k:Int) + 1)=some (b.getD (4 * k + 1) 0):=g 1 (by omega)
 have g2:zn b ((4:Int) * (k:Int) + 2)=some (b.getD (4 * k + 2) 0):=g 2 (by omega)
 have g3:zn b ((4:Int) * (k:Int) + 3)=some (b.getD (4 * k + 3) 0):=g 3 (by omega)
 have c0:qz ((4:Int) * (k:Int)):=by unfold qz; omega
 have c1:qz ((4:Int) * (k:Int) + 1):=by unfold qz; omega
 have c2:qz ((4:Int) * (k:Int) + 2):=by unfold qz; omega
 have c3:qz ((4:Int) * (k:Int) + 3):=by unfold qz; omega
 have c4:qz ((k:Int) + 1):=by unfold qz; omega
 have d1:decide ((k:Int) < 64)=true:=decide_eq_true (by omega)
 have d2:decide ((k:Int) < 16)=true:=decide_eq_true (by omega)
 have p8:(0:Int)≤8:=by omega
 have p16:(0:Int)≤16:=by omega
 have p24:(0:Int)≤24:=by omega
 have pk:(0:Int)≤(k:Int)∧(k:Int) < ((64:Nat):Int):=by omega
 have pk2:k < 64:=by omega
 unfold v_ qsk
 rw [if_pos hk]
 simp only [qJ,run_bind,zA,qS,d1,d2,cond_true,qm c0,qm c1,qm c2,qm c3,g0,g1,g2,g3,Option.bind_some,qm p8,qm p16,qm p24,qKv,qvj _ 24 (by omega),qvj _ 16 (by omega),qvj _ 8 (by omega),qKd,qm (qvc _),qm pk,UInt32.ofNat_toNat,Int.toNat_natCast,qm pk2,qm c4]
 rw [zB]
theorem qKm {N:Nat} {o:Vector UInt32 64} {b:List UInt8} {w:Vector UInt32 64} {k:Nat} (h1:¬ k < 16) (hk:k < 64):(v_ N o b (w,(k:Int))).run some=some (.inl (qsk b k w,((k + 1:Nat):Int))):=by
 have c4:qz ((k:Int) + 1):=by unfold qz; omega
 have d1:decide ((k:Int) < 64)=true:=decide_eq_true (by omega)
 have d2:decide ((k:Int) < 16)=false:=decide_eq_false (by omega)
 have e15:(k:Int) - 15=((k - 15:Nat):Int):=by omega
 have e2:(k:Int) - 2=((k - 2:Nat):Int):=by omega
 have e16:(k:Int) - 16=((k - 16:Nat):Int):=by omega
 have e7:(k:Int) - 7=((k - 7:Nat):Int):=by omega
 have i15:qz (((k - 15:Nat)):Int):=by unfold qz; omega
 have i2:qz (((k - 2:Nat)):Int):=by unfold qz; omega
 have i16:qz (((k - 16:Nat)):Int):=by unfold qz; omega
 have i7:qz (((k - 7:Nat)):Int):=by unfold qz; omega
 have p15:(0:Int)≤((k - 15:Nat):Int)∧((k - 15:Nat):Int) < ((64:Nat):Int):=by omega
 have p2:(0:Int)≤((k - 2:Nat):Int)∧((k - 2:Nat):Int) < ((64:Nat):Int):=by omega
 have p16:(0:Int)≤((k - 16:Nat):Int)∧((k - 16:Nat):Int) < ((64:Nat):Int):=by omega
 have p7:(0:Int)≤((k - 7:Nat):Int)∧((k - 7:Nat):Int) < ((64:Nat):Int):=by omega
 have q15:k - 15 < 64:=by omega
 have q2:k - 2 < 64:=by omega
 have q16:k - 16 < 64:=by omega
 have q7:k - 7 < 64:=by omega
 have p3:(0:Int)≤3:=by omega
 have p10:(0:Int)≤10:=by omega
 have pk:(0:Int)≤(k:Int)∧(k:Int) < ((64:Nat):Int):=by omega
 have r7:=fun x=>qfg x 7 (by omega) (by omega)
 have r18:=fun x=>qfg x 18 (by omega) (by omega)
 have r17:=fun x=>qfg x 17 (by omega) (by omega)
 have r19:=fun x=>qfg x 19 (by omega) (by omega)
 unfold v_ qsk
 rw [if_neg h1]
 simp only [qJ,run_bind,zA,qS,d1,d2,cond_true,cond_false]
 rw [e15,e2,e16,e7]
 rw [qm i15,qm p15,Int.toNat_natCast,qm q15,qm i2,qm p2,Int.toNat_natCast,qm q2,qm i16,qm p16,Int.toNat_natCast,qm q16,qm i7,qm p7,Int.toNat_natCast,qm q7]
 show (Option.bind (zX (c32 (wAt w (k - 15))) ((7:Nat):Int)) _)=_
 rw [r7,Option.bind_some]
 show (Option.bind (zX (c32 (wAt w (k - 15))) ((18:Nat):Int)) _)=_
 rw [r18,Option.bind_some,qm p3]
 show (Option.bind (zX (c32 (wAt w (k - 2))) ((17:Nat):Int)) _)=_
 rw [r17,Option.bind_some]
 show (Option.bind (zX (c32 (wAt w (k - 2))) ((19:Nat):Int)) _)=_
 rw [r19,Option.bind_some,qm p10,qm pk]
 simp only [qB7,qAY,qvs _ 3 (by omega),qvs _ 10 (by omega),qm (qvc _),Int.toNat_natCast,UInt32.ofNat_toNat,qm hk,qm c4]
 rw [zB]
theorem qIb {N:Nat} {b:List UInt8} (hN:64 < N) (hb:b.length=64):qbf N b=some (qo1 b):=by
 have key:qbg N (Vector.replicate 64 0) b (Vector.replicate 64 0) 0=some (qo1 b,(64:Int),false):=by
  refine (ZS (σ:=Vector UInt32 64) (B:=v_ N (Vector.replicate 64 0) b) (g:=some) (at_:=fun k s=>(s,(k:Int))) (I:=fun _ _=>True) (f:=qsk b) (n:=64)
   (fin:=fun s=>(s,(64:Int),false)) (fun k s hk _=>⟨?_,trivial⟩) (fun s _=>?_) N 0 (Vector.replicate 64 0) trivial (Nat.zero_le _) (by omega))
  ·by_cases h:k < 16
   ·exact qJ0 hb h
   ·exact qKm h hk
  ·unfold v_
   rfl
 unfold qbf qcj
 rw [run_bind,key,Option.bind_some,qS]
def tW (K w:Vector UInt32 64) (i:Nat) (x:Vector UInt32 8):UInt32:=wAt x 7 + (rot (wAt x 4) 6 ^^^ rot (wAt x 4) 11 ^^^ rot (wAt x 4) 25) + ((wAt x 4 &&& wAt x 5) ^^^ (~~~(wAt x 4) &&& wAt x 6)) + wAt K i + wAt w i
def uW (x:Vector UInt32 8):UInt32:=(rot (wAt x 0) 2 ^^^ rot (wAt x 0) 13 ^^^ rot (wAt x 0) 22) + ((wAt x 0 &&& wAt x 1) ^^^ (wAt x 0 &&& wAt x 2) ^^^ (wAt x 1 &&& wAt x 2))
def qx6 (K w:Vector UInt32 64) (i:Nat) (x:Vector UInt32 8):Vector UInt32 8:=
 ((Wt x 1 7).setIfInBounds 0 (tW K w i x + uW x)).setIfInBounds 4 (wAt ((Wt x 1 7).setIfInBounds 0 (tW K w i x + uW x)) 4 + tW K w i x)
def qCw (x:Vector UInt32 8) (k:Nat) (s:Vector UInt32 8):Vector UInt32 8:=s.setIfInBounds k (wAt s k + wAt x k)
def qvo (s:Vector UInt32 8) (K:Vector UInt32 64) (b:List UInt8):Vector UInt32 8:=VB (qCw (VB (qx6 K (qo1 b)) 64 0 s)) 8 0 s
theorem qKF {N:Nat} {s:Vector UInt32 8} {K w:Vector UInt32 64} {x:Vector UInt32 8} {k:Nat} (hk:k < 64):(Zt N s K w (x,(k:Int))).run some=some (.inl (qx6 K w k x,((k + 1:Nat):Int))):=by
 have c4:qz ((k:Int) + 1):=by unfold qz; omega
 have d1:decide ((k:Int) < 64)=true:=decide_eq_true (by omega)
 have pk:(0:Int)≤(k:Int)∧(k:Int) < ((64:Nat):Int):=by omega
 have hj:∀ j < 8,(0:Int)≤((j:Nat):Int)∧((j:Nat):Int) < ((8:Nat):Int):=fun j hj=>by omega
 have j0:(0:Int)≤(0:Int)∧(0:Int) < ((8:Nat):Int):=hj 0 (by omega)
 have j1:(0:Int)≤(1:Int)∧(1:Int) < ((8:Nat):Int):=hj 1 (by omega)
 have j2:(0:Int)≤(2:Int)∧(2:Int) < ((8:Nat):Int):=hj 2 (by omega)
 have j4:(0:Int)≤(4:Int)∧(4:Int) < ((8:Nat):Int):=hj 4 (by omega)
 have j5:(0:Int)≤(5:Int)∧(5:Int) < ((8:Nat):Int):=hj 5 (by omega)
 have j6:(0:Int)≤(6:Int)∧(6:Int) < ((8:Nat):Int):=hj 6 (by omega)
 have j7:(0:Int)≤(7:Int)∧(7:Int) < ((8:Nat):Int):=hj 7 (by omega)
 have n0:0 < 8:=by omega
 have n1:1 < 8:=by omega
 have n2:2 < 8:=by omega
 have n4:4 < 8:=by omega
 have n5:5 < 8:=by omega
 have n6:6 < 8:=by omega
 have n7:7 < 8:=by omega
 have r:=fun x n h h0=>qfg x n h h0
 unfold Zt qx6 tW uW
 rw [qJ,d1,cond_true]
 simp only [run_bind,zA,qS]
 rw [qm j0,qm n0,qm j4,qm n4,qm j7,qm n7]
 show (Option.bind (zX (c32 (wAt x 4)) ((6:Nat):Int)) _)=_
 rw [r _ 6 (by omega) (by omega),Option.bind_some]
 show (Option.bind (zX (c32 (wAt x 4)) ((11:Nat):Int)) _)=_
 rw [r _ 11 (by omega) (by omega),Option.bind_some]
 show (Option.bind (zX (c32 (wAt x 4)) ((25:Nat):Int)) _)=_
 rw [r _ 25 (by omega) (by omega),Option.bind_some,qm j5,qm n5,qm j6,qm n6,qm pk,Int.toNat_natCast,qm hk]
 rw [qm pk,qm hk]
 show (Option.bind (zX (c32 (wAt x 0)) ((2:Nat):Int)) _)=_
 rw [r _ 2 (by omega) (by omega),Option.bind_some]
 show (Option.bind (zX (c32 (wAt x 0)) ((13:Nat):Int)) _)=_
 rw [r _ 13 (by omega) (by omega),Option.bind_some]
 show (Option.bind (zX (c32 (wAt x 0)) ((22:Nat):Int)) _)=_
 rw [r _ 22 (by omega) (by omega),Option.bind_some]
 rw [qm j1,qm n1,qm j2,qm n2,qm j1,qm n1,qm j2,qm n2,qm j0]
 simp only [qB7,qKJ,qKI,qAY,qm (qvc _),Int.toNat_natCast,UInt32.ofNat_toNat,qm n0,qm j4,qm n4,qm c4]
 rw [zB]
theorem qAl {N:Nat} {s:Vector UInt32 8} {K:Vector UInt32 64} {b:List UInt8} (hN:64 < N) (hb:b.length=64):Xf N s K b=some (qvo s K b):=by
 have k1:KG N s K (qo1 b) s 0=some (VB (qx6 K (qo1 b)) 64 0 s,(64:Int),false):=by
  refine (ZS (σ:=Vector UInt32 8) (B:=Zt N s K (qo1 b)) (g:=some) (at_:=fun k s=>(s,(k:Int))) (I:=fun _ _=>True) (f:=qx6 K (qo1 b)) (n:=64)
   (fin:=fun s=>(s,(64:Int),false)) (fun k x hk _=>⟨qKF hk,trivial⟩) (fun x _=>?_) N 0 s trivial (Nat.zero_le _) (by omega))
  unfold Zt
  rfl
 have k2:∀ x:Vector UInt32 8,Yf N K x s 0=some (VB (qCw x) 8 0 s,(8:Int),false):=fun x=>by
  refine (ZS (σ:=Vector UInt32 8) (B:=JB N K x) (g:=some) (at_:=fun k s=>(s,(k:Int))) (I:=fun _ _=>True) (f:=qCw x) (n:=8)
   (fin:=fun s=>(s,(8:Int),false)) (fun k y hk _=>⟨?_,trivial⟩) (fun y _=>?_) N 0 s trivial (Nat.zero_le _) (by omega))
  ·have c4:qz ((k:Int) + 1):=by unfold qz; omega
   have d1:decide ((k:Int) < 8)=true:=decide_eq_true (by omega)
   have pk:(0:Int)≤(k:Int)∧(k:Int) < ((8:Nat):Int):=by omega
   unfold JB qCw
   simp only [qJ,run_bind,zA,qS,d1,cond_true]
   rw [qm pk,Int.toNat_natCast,qm hk,qm pk,qm hk,qm pk]
   simp only [qAY,qm (qvc _),Int.toNat_natCast,UInt32.ofNat_toNat,qm hk,qm c4]
   rw [zB]
  ·unfold JB
   rfl
 unfold Xf qax
 rw [run_bind,qIb hN hb,Option.bind_some,run_bind,k1,Option.bind_some,run_bind,k2,Option.bind_some,qS]
 rfl
end Go.Rx
end
set_option maxRecDepth 100000
noncomputable section
namespace Go.Rx
open Go.Proofs
def qK4:Vector UInt32 8:=#v[1779033703,3144134277,1013904242,2773480762,1359893119,2600822924,528734635,1541459225]
def qK2:Vector UInt32 64:=#v[1116352408,1899447441,3049323471,3921009573,961987163,1508970993,2453635748,2870763221,
 3624381080,310598401,607225278,1426881987,1925078388,2162078206,2614888103,3248222580,
 3835390401,4022224774,264347078,604807628,770255983,1249150122,1555081692,1996064986,
 2554220882,2821834349,2952996808,3210313671,3336571891,3584528711,113926993,338241895,
 666307205,773529912,1294757372,1396182291,1695183700,1986661051,2177026350,2456956037,
 2730485921,2820302411,3259730800,3345764771,3516065817,3600352804,4094571909,275423344,
 430227734,506948616,659060556,883997877,958139571,1322822218,1537002063,1747873779,
 1955562222,2024104815,2227730452,2361852424,2428436474,2756734187,3204031479,3329325298]
def WM (L:Nat):Nat:=(119 - L % 64) % 64
theorem qv8 (n:Int):inB (IntKind.u8.wrap n):=by
 unfold inB
 have:IntKind.u8.wrap n=n % 256:=by simp [IntKind.wrap,IntKind.bits,IntKind.signed]
 rw [this]; omega
theorem qHF (a b:Nat):((a:Nat):Int).tmod ((b:Nat):Int)=((a % b:Nat):Int):=rfl
theorem qIk (a b:Nat):((a:Nat):Int).tdiv ((b:Nat):Int)=((a / b:Nat):Int):=rfl
theorem qAR {n k:Nat} (h:k≤2000000000):VN n n k 1:=⟨rfl,by unfold zi; omega⟩
theorem qKi {N:Nat} {o:Vector UInt8 32} {b:List UInt8} (hb:b.length≤1000000000) (hN:64 < N):qec N o b (b++[128])=some (b++[128]++List.replicate (WM b.length) 0,false):=by
 have hz:WM b.length < 64:=Nat.mod_lt _ (by omega)
 have h56:(b.length + 1 + WM b.length) % 64=56:=by unfold WM; omega
 have hlen:∀ k,(b++[128]++List.replicate k (0:UInt8)).length=b.length + 1 + k:=fun k=>by simp; omega
 have hne:∀ k,k < WM b.length→(b.length + 1 + k) % 64≠56:=fun k hk=>by unfold WM at *; omega
 have e0:qec N o b (b++[128])=q_ (YD N o b) some N (b++[128]++List.replicate 0 (0:UInt8)):=by rw [List.replicate_zero,List.append_nil]; rfl
 rw [e0]
 refine (ZS (σ:=Unit) (B:=YD N o b) (g:=some) (at_:=fun k _=>b++[128]++List.replicate k (0:UInt8)) (I:=fun _ _=>True) (f:=fun _ s=>s) (n:=WM b.length)
  (fin:=fun _=>(b++[128]++List.replicate (WM b.length) 0,false)) (fun k s hk _=>⟨?_,trivial⟩) (fun s _=>?_) N 0 () trivial (Nat.zero_le _) (by omega))
 ·unfold YD
  have c1:(64:Int)≠0:=by omega
  have e:decide ((((b++[128]++List.replicate k (0:UInt8)).length:Nat):Int).tmod 64=56)=false:=decide_eq_false (by
   rw [hlen]
   have:=hne k hk
   show ¬ (((b.length + 1 + k) % 64:Nat):Int)=56
   omega)
  have c2:VN (b++[128]++List.replicate k (0:UInt8)).length (b++[128]++List.replicate k (0:UInt8)).length ((b++[128]++List.replicate k (0:UInt8))++[UInt8.ofNat 0]).length 1:=qAR (by rw [List.length_append,hlen]; simp; omega)
  rw [zA,qm c1,qJ,e,Bool.not_false,cond_true,zA,qm c2,qS]
  rw [List.replicate_succ',← List.append_assoc]
  rfl
 ·unfold YD
  have c1:(64:Int)≠0:=by omega
  have e:decide ((((b++[128]++List.replicate (WM b.length) (0:UInt8)).length:Nat):Int).tmod 64=56)=true:=decide_eq_true (by
   rw [hlen]
   show (((b.length + 1 + WM b.length) % 64:Nat):Int)=56
   omega)
  rw [zA,qm c1,qJ,e,Bool.not_true,cond_false,qS]
def qHz (L k:Nat):UInt8:=UInt8.ofNat (IntKind.u8.wrap (ZT (qKk .u64 (IntKind.u64.wrap ((L:Nat):Int)) 8) (min ((8:Int) * ((7:Int) - (k:Int))).toNat 64))).toNat
def qjk (L k:Nat) (l:List UInt8):List UInt8:=l++[qHz L k]
theorem qv5 {L:Nat}:∀ (m k:Nat) (l:List UInt8),(VB (qjk L) m k l).length=l.length + m
 | 0,_,_=>rfl
 | m + 1,k,l=>by
  show (VB (qjk L) m (k + 1) (qjk L k l)).length=_
  rw [qv5 m]; unfold qjk; rw [List.length_append]; simp; omega
theorem qI5 {N:Nat} {o:Vector UInt8 32} {b l:List UInt8} (hl:l.length≤1500000000) (hN:64 < N):qiS N o b l 0=some (VB (qjk b.length) 8 0 l,(8:Int),false):=by
 refine (ZS (σ:=List UInt8) (B:=qbe N o b) (g:=some) (at_:=fun k s=>(s,(k:Int))) (I:=fun k s=>s.length=l.length + k) (f:=qjk b.length) (n:=8)
  (fin:=fun s=>(s,(8:Int),false)) (fun k s hk hs=>⟨?_,?_⟩) (fun s _=>?_) N 0 l rfl (Nat.zero_le _) (by omega))
 ·have d1:decide ((k:Int) < 8)=true:=decide_eq_true (by omega)
  have c1:qz ((7:Int) - (k:Int)):=by unfold qz; omega
  have c2:qz ((8:Int) * ((7:Int) - (k:Int))):=by unfold qz; omega
  have c3:(0:Int)≤(8:Int) * ((7:Int) - (k:Int)):=by omega
  have c4:qz ((k:Int) + 1):=by unfold qz; omega
  have c5:VN s.length s.length (s++[qHz b.length k]).length 1:=qAR (by rw [List.length_append,hs]; simp; omega)
  unfold qbe
  rw [qJ,d1,cond_true]
  simp only [zA,qS]
  rw [qm c1,qm c2,qm c3,qm (qv8 _)]
  show chk (VN s.length s.length (s++[qHz b.length k]).length 1) _=_
  rw [qm c5,qm c4,zB]
  rfl
 ·unfold qjk; rw [List.length_append,hs]; simp; omega
 ·unfold qbe
  rfl
def chF (K:Vector UInt32 64):Nat→Vector UInt32 8→List UInt8→Vector UInt32 8
 | 0,s,_=>s
 | m + 1,s,l=>chF K m (qvo s K (l.take 64)) (l.drop 64)
theorem qIw {N : Nat} {o : List UInt8} {o2 : Vector UInt8 32} {o3 : Vector UInt32 8} {K : Vector UInt32 64} (hN : 64 < N) : ∀ (m n : Nat) (s : Vector UInt32 8) (l : List UInt8), l.length = 64 * m → m < n →
    q_ (XU N o o2 o3 K) some n (s,l)=some (.inr (chF K m s l,[],false))
 | 0,n + 1,s,l,hl,_=>by
  have:l=[]:=List.length_eq_zero_iff.1 (by omega)
  subst this
  exact zM (by unfold XU; rfl) n
 | m + 1,n + 1,s,l,hl,hn=>by
  have d1:decide ((0:Int) < ((l.length:Nat):Int))=true:=decide_eq_true (by omega)
  have c1:(0:Int)≤0∧(0:Int)≤64∧(64:Int)≤((l.length:Nat):Int):=by omega
  have c2:(0:Int)≤64∧(64:Int)≤((l.length:Nat):Int):=by omega
  have ht:((l.take 64).drop 0).length=64:=by rw [List.drop_zero,List.length_take]; omega
  rw [JI (v':=(qvo s K (l.take 64),l.drop 64)) (by
   unfold XU
   rw [qJ,d1,cond_true,zA,qm c1,run_bind,qAl hN ht,Option.bind_some,zA,qm c2,qS,List.drop_zero]) n]
  exact qIw hN m n _ _ (by rw [List.length_drop]; omega) (by omega)
 | _,0,_,_,_,hn=>by omega
theorem qE6 {N m : Nat} {all : List UInt8} {o2 : Vector UInt8 32} {s : Vector UInt32 8} {K : Vector UInt32 64} (hN : 64 < N) (hm : m + 1 < N) (hl : all.length = 64 * (m + 1)) :
    KT N all o2 s K=some (.inr (chF K (m + 1) s all,[],false)):=by
 have d1:decide ((0:Int) < ((all.length:Nat):Int))=true:=decide_eq_true (by omega)
 have c1:(0:Int)≤0∧(0:Int)≤64∧(64:Int)≤((all.length:Nat):Int):=by omega
 have c2:(0:Int)≤64∧(64:Int)≤((all.length:Nat):Int):=by omega
 have ht:((all.take 64).drop 0).length=64:=by rw [List.drop_zero,List.length_take]; omega
 have hrun:(qap N all o2 s K ()).run some=some (.inr (.inl (qvo s K (all.take 64),all.drop 64))):=by
  unfold qap
  rw [qJ,d1,cond_true,zA,qm c1,zA,qm rfl,run_bind,qAl hN ht,Option.bind_some,zA,qm c2,zA,qm rfl,qS,List.drop_zero]
 obtain ⟨N',rfl⟩:∃ N',N=N' + 1:=⟨N - 1,by omega⟩
 have e:KT (N' + 1) all o2 s K=q_ (qap (N' + 1) all o2 s K) (qdw (N' + 1) (N' + 1) (all,o2,s,K)) (N' + 1) ():=rfl
 rw [e,zM hrun]
 exact qIw (o:=all) (o2:=o2) (o3:=s) hN m (N' + 1) _ _ (by rw [List.length_drop]; omega) (by omega)
def qKE (s:Vector UInt32 8) (k:Nat):UInt8:=UInt8.ofNat (IntKind.u8.wrap (c32 (wAt s (k / 4) >>> UInt32.ofNat (24 - 8 * (k % 4))))).toNat
def qH8 (s:Vector UInt32 8) (k:Nat) (o:Vector UInt8 32):Vector UInt8 32:=o.setIfInBounds k (qKE s k)
def qJQ (s:Vector UInt32 8):Vector UInt8 32:=VB (qH8 s) 32 0 (Vector.replicate 32 0)
theorem qKt {N:Nat} {o:Vector UInt8 32} {s:Vector UInt32 8} (hN:64 < N):qcM N o s (Vector.replicate 32 0) 0=some (qJQ s,(32:Int),false):=by
 refine (ZS (σ:=Vector UInt8 32) (B:=qaf N o s) (g:=some) (at_:=fun k s=>(s,(k:Int))) (I:=fun _ _=>True) (f:=qH8 s) (n:=32)
  (fin:=fun s=>(s,(32:Int),false)) (fun k x hk _=>⟨?_,trivial⟩) (fun x _=>?_) N 0 (Vector.replicate 32 0) trivial (Nat.zero_le _) (by omega))
 ·have d1:decide ((k:Int) < 32)=true:=decide_eq_true (by omega)
  have e1:(k:Int).tdiv 4=((k / 4:Nat):Int):=qIk k 4
  have e2:(k:Int).tmod 4=((k % 4:Nat):Int):=qHF k 4
  have h4:(4:Int)≠0:=by omega
  have c1:qz (((k / 4:Nat)):Int):=by unfold qz; omega
  have c2:(0:Int)≤((k / 4:Nat):Int)∧((k / 4:Nat):Int) < ((8:Nat):Int):=by omega
  have c3:k / 4 < 8:=by omega
  have c4:qz ((8:Int) * ((k % 4:Nat):Int)):=by unfold qz; omega
  have e3:(24:Int) - (8:Int) * ((k % 4:Nat):Int)=((24 - 8 * (k % 4):Nat):Int):=by omega
  have c5:qz ((24 - 8 * (k % 4):Nat):Int):=by unfold qz; omega
  have c6:(0:Int)≤((24 - 8 * (k % 4):Nat):Int):=by omega
  have c7:(0:Int)≤(k:Int)∧(k:Int) < ((32:Nat):Int):=by omega
  have c8:qz ((k:Int) + 1):=by unfold qz; omega
  unfold qaf qH8 qKE
  rw [qJ,d1,cond_true]
  simp only [zA,qS]
  rw [e1,e2,e3,qm h4,qm c1,qm c2,Int.toNat_natCast,qm c3,qm h4,qm c4,qm c5,qm c6,qm c7,qm (qv8 _),Int.toNat_natCast,qm hk,qm c8,Int.toNat_natCast,Nat.min_eq_left (show 24 - 8 * (k % 4)≤32 by omega)]
  rw [zB]
  show some (Sum.inl (x.setIfInBounds k (UInt8.ofNat (IntKind.u8.wrap (ZT (c32 (wAt s (k / 4))) (24 - 8 * (k % 4)))).toNat),_))=_
  rw [qvs _ _ (by omega)]
 ·unfold qaf
  rfl
def qpe (b:List UInt8):List UInt8:=VB (qjk b.length) 8 0 (b++[128]++List.replicate (WM b.length) 0)
def Zh (b:List UInt8):Vector UInt8 32:=qJQ (chF qK2 ((qpe b).length / 64) qK4 (qpe b))
theorem qJI (b:List UInt8):∃ m,(qpe b).length=64 * (m + 1)∧m≤b.length:=by
 have h:(qpe b).length=b.length + 1 + WM b.length + 8:=by unfold qpe; rw [qv5]; simp; omega
 rw [h]
 refine ⟨(b.length + 1 + WM b.length + 8) / 64 - 1,?_,?_⟩
 ·unfold WM; omega
 ·unfold WM; omega
theorem qHY {l:List UInt8} (h:l.length≤1000000000):Xe l=some ():=by
 unfold Xe
 cases l with
 | nil=>kernel_rfl
 | cons x r=>
  show qhd (x::r)=_
  unfold qhd qdI
  have h2:VN ([]:List UInt8).length 0 ([]++x::r).length 1:=⟨rfl,by rw [List.nil_append]; unfold zi; omega⟩
  rw [zA,qm (List.isEmpty_cons),zA,qm h2,qS]
theorem qmX {Z:Type} {a:Nat} {o:Option Z}:vg [(a,a)] o=o:=(jK rfl).trans (qC6 o)
theorem qHW:ql1=some ():=by kernel_rfl
theorem qGK:qlu=some ():=by kernel_rfl
theorem qJ4 {N:Nat} {b:List UInt8} (hb:b.length≤1000000000) (hN:b.length + 100 < N):qex N b=some (Zh b):=by
 obtain ⟨m,hm,hmb⟩:=qJI b
 have c1:VN (([]:List UInt8)++b).length (([]:List UInt8)++b).length ((([]:List UInt8)++b)++[UInt8.ofNat 128]).length 1:=qAR (by rw [List.nil_append,List.length_append]; simp; omega)
 have hpad:=qKi (N:=N) (o:=Vector.replicate 32 0) hb (by omega)
 have hlen:=qI5 (N:=N) (o:=Vector.replicate 32 0) (b:=b) (l:=b++[128]++List.replicate (WM b.length) 0) (by have:WM b.length < 64:=Nat.mod_lt _ (by omega); simp; omega) (by omega)
 have hch:∀ (s:Vector UInt32 8) (K:Vector UInt32 64),KT N (VB (qjk b.length) 8 0 (b++[128]++List.replicate (WM b.length) 0)) (Vector.replicate 32 0) s K=some (.inr (chF K (m + 1) s (qpe b),[],false)):=fun s K=>qE6 (by omega) (by omega) hm
 have hd:(qpe b).length / 64=m + 1:=by rw [hm]; omega
 have e1:(([]:List UInt8)++b)++[UInt8.ofNat 128]=b++[128]:=rfl
 unfold qex qmd Zh
 rw [run_bind,qHY hb,Option.bind_some,zA,qm c1,run_bind,e1,qmX,hpad,Option.bind_some]
 dsimp only
 rw [run_bind,qmX,hlen,Option.bind_some]
 dsimp only
 rw [run_bind,qHW,Option.bind_some,run_bind,qGK,Option.bind_some,run_bind,qmX,hch,Option.bind_some,qHe,run_bind,qKt (by omega),Option.bind_some,qS,hd]
 rfl
end Go.Rx
end
set_option maxRecDepth 100000
noncomputable section
namespace Go.Rx
open Go.Proofs
section n
variable {N:Nat} [Q0 N]
def qaj (c:qd):Bool:=!decide (c.S=zSt)&&(stB c.S&&decide (c.V.length≤200))
theorem qI9 (c:qd):qaH c=some (qaj c):=by
 unfold qaH qjs qaj
 have e:eqE qn c.S (qf.mk 0 0)=decide (c.S=zSt):=qkV _ _
 have e2:decide (((c.V.length:Nat):Int)≤200)=decide (c.V.length≤200):=decide_eq_decide.2 (by omega)
 rw [qJ,e,run_bind,qjo,Option.bind_some,qJ,qS,e2,qS]
 cases decide (c.S=zSt)<;>cases stB c.S<;>rfl
end n
end Go.Rx
end
set_option maxRecDepth 100000
noncomputable section
namespace Go.Rx
open Go.Proofs
abbrev zF:qc:=qc.mk 0 (qd.mk zSt [])
abbrev zR:qa:=qa.mk (Vector.replicate 16 0) zSt []
def qmT (l:List qc) (dead:qf) (k:Nat):Bool:=
 (if k=0 then decide (0≤(l.getD k zF).No) else decide ((l.getD (k - 1) zF).No < (l.getD k zF).No))&&(!decide (8≤(l.getD k zF).No)&&(qaj (l.getD k zF).C&&slB dead (l.getD k zF).C.S))
def je (r:qa):Bool:=stB r.qX&&(!(decide (r.F.length=0)&&decide (r.qX=zSt))&&Qw (qmT r.F r.qX) r.F.length)
def qw5 (l:List qa) (k:Nat):Bool:=je (l.getD k zR)&&(decide (k=0)||lbB (l.getD (k - 1) zR).ID (l.getD k zR).ID)
def zy (b:qb):Bool:=Qw (qw5 b.R) b.R.length&&decide (b.R.length≤10)
section n
variable {N:Nat} [Q0 N]
theorem qIi {f : qc} {dead : qf} {k : Nat} (h64 : qz ((k : Int) + 1)) :
    (Tree.cond (decide (((8:Int))≤(qc.No f))) (.ret (.inr (.inl ())))
     (Tree.bind (qaH (qc.C f)) fun r2=>Tree.cond (!r2) (.ret (.inr (.inl ())))
      (Tree.bind (QY N dead (qd.S (qc.C f))) fun r3=>Tree.cond (!r3) (.ret (.inr (.inl ())))
       (Tree.chk (qz ((k:Int) + 1)) (.ret (.inl ((k:Int) + 1):Int⊕(Unit⊕(Int×Bool)))))))).run some =
    some (if (!decide (8≤f.No)&&(qaj f.C&&slB dead f.C.S))=true then .inl ((k:Int) + 1) else .inr (.inl ())):=by
 rw [qJ,qS,run_bind,qI9,Option.bind_some,qJ,qS,run_bind,qcX,Option.bind_some,qJ,qS,zA,qm h64,qS]
 cases decide (8≤f.No)<;>cases qaj f.C<;>cases slB dead f.C.S<;>rfl
theorem qJG {r : qa} (hN : r.F.length < N) (h62 : r.F.length ≤ 4611686018427387904) :
    qei N r r.F ((r.F.length:Nat):Int) 0=some (if Qw (qmT r.F r.qX) r.F.length then .inr (((r.F.length:Nat):Int),false) else .inl ()):=by
 refine XH (B:=qbl N r r.F ((r.F.length:Nat):Int)) (g:=some) (q:=qmT r.F r.qX) (fun k hk=>?_) ?_ hN
 ·have h64:qz ((k:Int) + 1):=by unfold qz; omega
  have ht:=qIi (N:=N) (f:=r.F.getD k zF) (dead:=r.qX) h64
  unfold qbl
  rw [qJ,dec_lt hk,cond_true,run_bind,jV (d:=zF) hk,Option.bind_some,← zB]
  unfold qmT
  by_cases h0:k=0
  ·have d0:decide ((k:Int)=0)=true:=decide_eq_true (by omega)
   rw [qJ,d0,cond_true,if_pos h0,qJ]
   by_cases h1:(0:Int)≤(r.F.getD k zF).No
   ·rw [decide_eq_true h1,cond_true,ht,Bool.true_and]
   ·have d1:decide ((0:Int) < (k:Int))=false:=decide_eq_false (by omega)
    rw [decide_eq_false h1,cond_false,qJ,d1,cond_false,qS]
    rfl
  ·have d0:decide ((k:Int)=0)=false:=decide_eq_false (by omega)
   have d1:decide ((0:Int) < (k:Int))=true:=decide_eq_true (by omega)
   have hp:qz ((k:Int) - 1):=by unfold qz; omega
   have hk1:k - 1 < r.F.length:=by omega
   rw [qJ,d0,cond_false,if_neg h0,qJ,d1,cond_true,zA,qm hp,run_bind,qx9 (Nat.pos_of_ne_zero h0),jV (d:=zF) hk1,Option.bind_some,qJ]
   by_cases h2:(r.F.getD (k - 1) zF).No < (r.F.getD k zF).No
   ·rw [decide_eq_true h2,Bool.not_true,cond_false,ht,Bool.true_and]
   ·rw [decide_eq_false h2,Bool.not_false,cond_true,qS]
    rfl
 ·unfold qbl
  rw [qJ,jt (Nat.lt_irrefl _),cond_false,qS]
theorem qno {r:qa} (hN:r.F.length < N) (h62:r.F.length≤4611686018427387904):qcv N r=some (je r):=by
 have e0:eqE qn r.qX (qf.mk 0 0)=decide (r.qX=zSt):=qkV _ _
 have d0:decide (((r.F.length:Nat):Int)=0)=decide (r.F.length=0):=decide_eq_decide.2 (by omega)
 unfold qcv qmA je
 rw [run_bind,qjo,Option.bind_some,qJ,qS,qJ,d0,qJ,e0,qS,run_bind,qJG hN h62,Option.bind_some]
 cases stB r.qX<;>cases decide (r.F.length=0)<;>cases decide (r.qX=zSt)<;>cases Qw (qmT r.F r.qX) r.F.length<;>rfl
theorem qJa {b : qb} (hN : b.R.length < N) (h62 : b.R.length ≤ 4611686018427387904) (hF : ∀ k, k < b.R.length → (b.R.getD k zR).F.length < N ∧ (b.R.getD k zR).F.length ≤ 4611686018427387904) :
    qhq N b b.R ((b.R.length:Nat):Int) 0=some (if Qw (qw5 b.R) b.R.length then .inr (((b.R.length:Nat):Int),false) else .inl ()):=by
 refine XH (B:=qah N b b.R ((b.R.length:Nat):Int)) (g:=some) (q:=qw5 b.R) (fun k hk=>?_) ?_ hN
 ·have h64:qz ((k:Int) + 1):=by unfold qz; omega
  unfold qah
  rw [qJ,dec_lt hk,cond_true,run_bind,jV (d:=zR) hk,Option.bind_some,run_bind,qno (hF k hk).1 (hF k hk).2,Option.bind_some,qJ,qS,qJ,qJM,zA,zA,qm h64,qS,zB]
  unfold qw5
  cases je (b.R.getD k zR) with
  | false=>rfl
  | true=>
   by_cases h0:k=0
   ·rw [decide_eq_true h0]; rfl
   ·have hp:qz ((k:Int) - 1):=by unfold qz; omega
    have hk1:k - 1 < b.R.length:=by omega
    rw [decide_eq_false h0,Bool.not_true,cond_false,Bool.not_false,cond_true,qm hp,run_bind,qx9 (Nat.pos_of_ne_zero h0),jV (d:=zR) hk1,Option.bind_some,run_bind,qGq,Option.bind_some,qJ,qS,zA,qm (show qz ((k + 1:Nat):Int) by rw [← zB]; exact h64),qS]
    cases lbB (b.R.getD (k - 1) zR).ID (b.R.getD k zR).ID<;>rfl
 ·unfold qah
  rw [qJ,jt (Nat.lt_irrefl _),cond_false,qS]
theorem qJn {b:qb} (hN:b.R.length < N) (h62:b.R.length≤4611686018427387904) (hF:∀ k,k < b.R.length→(b.R.getD k zR).F.length < N∧(b.R.getD k zR).F.length≤4611686018427387904):JZ N b=some (zy b):=by
 have e2:decide (((b.R.length:Nat):Int)≤10)=decide (b.R.length≤10):=decide_eq_decide.2 (by omega)
 unfold JZ qjh zy
 rw [run_bind,qJa hN h62 hF,Option.bind_some]
 cases Qw (qw5 b.R) b.R.length with
 | false=>rfl
 | true=>show (Tree.run some (Tree.ret (decide (((b.R.length:Nat):Int)≤10))))=_; rw [qS,e2]; rfl
end n
theorem Wd {r:qa}:je r=true↔stB r.qX=true∧(r.F.length≠0∨r.qX≠zSt)∧∀ k,k < r.F.length→qmT r.F r.qX k=true:=by
 unfold je
 rw [Bool.and_eq_true,Bool.and_eq_true,J0,Bool.not_eq_true',Bool.and_eq_false_iff,decide_eq_false_iff_not,decide_eq_false_iff_not]
theorem VG {l:List qc} {dead:qf} {k:Nat}:qmT l dead k=true↔(if k=0 then 0≤(l.getD k zF).No else (l.getD (k - 1) zF).No < (l.getD k zF).No)∧(l.getD k zF).No < 8∧qaj (l.getD k zF).C=true∧slB dead (l.getD k zF).C.S=true:=by
 unfold qmT
 rw [Bool.and_eq_true,Bool.and_eq_true,Bool.and_eq_true,Bool.not_eq_true',decide_eq_false_iff_not,Int.not_le]
 refine and_congr ?_ Iff.rfl
 split<;>exact decide_eq_true_iff
theorem qxl {r:qa} (h:je r=true):∀ k,k < r.F.length→(k:Int)≤(r.F.getD k zF).No
 | 0,hk=>by
  have:=(VG.1 ((Wd.1 h).2.2 0 hk)).1
  rw [if_pos rfl] at this; exact this
 | k + 1,hk=>by
  have:=(VG.1 ((Wd.1 h).2.2 (k + 1) hk)).1
  rw [if_neg (by omega)] at this
  have ih:=qxl h k (by omega)
  rw [show k + 1 - 1=k by omega] at this
  omega
theorem qct {r:qa} (h:je r=true):r.F.length≤8:=by
 by_cases e:r.F.length=0
 ·omega
 ·have h1:=qxl h (r.F.length - 1) (by omega)
  have h2:=(VG.1 ((Wd.1 h).2.2 (r.F.length - 1) (by omega))).2.1
  omega
theorem qcT {b:qb}:zy b=true↔(∀ k,k < b.R.length→je (b.R.getD k zR)=true∧(k=0∨lbB (b.R.getD (k - 1) zR).ID (b.R.getD k zR).ID=true))∧b.R.length≤10:=by
 unfold zy
 rw [Bool.and_eq_true,decide_eq_true_iff,J0]
 refine and_congr (forall_congr' fun k=>imp_congr_right fun _=>?_) Iff.rfl
 show (je (b.R.getD k zR)&&(decide (k=0)||lbB (b.R.getD (k - 1) zR).ID (b.R.getD k zR).ID))=true↔_
 rw [Bool.and_eq_true,Bool.or_eq_true,decide_eq_true_iff]
theorem qwS {c:qd} (h:qaj c=true):c.V.length≤200:=by
 unfold qaj at h
 simp only [Bool.and_eq_true,decide_eq_true_iff] at h
 exact h.2.2
end Go.Rx
end
set_option maxRecDepth 100000
noncomputable section
namespace Go.Rx
open Go.Proofs
section n
variable {N:Nat} [Q0 N]
def jN (N:Nat) (b:qb):Prop:=b.R.length < N∧b.R.length≤4611686018427387904∧∀ k,k < b.R.length→(b.R.getD k zR).F.length < N∧(b.R.getD k zR).F.length≤4611686018427387904
theorem qcE {b:qb} (h:jN N b):JZ N b=some (zy b):=qJn h.1 h.2.1 h.2.2
theorem qo8 {l:List UInt8} (h:l.length≤50000):qhZ N l=some (Zh l):=by
 unfold qhZ qpD
 rw [zA,qm (show qnl l.length by unfold qnl; omega),run_bind,qJ4 (by omega) (by have:=big N; omega),Option.bind_some,qS]
end n
end Go.Rx
end
set_option maxRecDepth 100000
noncomputable section
namespace Go.Rx
open Go.Proofs
open Go.Lib (compareBytes)
theorem qAs:∀ l:List UInt8,compareBytes l l=0
 | []=>rfl
 | x::l=>by
  unfold compareBytes
  rw [if_neg (UInt8.lt_irrefl x),if_neg (UInt8.lt_irrefl x)]
  exact qAs l
theorem qxP:∀ a b c:List UInt8,compareBytes a b < 0→compareBytes b c < 0→compareBytes a c < 0
 | [],[],_,h,_=>by simp [compareBytes] at h
 | [],_::_,[],_,h=>by simp [compareBytes] at h
 | [],_::_,_::_,_,_=>by simp [compareBytes]
 | _::_,[],_,h,_=>by simp [compareBytes] at h
 | _::_,_::_,[],_,h=>by simp [compareBytes] at h
 | x::a,y::b,z::c,h1,h2=>by
  unfold compareBytes at h1 h2 ⊢
  simp only [UInt8.lt_iff_toNat_lt] at h1 h2 ⊢
  by_cases hxy:x.toNat < y.toNat
  ·by_cases hyz:y.toNat < z.toNat
   ·rw [if_pos (by omega)]; decide
   ·rw [if_neg hyz] at h2
    by_cases hzy:z.toNat < y.toNat
    ·rw [if_pos hzy] at h2; simp at h2
    ·rw [if_pos (by omega)]; decide
  ·rw [if_neg hxy] at h1
   by_cases hyx:y.toNat < x.toNat
   ·rw [if_pos hyx] at h1; simp at h1
   ·rw [if_neg hyx] at h1
    by_cases hyz:y.toNat < z.toNat
    ·rw [if_pos (by omega)]; decide
    ·rw [if_neg hyz] at h2
     by_cases hzy:z.toNat < y.toNat
     ·rw [if_pos hzy] at h2; simp at h2
     ·rw [if_neg hzy] at h2
      rw [if_neg (by omega),if_neg (by omega)]
      exact qxP a b c h1 h2
theorem qEh:∀ a b:List UInt8,(compareBytes a b < 0∧compareBytes b a > 0)∨a=b∨(compareBytes b a < 0∧compareBytes a b > 0)
 | [],[]=>.inr (.inl rfl)
 | [],_::_=>.inl ⟨by simp [compareBytes],by simp [compareBytes]⟩
 | _::_,[]=>.inr (.inr ⟨by simp [compareBytes],by simp [compareBytes]⟩)
 | x::a,y::b=>by
  unfold compareBytes
  by_cases h:x < y
  ·have h':¬ y < x:=fun h'=>by rw [UInt8.lt_iff_toNat_lt] at h h'; omega
   rw [if_pos h,if_neg h',if_pos h]
   exact .inl ⟨by omega,by omega⟩
  ·by_cases h':y < x
   ·rw [if_neg h,if_pos h',if_pos h']
    exact .inr (.inr ⟨by omega,by omega⟩)
   ·rw [if_neg h,if_neg h',if_neg h',if_neg h]
    have e:x=y:=by
     apply UInt8.toNat_inj.1
     rw [UInt8.lt_iff_toNat_lt] at h h'; omega
    subst e
    rcases qEh a b with h1 | h1 | h1
    ·exact .inl h1
    ·exact .inr (.inl (by rw [h1]))
    ·exact .inr (.inr h1)
theorem qGF {n:Nat} (h:n < 18446744073709551616):IntKind.u64.wrap ((n:Nat):Int)=((n:Nat):Int):=by
 have:IntKind.u64.wrap (n:Int)=(n:Int) % 18446744073709551616:=by simp [IntKind.wrap,IntKind.bits,IntKind.signed]
 rw [this]; omega
def ltB (a b:List UInt8):Bool:=decide (compareBytes a b < 0)
theorem Xz (a:List UInt8):ltB a a=false:=by unfold ltB; rw [qAs]; rfl
theorem qlY {a b c:List UInt8} (h1:ltB a b=true) (h2:ltB b c=true):ltB a c=true:=decide_eq_true (qxP a b c (of_decide_eq_true h1) (of_decide_eq_true h2))
theorem qes (a b:List UInt8):(ltB a b=true∧ltB b a=false)∨a=b∨(ltB b a=true∧ltB a b=false):=by
 rcases qEh a b with h | h | h
 ·exact .inl ⟨decide_eq_true h.1,decide_eq_false (by omega)⟩
 ·exact .inr (.inl h)
 ·exact .inr (.inr ⟨decide_eq_true h.1,decide_eq_false (by omega)⟩)
theorem qp6:∀ a b:List UInt8,Op.bytesLess a b=ltB a b
 | [],[]=>rfl
 | [],_::_=>rfl
 | _::_,[]=>rfl
 | x::a,y::b=>by
  have ih:=qp6 a b
  unfold Op.bytesLess
  rw [ih]
  unfold ltB
  rw [show compareBytes (x::a) (y::b)=if x < y then -1 else if y < x then 1 else compareBytes a b from rfl]
  by_cases h:x < y
  ·rw [if_pos h,decide_eq_true h]; rfl
  ·rw [if_neg h,decide_eq_false h,Bool.false_or]
   by_cases h':y < x
   ·rw [if_pos h']
    have:(x == y)=false:=by
     rw [beq_eq_false_iff_ne]
     intro e; subst e; exact h h'
    rw [this]; rfl
   ·have e : x = y := by
       apply UInt8.toNat_inj.1
       rw [UInt8.lt_iff_toNat_lt] at h h'; omega
    subst e
    rw [if_neg h]
    simp
theorem qm3 (a b:Vector UInt8 16):lbB a b=ltB a.toList b.toList:=by
 unfold lbB
 by_cases h:a=b
 ·subst h; rw [decide_eq_true rfl,Xz]; rfl
 ·rw [decide_eq_false h]; rfl
def ltD (a b:Vector UInt8 32):Bool:=ltB a.toList b.toList
theorem eqD (a b:Vector UInt8 32):eqE (.ba 32) a b=decide (a=b):=Bool.eq_iff_iff.2 ((Qj (.ba 32) a b).trans (decide_eq_true_iff (p:=(a:Vector UInt8 32)=b)).symm)
def j9 (a b:qd):Bool:=if a.S=b.S then (if Zh a.V=Zh b.V then ltB a.V b.V else ltD (Zh a.V) (Zh b.V)) else slB a.S b.S
def cJ (a b:qd):qd:=if j9 a b=true then b else a
def mxS (a b:qf):qf:=if slB a b=true then b else a
theorem Y4 (a b:qf):(slB a b=true∧slB b a=false)∨a=b∨(slB b a=true∧slB a b=false):=by
 obtain ⟨a1,a2⟩:=a
 obtain ⟨b1,b2⟩:=b
 unfold slB
 simp only [decide_eq_true_iff,decide_eq_false_iff_not,Prod.mk.injEq]
 omega
theorem Zy (a:qf):slB a a=false:=by
 unfold slB
 exact decide_eq_false (by omega)
theorem qa0 {a b c:qf} (h1:slB a b=true) (h2:slB b c=true):slB a c=true:=by
 unfold slB at *
 rw [decide_eq_true_iff] at *
 omega
end Go.Rx
end
