/- A part of the proof of OpDoes: the law returns true for every input, and its arguments read as before. No condition. -/
import Derived.Test.YtigkkdoljkhcfaaGreatProg
import Derived.Below
import Derived.Shelf.Strings.BuilderK
import Derived.WalkKit
import Derived.BigCall
import Derived.Test.YtigkkdoljkhcfaaGreatComE
set_option linter.unusedSimpArgs false
set_option linter.unusedVariables false
set_option linter.unusedSectionVars false
noncomputable section
namespace Go.Rx
theorem qa9 {α R:Type} (n:α→Option R):∀ t:Tree α,t.run n=(t.run some).bind n
 | .ret a=>rfl
 | .no=>rfl
 | .cond b s t=>by
  simp only [Tree.run]
  cases b
  ·exact qa9 n t
  ·exact qa9 n s
 | @Tree.chk _ p d t=>by
  simp only [Tree.run,chk]
  split
  ·exact qa9 n t
  ·rfl
 | .bind o k=>by
  simp only [Tree.run]
  cases o with
  | none=>rfl
  | some x=>exact qa9 n (k x)
 | .opt o s k=>by
  simp only [Tree.run]
  cases o with
  | none=>exact qa9 n s
  | some x=>exact qa9 n (k x)
 | .sum x f g=>by
  cases x with
  | inl a=>exact qa9 n (f a)
  | inr b=>exact qa9 n (g b)
section r
variable {α R:Type} {n:α→Option R}
theorem qS {a:α}:(Tree.ret a).run n=n a:=rfl
theorem qG {b:Bool} {s t:Tree α}:(Tree.cond b s t).run n=bif b then s.run n else t.run n:=rfl
theorem qM {p:Prop} [Decidable p] {t:Tree α}:(Tree.chk p t).run n=chk p (t.run n):=rfl
theorem run_bind {β:Type} {o:Option β} {k:β→Tree α}:(Tree.bind o k).run n=o.bind fun x=>(k x).run n:=rfl
theorem qS_ {β γ:Type} {x:γ} {f:β→Tree α} {g:γ→Tree α}:(Tree.sum (.inr x) f g).run n=(g x).run n:=rfl
end r
theorem vM {V W Y:Type} {B:V→Tree (V⊕W)} {g:W→Option Y} {v v':V} (h:(B v).run some=some (.inl v')) (N:Nat):qQ B g (N + 1) v=qQ B g N v':=by
 simp only [qQ]
 rw [qa9,h]; rfl
theorem zh {V W Y:Type} {B:V→Tree (V⊕W)} {g:W→Option Y} {v:V} {x:W} (h:(B v).run some=some (.inr x)) (N:Nat):qQ B g (N + 1) v=g x:=by
 simp only [qQ]
 rw [qa9,h]; rfl
theorem qly {V W Y : Type} {B : V → Tree (V ⊕ W)} {g : W → Option Y} {I : V → Prop} {Q : Y → Prop} (m : V → Nat)
    (h:∀ v,I v→(∃ v',(B v).run some=some (.inl v')∧I v'∧m v' < m v)∨∃ x y,(B v).run some=some (.inr x)∧g x=some y∧Q y) :
    ∀ (N:Nat) (v:V),I v→m v < N→∃ y,qQ B g N v=some y∧Q y
 | 0,v,_,hm=>by omega
 | N + 1,v,hi,hm=>by
  rcases h v hi with ⟨v',h1,h2,h3⟩ | ⟨x,y,h1,h2,h3⟩
  ·rw [vM h1]
   exact qly m h N v' h2 (by omega)
  ·rw [zh h1]
   exact ⟨y,h2,h3⟩
theorem qfY {W Y : Type} {B : Int → Tree (Int ⊕ W)} {g : W → Option Y} {p : Nat → Bool} {n : Nat} {hit : Nat → W} {fin : W}
    (h1:∀ k,k < n→(B (k:Int)).run some=some (if p k then .inr (hit k) else .inl ((k + 1:Nat):Int))) (h2:(B (n:Int)).run some=some (.inr fin)) :
    ∀ (N k:Nat),k≤n→n < N + k→qQ B g N (k:Int)=g (match Jz p (n - k) k with | some j=>hit j | none=>fin)
 | 0,k,hk,hN=>by omega
 | N + 1,k,hk,hN=>by
  by_cases e:k=n
  ·subst e
   rw [zh h2,Nat.sub_self]; rfl
  ·obtain ⟨m,hm⟩:∃ m,n - k=m + 1:=⟨n - k - 1,by omega⟩
   have h3:=h1 k (by omega)
   rw [hm]
   unfold Jz
   cases hp:p k with
   | true=>
    rw [hp,if_pos rfl] at h3
    rw [zh h3,if_pos rfl]
   | false=>
    rw [hp,if_neg (by simp)] at h3
    rw [vM h3,qfY h1 h2 N (k + 1) (by omega) (by omega),if_neg (by simp),show n - (k + 1)=m by omega]
def zZ {σ:Type} (f:Nat→σ→σ):Nat→Nat→σ→σ
 | 0,_,s=>s
 | m + 1,k,s=>zZ f m (k + 1) (f k s)
theorem jW {σ W Y : Type} {V : Type} {B : V → Tree (V ⊕ W)} {g : W → Option Y} {at_ : Nat → σ → V} {I : Nat → σ → Prop} {f : Nat → σ → σ} {n : Nat} {fin : σ → W}
    (h1:∀ k s,k < n→I k s→(B (at_ k s)).run some=some (.inl (at_ (k + 1) (f k s)))∧I (k + 1) (f k s)) (h2:∀ s,I n s→(B (at_ n s)).run some=some (.inr (fin s))) :
    ∀ (N k:Nat) (s:σ),I k s→k≤n→n < N + k→qQ B g N (at_ k s)=g (fin (zZ f (n - k) k s))
 | 0,k,s,_,hk,hN=>by omega
 | N + 1,k,s,hi,hk,hN=>by
  by_cases e:k=n
  ·subst e
   rw [zh (h2 s hi),Nat.sub_self]; rfl
  ·obtain ⟨m,hm⟩:∃ m,n - k=m + 1:=⟨n - k - 1,by omega⟩
   obtain ⟨h3,h4⟩:=h1 k s (by omega) hi
   rw [vM h3,jW h1 h2 N (k + 1) _ h4 (by omega) (by omega),hm,show n - (k + 1)=m by omega]
   rfl
theorem qUM {α:Type} {l:List α} {k:Nat} (h:k < l.length):jM l l.length k=some l[k]:=by
 unfold jM; rw [if_pos rfl,List.getElem?_eq_getElem h]
theorem qVC {α:Type} {l:List α} {k n:Nat} {d:α} (hn:l.length=n) (h:k < l.length):jM l n k=some (l.getD k d):=by
 unfold jM; rw [if_pos hn,List.getElem?_eq_getElem h]; simp [List.getD,List.getElem?_eq_getElem h]
theorem qi {α:Type} {p:Prop} [Decidable p] {x:Option α} (h:p):chk p x=x:=if_pos h
theorem qEk {Z:Type} (o:Option Z):ju [] o=o:=rfl
theorem zU {Z:Type} {a b:Nat} {ps:List (Nat×Nat)} {o:Option Z} (h:a=b):ju ((a,b)::ps) o=ju ps o:=if_pos h
end Go.Rx
end
noncomputable section
namespace Go.Rx
section
variable {α R:Type} {n:α→Option R} {y:Option R}
theorem qp {a:α} (h:n a=y):(Tree.ret a).run n=y:=h
theorem qF {p:Prop} [Decidable p] {t:Tree α} (h:p) (ht:t.run n=y):(Tree.chk p t).run n=y:=(qi h).trans ht
theorem ql {β:Type} {o:Option β} {k:β→Tree α} {x:β} (h:o=some x) (ht:(k x).run n=y):(Tree.bind o k).run n=y:=by subst h; exact ht
theorem w_t {b:Bool} {s t:Tree α} (h:b=true) (hs:s.run n=y):(Tree.cond b s t).run n=y:=by subst h; exact hs
theorem w_f {b:Bool} {s t:Tree α} (h:b=false) (ht:t.run n=y):(Tree.cond b s t).run n=y:=by subst h; exact ht
theorem qHc {β:Type} {o:Option β} {s:Tree α} {k:β→Tree α} (h:o=none) (hs:s.run n=y):(Tree.opt o s k).run n=y:=by subst h; exact hs
theorem qAU {β:Type} {o:Option β} {s:Tree α} {k:β→Tree α} {x:β} (h:o=some x) (hk:(k x).run n=y):(Tree.opt o s k).run n=y:=by subst h; exact hk
theorem w_l {β γ:Type} {z:β⊕γ} {f:β→Tree α} {g:γ→Tree α} {x:β} (h:z=.inl x) (hk:(f x).run n=y):(Tree.sum z f g).run n=y:=by subst h; exact hk
theorem w_r {β γ:Type} {z:β⊕γ} {f:β→Tree α} {g:γ→Tree α} {x:γ} (h:z=.inr x) (hk:(g x).run n=y):(Tree.sum z f g).run n=y:=by subst h; exact hk
theorem jb {b:Bool} {s t:Tree α} {c:Bool} (h:b=c) (hs:c=true→s.run n=y) (ht:c=false→t.run n=y):(Tree.cond b s t).run n=y:=by
 subst h; cases b
 ·exact ht rfl
 ·exact hs rfl
end
theorem zT {k:Nat} (h:k≤4611686018427387904):qj ((k:Int) + 1):=by unfold qj; omega
end Go.Rx
end
noncomputable section
namespace Go.Rx
def qw:Ty:=.ag [.b,.i .i64,.i .i64,.s]
abbrev qb:=Bool×Int×Int×List UInt8
def qb.zV (x:qb):Bool:=x.1
def qb.zm (x:qb):Int:=x.2.1
def qb.Len (x:qb):Int:=x.2.2.1
def qb.Lit (x:qb):List UInt8:=x.2.2.2
def qb.mk (x0:Bool) (x1:Int) (x2:Int) (x3:List UInt8):qb:=(x0,x1,x2,x3)
instance qb.dec:DecidableEq qb:=Wj qw
def qm:Ty:=.ag [.i .i64,.i .i64]
abbrev qe:=Int×Int
def qe.N (x:qe):Int:=x.1
def qe.Rep (x:qe):Int:=x.2
def qe.mk (x0:Int) (x1:Int):qe:=(x0,x1)
instance qe.dec:DecidableEq qe:=Wj qm
def qt:Ty:=.ag [qm,.s]
abbrev qf:=qe×List UInt8
def qf.S (x:qf):qe:=x.1
def qf.V (x:qf):List UInt8:=x.2
def qf.mk (x0:qe) (x1:List UInt8):qf:=(x0,x1)
instance qf.dec:DecidableEq qf:=Wj qt
def qA:Ty:=.ag [.i .i64,qt]
abbrev qg:=Int×qf
def qg.No (x:qg):Int:=x.1
def qg.C (x:qg):qf:=x.2
def qg.mk (x0:Int) (x1:qf):qg:=(x0,x1)
instance qg.dec:DecidableEq qg:=Wj qA
def qh:Ty:=.ag [.ba 16,qm,.sl 4 qA]
abbrev qa:=Vector UInt8 16×qe×List qg
def qa.ID (x:qa):Vector UInt8 16:=x.1
def qa.qW (x:qa):qe:=x.2.1
def qa.F (x:qa):List qg:=x.2.2
def qa.mk (x0:Vector UInt8 16) (x1:qe) (x2:List qg):qa:=(x0,x1,x2)
instance qa.dec:DecidableEq qa:=Wj qh
def qn:Ty:=.ag [.sl 19 qh]
abbrev qc:=List qa
def qc.R (x:qc):List qa:=x
def qc.mk (x0:List qa):qc:=(x0)
instance qc.dec:DecidableEq qc:=Wj qn
def zk:Ty:=.ag [.i .i64,.ba 16,qm,.i .i64,.s,.sl 4 qw,.ba 16,.i .i64,.ba 32]
abbrev qd:=Int×Vector UInt8 16×qe×Int×List UInt8×List qb×Vector UInt8 16×Int×Vector UInt8 32
def qd.Kind (x:qd):Int:=x.1
def qd.ID (x:qd):Vector UInt8 16:=x.2.1
def qd.S (x:qd):qe:=x.2.2.1
def qd.No (x:qd):Int:=x.2.2.2.1
def qd.V (x:qd):List UInt8:=x.2.2.2.2.1
def qd.P (x:qd):List qb:=x.2.2.2.2.2.1
def qd.zm (x:qd):Vector UInt8 16:=x.2.2.2.2.2.2.1
def qd.jV (x:qd):Int:=x.2.2.2.2.2.2.2.1
def qd.D (x:qd):Vector UInt8 32:=x.2.2.2.2.2.2.2.2
def qd.mk (x0:Int) (x1:Vector UInt8 16) (x2:qe) (x3:Int) (x4:List UInt8) (x5:List qb) (x6:Vector UInt8 16) (x7:Int) (x8:Vector UInt8 32):qd:=(x0,x1,x2,x3,x4,x5,x6,x7,x8)
instance qd.dec:DecidableEq qd:=Wj zk
def ve:Ty:=.ag [qn,zk]
abbrev zf:=qc×qd
def zf.b (x:zf):qc:=x.1
def zf.o (x:zf):qd:=x.2
def zf.mk (x0:qc) (x1:qd):zf:=(x0,x1)
instance zf.dec:DecidableEq zf:=Wj ve
end Go.Rx
end
set_option maxRecDepth 100000
noncomputable section
namespace Go.Rx
open Go.Proofs
theorem qk:Tryz.prog.follows .mixedOrders=true:=by kernel_rfl
noncomputable instance qWd:CT:=⟨ctF Tryz.prog⟩
def qBw:Ent:=qVu 128
theorem qKw:q_ Tryz.prog qBw:=qUm (fn:=Tryz.f128) (by kernel_rfl) (by kernel_rfl) (by kernel_rfl) (by kernel_rfl) (by kernel_rfl)
noncomputable def qPD:Code:=Tryz.f104.body.getD .skip
theorem qvj:FnF Tryz.prog 104 Tryz.f104 qPD:=⟨qk,by kernel_rfl,by kernel_rfl,by kernel_rfl⟩
def qEW:TH:={ live:=[(0,[0]),(1,[0,4]),(2,[2]),(3,[2])],vecs:=[5],esc:=true }
def qFe (N:Nat):List Ent:=[]
theorem qBe (N:Nat):qO Tryz.prog (qFe N):=trivial
def qsD (a0:List UInt8) (z:Unit):TV×THp:=(.v 100050 (((([]:List UInt8))++a0).length),[(100050,.vec false 1 .bl ((([]:List UInt8))++a0:List UInt8))])
def qjP (a0:List UInt8):Tree (Unit):=
 .chk (List.isEmpty a0=false) <|
 .chk (jx ((([]:List UInt8)).length) 0 (((([]:List UInt8))++a0).length) 1) <|
 .ret ()
def qo9 (a0:List UInt8):Option (Unit):=(qjP a0).run some
def qFf:List (Nat×qy):=[]
theorem qBS:qiM Tryz.prog ⟨104,[],[.x .bl],[],[]⟩ [.bl] (fun x=>qjP x.1) (fun x=>qsD x.1):=
 qen (H:=qEW) (L:=qI (qFf)) 0 qvj (qBe 0) (qq (by kernel_rfl) trivial) (rg0 (by kernel_rfl)) fun x=>by kernel_rfl
def qBY:TH:={ live:=[(0,[0]),(1,[0,4]),(2,[2]),(3,[2])],vecs:=[5],esc:=true }
def qBL (N:Nat):List Ent:=[]
theorem qxL (N:Nat):qO Tryz.prog (qBL N):=trivial
def qBl (z:Unit):TV×THp:=(.v 100050 0,[(100050,.vec false 1 .bl ([]:List UInt8))])
def qnj:Tree (Unit):=
 .chk (0=0) <|
 .ret ()
def qE_:Option (Unit):=(qnj).run some
def qBC:List (Nat×qy):=[]
theorem qye:qiM Tryz.prog ⟨104,[],[.k (.es 0)],[],[]⟩ [] (fun x=>qnj) (fun _=>qBl):=
 qen (H:=qBY) (L:=qI (qBC)) 0 qvj (qxL 0) (qq (by kernel_rfl) trivial) (rg0 (by kernel_rfl)) fun x=>by kernel_rfl
def qAM:TH:={ live:=[(0,[0]),(1,[0,4]),(2,[2]),(3,[2])],vecs:=[5],esc:=true }
def qB0 (N:Nat):List Ent:=[]
theorem qx7 (N:Nat):qO Tryz.prog (qB0 N):=trivial
def qCx (z:Unit):TV×THp:=(.nils,[])
def qm7:Tree (Unit):=
 .ret ()
def qFA:Option (Unit):=(qm7).run some
def qCo:List (Nat×qy):=[]
theorem qxW:qiM Tryz.prog ⟨104,[],[.k (.es 1)],[],[]⟩ [] (fun x=>qm7) (fun _=>qCx):=
 qen (H:=qAM) (L:=qI (qCo)) 0 qvj (qx7 0) (qq (by kernel_rfl) trivial) (rg0 (by kernel_rfl)) fun x=>by kernel_rfl
def qm5 (z:Unit):Unit:=()
def qBz (z:Unit):Unit:=()
def Ko (a0:List UInt8):Option (Unit):=
 bif a0.isEmpty then
  (qE_).bind fun z0=>(qFA).bind fun z1=>chk (qm5 z0=qBz z1) (some (qm5 z0))
 else qo9 a0
def qpr:Ent:=smF ⟨104,[],[.x .bl],[],[]⟩ [.bl] (Unit) (fun x=>Ko x.1) cs1 fun x=>qsD x.1
theorem qBJ:q_ Tryz.prog (qpr):=qiZ fun x z h l=>by
 obtain ⟨a0,_⟩:=x
 replace h:Ko a0=some z:=h
 unfold Ko at h
 rcases quN h with ⟨e,h2⟩ | ⟨_,h2⟩<;>clear h
 ·have e:=List.isEmpty_iff.1 e
  subst e
  obtain ⟨z0,c0,h2⟩:=bind_some h2
  obtain ⟨z1,c1,h2⟩:=bind_some h2
  obtain ⟨hE,h2⟩:=qcp h2
  obtain rfl:=Option.some.inj h2
  refine qwC (t:=.bl) (x:=[]) rfl (TV.ers []) (TV.ers []) (by exact qye (()) _ c0 l) ?_
  rw [hE]
  exact (qUB (n:=100050) (sz:=1) (x:=qC .bl ([]:List UInt8)) rfl (by kernel_rfl) (by kernel_rfl) (qxW (()) _ c1 l))
 ·exact qBS (a0,()) z h2 l
noncomputable def qPt:Code:=Tryz.f105.body.getD .skip
theorem qQd:FnF Tryz.prog 105 Tryz.f105 qPt:=⟨qk,by kernel_rfl,by kernel_rfl,by kernel_rfl⟩
def qJF:TH:={ live:=[(0,[0]),(1,[0])] }
def qJz (N:Nat):List Ent:=[]
theorem qE7 (N:Nat):qO Tryz.prog (qJz N):=trivial
def qJc (z:Unit):TV×THp:=(.tv (.wa 8) ((((((((((Vector.replicate 8 0)).setIfInBounds 0 ((UInt32.ofNat 1779033703))).setIfInBounds 1 ((UInt32.ofNat 3144134277))).setIfInBounds 2 ((UInt32.ofNat 1013904242))).setIfInBounds 3 ((UInt32.ofNat 2773480762))).setIfInBounds 4 ((UInt32.ofNat 1359893119))).setIfInBounds 5 ((UInt32.ofNat 2600822924))).setIfInBounds 6 ((UInt32.ofNat 528734635))).setIfInBounds 7 ((UInt32.ofNat 1541459225)):Vector UInt32 8),[])
def qyP:Tree (Unit):=
 .chk (0 < 8) <|
 .chk (1 < 8) <|
 .chk (2 < 8) <|
 .chk (3 < 8) <|
 .chk (4 < 8) <|
 .chk (5 < 8) <|
 .chk (6 < 8) <|
 .chk (7 < 8) <|
 .ret ()
def qwT:Option (Unit):=(qyP).run some
def qJn:List (Nat×qy):=[]
def qyh:Ent:=smF ⟨105,[],[],[],[]⟩ [] (Unit) (fun x=>qwT) cs1 fun _=>qJc
theorem qGW:q_ Tryz.prog (qyh):=
 q8 (H:=qJF) (L:=qI (qJn)) (ts:=[]) (T:=fun x=>qyP) 0 qQd (qE7 0) (qq (by kernel_rfl) trivial) (rg0 (by kernel_rfl)) fun x=>by kernel_rfl
noncomputable def qNv:Code:=Tryz.f106.body.getD .skip
theorem qPE:FnF Tryz.prog 106 Tryz.f106 qNv:=⟨qk,by kernel_rfl,by kernel_rfl,by kernel_rfl⟩
def qJx:TH:={ live:=[(0,[0]),(1,[0])] }
def qJL (N:Nat):List Ent:=[]
theorem qFK (N:Nat):qO Tryz.prog (qJL N):=trivial
def qJq (z:Unit):TV×THp:=(.tv (.wa 64) ((((((((((((((((((((((((((((((((((((((((((((((((((((((((((((((((((Vector.replicate 64 0)).setIfInBounds 0 ((UInt32.ofNat 1116352408))).setIfInBounds 1 ((UInt32.ofNat 1899447441))).setIfInBounds 2 ((UInt32.ofNat 3049323471))).setIfInBounds 3 ((UInt32.ofNat 3921009573))).setIfInBounds 4 ((UInt32.ofNat 961987163))).setIfInBounds 5 ((UInt32.ofNat 1508970993))).setIfInBounds 6 ((UInt32.ofNat 2453635748))).setIfInBounds 7 ((UInt32.ofNat 2870763221))).setIfInBounds 8 ((UInt32.ofNat 3624381080))).setIfInBounds 9 ((UInt32.ofNat 310598401))).setIfInBounds 10 ((UInt32.ofNat 607225278))).setIfInBounds 11 ((UInt32.ofNat 1426881987))).setIfInBounds 12 ((UInt32.ofNat 1925078388))).setIfInBounds 13 ((UInt32.ofNat 2162078206))).setIfInBounds 14 ((UInt32.ofNat 2614888103))).setIfInBounds 15 ((UInt32.ofNat 3248222580))).setIfInBounds 16 ((UInt32.ofNat 3835390401))).setIfInBounds 17 ((UInt32.ofNat 4022224774))).setIfInBounds 18 ((UInt32.ofNat 264347078))).setIfInBounds 19 ((UInt32.ofNat 604807628))).setIfInBounds 20 ((UInt32.ofNat 770255983))).setIfInBounds 21 ((UInt32.ofNat 1249150122))).setIfInBounds 22 ((UInt32.ofNat 1555081692))).setIfInBounds 23 ((UInt32.ofNat 1996064986))).setIfInBounds 24 ((UInt32.ofNat 2554220882))).setIfInBounds 25 ((UInt32.ofNat 2821834349))).setIfInBounds 26 ((UInt32.ofNat 2952996808))).setIfInBounds 27 ((UInt32.ofNat 3210313671))).setIfInBounds 28 ((UInt32.ofNat 3336571891))).setIfInBounds 29 ((UInt32.ofNat 3584528711))).setIfInBounds 30 ((UInt32.ofNat 113926993))).setIfInBounds 31 ((UInt32.ofNat 338241895))).setIfInBounds 32 ((UInt32.ofNat 666307205))).setIfInBounds 33 ((UInt32.ofNat 773529912))).setIfInBounds 34 ((UInt32.ofNat 1294757372))).setIfInBounds 35 ((UInt32.ofNat 1396182291))).setIfInBounds 36 ((UInt32.ofNat 1695183700))).setIfInBounds 37 ((UInt32.ofNat 1986661051))).setIfInBounds 38 ((UInt32.ofNat 2177026350))).setIfInBounds 39 ((UInt32.ofNat 2456956037))).setIfInBounds 40 ((UInt32.ofNat 2730485921))).setIfInBounds 41 ((UInt32.ofNat 2820302411))).setIfInBounds 42 ((UInt32.ofNat 3259730800))).setIfInBounds 43 ((UInt32.ofNat 3345764771))).setIfInBounds 44 ((UInt32.ofNat 3516065817))).setIfInBounds 45 ((UInt32.ofNat 3600352804))).setIfInBounds 46 ((UInt32.ofNat 4094571909))).setIfInBounds 47 ((UInt32.ofNat 275423344))).setIfInBounds 48 ((UInt32.ofNat 430227734))).setIfInBounds 49 ((UInt32.ofNat 506948616))).setIfInBounds 50 ((UInt32.ofNat 659060556))).setIfInBounds 51 ((UInt32.ofNat 883997877))).setIfInBounds 52 ((UInt32.ofNat 958139571))).setIfInBounds 53 ((UInt32.ofNat 1322822218))).setIfInBounds 54 ((UInt32.ofNat 1537002063))).setIfInBounds 55 ((UInt32.ofNat 1747873779))).setIfInBounds 56 ((UInt32.ofNat 1955562222))).setIfInBounds 57 ((UInt32.ofNat 2024104815))).setIfInBounds 58 ((UInt32.ofNat 2227730452))).setIfInBounds 59 ((UInt32.ofNat 2361852424))).setIfInBounds 60 ((UInt32.ofNat 2428436474))).setIfInBounds 61 ((UInt32.ofNat 2756734187))).setIfInBounds 62 ((UInt32.ofNat 3204031479))).setIfInBounds 63 ((UInt32.ofNat 3329325298)):Vector UInt32 64),[])
def qyf:Tree (Unit):=
 .chk (0 < 64) <|
 .chk (1 < 64) <|
 .chk (2 < 64) <|
 .chk (3 < 64) <|
 .chk (4 < 64) <|
 .chk (5 < 64) <|
 .chk (6 < 64) <|
 .chk (7 < 64) <|
 .chk (8 < 64) <|
 .chk (9 < 64) <|
 .chk (10 < 64) <|
 .chk (11 < 64) <|
 .chk (12 < 64) <|
 .chk (13 < 64) <|
 .chk (14 < 64) <|
 .chk (15 < 64) <|
 .chk (16 < 64) <|
 .chk (17 < 64) <|
 .chk (18 < 64) <|
 .chk (19 < 64) <|
 .chk (20 < 64) <|
 .chk (21 < 64) <|
 .chk (22 < 64) <|
 .chk (23 < 64) <|
 .chk (24 < 64) <|
 .chk (25 < 64) <|
 .chk (26 < 64) <|
 .chk (27 < 64) <|
 .chk (28 < 64) <|
 .chk (29 < 64) <|
 .chk (30 < 64) <|
 .chk (31 < 64) <|
 .chk (32 < 64) <|
 .chk (33 < 64) <|
 .chk (34 < 64) <|
 .chk (35 < 64) <|
 .chk (36 < 64) <|
 .chk (37 < 64) <|
 .chk (38 < 64) <|
 .chk (39 < 64) <|
 .chk (40 < 64) <|
 .chk (41 < 64) <|
 .chk (42 < 64) <|
 .chk (43 < 64) <|
 .chk (44 < 64) <|
 .chk (45 < 64) <|
 .chk (46 < 64) <|
 .chk (47 < 64) <|
 .chk (48 < 64) <|
 .chk (49 < 64) <|
 .chk (50 < 64) <|
 .chk (51 < 64) <|
 .chk (52 < 64) <|
 .chk (53 < 64) <|
 .chk (54 < 64) <|
 .chk (55 < 64) <|
 .chk (56 < 64) <|
 .chk (57 < 64) <|
 .chk (58 < 64) <|
 .chk (59 < 64) <|
 .chk (60 < 64) <|
 .chk (61 < 64) <|
 .chk (62 < 64) <|
 .chk (63 < 64) <|
 .ret ()
def qvF:Option (Unit):=(qyf).run some
def qI7:List (Nat×qy):=[]
def qyC:Ent:=smF ⟨106,[],[],[],[]⟩ [] (Unit) (fun x=>qvF) cs1 fun _=>qJq
theorem qId:q_ Tryz.prog (qyC):=
 q8 (H:=qJx) (L:=qI (qI7)) (ts:=[]) (T:=fun x=>qyf) 0 qPE (qFK 0) (qq (by kernel_rfl) trivial) (rg0 (by kernel_rfl)) fun x=>by kernel_rfl
noncomputable def qN6:Code:=Tryz.f142.body.getD .skip
theorem qQf:FnF Tryz.prog 142 Tryz.f142 qN6:=⟨qk,by kernel_rfl,by kernel_rfl,by kernel_rfl⟩
def qlC:TH:={ live:=[(0,[0,1]),(1,[0,5]),(2,[4])] }
def qlt (N:Nat):List Ent:=[]
theorem qjH (N:Nat):qO Tryz.prog (qlt N):=trivial
def qlf (z:Int):TV×THp:=(.tv (.i .u32) z,[])
def WI (a0:Int) (a1:Int):Tree (Int):=
 .chk (0≤(YR .u64 (IntKind.u64.wrap a1) 31)) <|
 let w1:Int:=qzC .u32 a0 (min (YR .u64 (IntKind.u64.wrap a1) 31).toNat 32)
 let w2:Int:=qo0 .u64 ((32:Int)) (YR .u64 (IntKind.u64.wrap a1) 31)
 .chk (0≤w2) <|
 .ret (uOr .u32 w1 (Ji a0 (min w2.toNat 32)))
def YC (a0:Int) (a1:Int):Option (Int):=(WI a0 a1).run some
def qlJ:List (Nat×qy):=[]
def qcC:Ent:=smF ⟨142,[],[.x (.i .u32),.x (.i .i64)],[],[]⟩ [(.i .u32),(.i .i64)] (Int) (fun x=>YC x.1 x.2.1) cs1 fun _=>qlf
theorem qkW:q_ Tryz.prog (qcC):=
 q8 (H:=qlC) (L:=qI (qlJ)) (ts:=[(.i .u32),(.i .i64)]) (T:=fun x=>WI x.1 x.2.1) 0 qQf (qjH 0) (qq (by kernel_rfl) trivial) (rg0 (by kernel_rfl)) fun x=>by kernel_rfl
noncomputable def qNN:Code:=Tryz.f125.body.getD .skip
theorem qOb:FnF Tryz.prog 125 Tryz.f125 qNN:=⟨qk,by kernel_rfl,by kernel_rfl,by kernel_rfl⟩
def qI4:TH:={ live:=[(0,[0,1]),(1,[4])] }
def qJT (N:Nat):List Ent:=[qcC]
theorem qES (N:Nat):qO Tryz.prog (qJT N):=⟨qkW,trivial⟩
def qKc (z:Int):TV×THp:=(.tv (.i .u32) z,[])
def qnV (a0:Int) (a1:Int):Tree (Int):=
 .chk (qj (0 - a1)) <|
 .bind (YC a0 (0 - a1)) fun r1=>
 .ret r1
def jz (a0:Int) (a1:Int):Option (Int):=(qnV a0 a1).run some
def qJE:List (Nat×qy):=[]
def qnv:Ent:=smF ⟨125,[],[.x (.i .u32),.x (.i .i64)],[],[]⟩ [(.i .u32),(.i .i64)] (Int) (fun x=>jz x.1 x.2.1) cs1 fun _=>qKc
theorem qwR:q_ Tryz.prog (qnv):=
 q8 (H:=qI4) (L:=qI (qJE)) (ts:=[(.i .u32),(.i .i64)]) (T:=fun x=>qnV x.1 x.2.1) 0 qOb (qES 0) (qq (by kernel_rfl) trivial) (rg0 (by kernel_rfl)) fun x=>by kernel_rfl
noncomputable def quM:Code:=Tryz.f124.body.getD .skip
theorem qO8:FnF Tryz.prog 124 Tryz.f124 quM:=⟨qk,by kernel_rfl,by kernel_rfl,by kernel_rfl⟩
def qiq:TH:={ live:=[(0,[0,2]),(1,[0,2,3]),(2,[0,2,3,7]),(3,[0,2,3,7,8]),(4,[0,2,3,4,7]),(5,[0,2,3,4,7,11]),(6,[0,2,3,7]),(7,[0,2,3,4,5,6,7]),(8,[0,2,3,7]),(9,[0,2,3,7]),(10,[2])] }
def qps (N:Nat):List Ent:=[qnv]
theorem qll (N:Nat):qO Tryz.prog (qps N):=⟨qwR,trivial⟩
abbrev Y4:=Vector UInt32 64×List UInt8
abbrev Vg:=Vector UInt32 64×Int×Bool
def X2 (f:Y4) (y:Vg):Ex×TSt:=(.exit 0,⟨0,86,[],[(0,.tv .bl f.2),(2,.p 20 [] 0),(3,.p 30 [] 0),(7,xi y.2.1),(8,xb y.2.2)],[(20,.cell false (.tv (.wa 64) f.1)),(30,.cell false (.tv (.wa 64) (y.1:Vector UInt32 64)))],false,[]⟩)
def qxV (N:Nat):List (Nat×qy):=[]
abbrev X4:=Vector UInt32 64×Int
def qkj:SP:=⟨0,86,[],[(0,.x .bl),(2,.k (.p 20 [] 0)),(3,.k (.p 30 [] 0)),(7,.x (.i .i64))],[(20,.cell false (.x (.wa 64))),(30,.cell false (.x (.wa 64)))],false,[]⟩
def qxN (f:Y4) (v:X4):TSt:=zw qkj [dv (.wa 64) f.1,dv (.wa 64) v.1,dv .bl f.2,dv (.i .i64) v.2]
def Zp (N:Nat) (o_3:Vector UInt32 64) (s0_3:List UInt8) (v:X4):Tree (X4⊕Vg):=
 .cond (decide (v.2 < ((64:Int)))) (
 .cond (decide (v.2 < ((16:Int)))) (
 .chk (qj (((4:Int)) * v.2)) <|
 .bind (qP s0_3 (((4:Int)) * v.2)) fun e1=>
 let w2:Int:=IntKind.u32.wrap ((e1.toNat:Nat):Int)
 .chk (0≤(24:Int)) <|
 .chk (qj (((4:Int)) * v.2)) <|
 .chk (qj ((((4:Int)) * v.2) + 1)) <|
 .bind (qP s0_3 ((((4:Int)) * v.2) + 1)) fun e3=>
 let w4:Int:=IntKind.u32.wrap ((e3.toNat:Nat):Int)
 .chk (0≤(16:Int)) <|
 let w5:Int:=uOr .u32 (qzC .u32 w2 24) (qzC .u32 w4 16)
 .chk (qj (((4:Int)) * v.2)) <|
 .chk (qj ((((4:Int)) * v.2) + 2)) <|
 .bind (qP s0_3 ((((4:Int)) * v.2) + 2)) fun e6=>
 let w7:Int:=IntKind.u32.wrap ((e6.toNat:Nat):Int)
 .chk (0≤(8:Int)) <|
 .chk (qj (((4:Int)) * v.2)) <|
 .chk (qj ((((4:Int)) * v.2) + 3)) <|
 .bind (qP s0_3 ((((4:Int)) * v.2) + 3)) fun e8=>
 let w9:Int:=IntKind.u32.wrap ((e8.toNat:Nat):Int)
 let w10:Int:=uOr .u32 (uOr .u32 w5 (qzC .u32 w7 8)) w9
 .chk (0≤v.2∧v.2 < ((64:Nat):Int)) <|
 .chk (inW w10) <|
 .chk (v.2.toNat < 64) <|
 .chk (qj (v.2 + 1)) <|
 .ret (.inl (v.1.setIfInBounds v.2.toNat (UInt32.ofNat w10.toNat),v.2 + 1))) <|
 .chk (qj (v.2 - 15)) <|
 .chk (0≤(v.2 - 15)∧(v.2 - 15) < ((64:Nat):Int)) <|
 .chk ((v.2 - 15).toNat < 64) <|
 .chk (qj (v.2 - 2)) <|
 .chk (0≤(v.2 - 2)∧(v.2 - 2) < ((64:Nat):Int)) <|
 .chk ((v.2 - 2).toNat < 64) <|
 .chk (qj (v.2 - 16)) <|
 .chk (0≤(v.2 - 16)∧(v.2 - 16) < ((64:Nat):Int)) <|
 .chk ((v.2 - 16).toNat < 64) <|
 .chk (qj (v.2 - 7)) <|
 .chk (0≤(v.2 - 7)∧(v.2 - 7) < ((64:Nat):Int)) <|
 .chk ((v.2 - 7).toNat < 64) <|
 let w1:Int:=vn .u32 (((v.1.toList.getD ((v.2 - 16).toNat) 0).toNat:Nat):Int) (((v.1.toList.getD ((v.2 - 7).toNat) 0).toNat:Nat):Int)
 .bind (jz (((v.1.toList.getD ((v.2 - 15).toNat) 0).toNat:Nat):Int) 7) fun r2=>
 .bind (jz (((v.1.toList.getD ((v.2 - 15).toNat) 0).toNat:Nat):Int) 18) fun r3=>
 .chk (0≤(3:Int)) <|
 let w4:Int:=Ji (((v.1.toList.getD ((v.2 - 15).toNat) 0).toNat:Nat):Int) 3
 let w5:Int:=vn .u32 w1 (VF .u32 (VF .u32 r2 r3) w4)
 .bind (jz (((v.1.toList.getD ((v.2 - 2).toNat) 0).toNat:Nat):Int) 17) fun r6=>
 .bind (jz (((v.1.toList.getD ((v.2 - 2).toNat) 0).toNat:Nat):Int) 19) fun r7=>
 .chk (0≤(10:Int)) <|
 let w8:Int:=Ji (((v.1.toList.getD ((v.2 - 2).toNat) 0).toNat:Nat):Int) 10
 let w9:Int:=vn .u32 w5 (VF .u32 (VF .u32 r6 r7) w8)
 .chk (0≤v.2∧v.2 < ((64:Nat):Int)) <|
 .chk (inW w9) <|
 .chk (v.2.toNat < 64) <|
 .chk (qj (v.2 + 1)) <|
 .ret (.inl (v.1.setIfInBounds v.2.toNat (UInt32.ofNat w9.toNat),v.2 + 1))) <|
 .ret (.inr (v.1,v.2,decide (v.2 < ((64:Int)))))
def qkd (N n:Nat) (f:Y4) (v:X4):Option Vg:=qQ (Zp N f.1 f.2) some n v
theorem qx0 (N:Nat) (f:Y4) (n:Nat) (v:X4) (y:Vg) (h:qkd N n f v=some y):LG Tryz.prog qiq 124 (qL quM 3) (qxN f v) (X2 f y):=
 zl qk (E:=qps N) (L:=qI (qxV N)) (st:=X2 f) (g:=some) (R:=X2 f) (qll N) (qq (by kernel_rfl) trivial) (rg0 (by kernel_rfl)) (fun v=>by kernel_rfl) (qU (st:=X2 f) fun y=>by rfl) (js0 rfl) n v y h
def qhD (N:Nat) (o_3:Vector UInt32 64) (s0_3:List UInt8) (o_3_2:Vector UInt32 64) (s7_3:Int):Option Vg:=qkd N N (o_3,s0_3) (o_3_2,s7_3)
def qkb (N:Nat):qy:=smL qkj [(.wa 64),(.wa 64),.bl,(.i .i64)] Vg (fun x=>qhD N x.1 x.2.2.1 x.2.1 x.2.2.2.1) cs1 fun x=>X2 (x.1,x.2.2.1)
theorem qvz (N:Nat):ji Tryz.prog qiq 124 (qL quM 3) (qkb N):=zu fun x z h=>qx0 N (x.1,x.2.2.1) N (x.2.1,x.2.2.2.1) z h
def qCE (z:Vector UInt32 64):TV×THp:=(.tv (.wa 64) z,[])
def qii (N:Nat) (a0:List UInt8):Tree (Vector UInt32 64):=
 .bind (qhD N ((Vector.replicate 64 0)) a0 ((Vector.replicate 64 0)) 0) fun z1=>
 .ret z1.1
def qgU (N:Nat) (a0:List UInt8):Option (Vector UInt32 64):=(qii N a0).run some
def qCQ (N:Nat):List (Nat×qy):=[(3,qkb N)]
def qqG (N:Nat):Ent:=smF ⟨124,[],[.x .bl],[],[]⟩ [.bl] (Vector UInt32 64) (fun x=>qgU N x.1) cs1 fun _=>qCE
theorem qAG (N:Nat):q_ Tryz.prog (qqG N):=
 q8 (H:=qiq) (L:=qI (qCQ N)) (ts:=[.bl]) (T:=fun x=>qii N x.1) 0 qO8 (qll N) (qq (by kernel_rfl) ⟨qvz N,trivial⟩) (rg0 (by kernel_rfl)) fun x=>by kernel_rfl
noncomputable def qjm:Code:=Tryz.f107.body.getD .skip
theorem qNW:FnF Tryz.prog 107 Tryz.f107 qjm:=⟨qk,by kernel_rfl,by kernel_rfl,by kernel_rfl⟩
def Wz:TH:={ live:=[(0,[0,2,6]),(1,[0,2,6,7]),(2,[0,2,6,7,19]),(3,[0,2,6,7,19,20]),(4,[0,2,6,7,8,19]),(5,[0,2,6,7,8,9,10,19]),(6,[0,2,6,7,9,11,19]),(7,[0,2,6,7,11,12,19]),(8,[0,2,6,7,11,12,19]),(9,[0,2,6,7,11,19]),(10,[0,2,6,7,19]),(11,[0,2,6,7,19]),(12,[0,7,95]),(13,[0,7,95,96]),(14,[0,7,13,95]),(15,[0,7,95]),(16,[0,7,95])] }
def qfE (N:Nat):List Ent:=[qqG N,qnv]
theorem qc4 (N:Nat):qO Tryz.prog (qfE N):=⟨qAG N,qwR,trivial⟩
abbrev WV:=Vector UInt32 8×Vector UInt32 64×Vector UInt32 64
abbrev ZA:=Vector UInt32 8×Int×Bool
def VC (f:WV) (y:ZA):Ex×TSt:=(.exit 0,⟨1,110,[50,60],[(0,.p 50 [] 0),(2,.p 60 [] 0),(6,.p 100060 [] 0),(7,.p 100070 [] 0),(19,xi y.2.1),(20,xb y.2.2)],[(50,.cell false (.tv (.wa 8) f.1)),(60,.cell false (.tv (.wa 64) f.2.1)),(100060,.cell false (.tv (.wa 64) f.2.2)),(100070,.cell false (.tv (.wa 8) (y.1:Vector UInt32 8)))],false,[]⟩)
def qt5 (N:Nat):List (Nat×qy):=[]
abbrev Vz:=Vector UInt32 8×Int
def qhZ:SP:=⟨1,110,[50,60],[(0,.k (.p 50 [] 0)),(2,.k (.p 60 [] 0)),(6,.k (.p 100060 [] 0)),(7,.k (.p 100070 [] 0)),(19,.x (.i .i64))],[(50,.cell false (.x (.wa 8))),(60,.cell false (.x (.wa 64))),(100060,.cell false (.x (.wa 64))),(100070,.cell false (.x (.wa 8)))],false,[]⟩
def qtm (f:WV) (v:Vz):TSt:=zw qhZ [dv (.wa 8) f.1,dv (.wa 64) f.2.1,dv (.wa 64) f.2.2,dv (.wa 8) v.1,dv (.i .i64) v.2]
def VA (N:Nat) (o_3:Vector UInt32 8) (o_3_2:Vector UInt32 64) (o_3_3:Vector UInt32 64) (v:Vz):Tree (Vz⊕ZA):=
 .cond (decide (v.2 < ((64:Int)))) (
 .chk (0≤(0:Int)∧(0:Int) < ((8:Nat):Int)) <|
 .chk (0 < 8) <|
 .chk (0≤(4:Int)∧(4:Int) < ((8:Nat):Int)) <|
 .chk (4 < 8) <|
 .chk (0≤(7:Int)∧(7:Int) < ((8:Nat):Int)) <|
 .chk (7 < 8) <|
 .bind (jz (((v.1.toList.getD 4 0).toNat:Nat):Int) 6) fun r1=>
 .bind (jz (((v.1.toList.getD 4 0).toNat:Nat):Int) 11) fun r2=>
 .bind (jz (((v.1.toList.getD 4 0).toNat:Nat):Int) 25) fun r3=>
 let w4:Int:=vn .u32 (((v.1.toList.getD 7 0).toNat:Nat):Int) (VF .u32 (VF .u32 r1 r2) r3)
 .chk (0≤(5:Int)∧(5:Int) < ((8:Nat):Int)) <|
 .chk (5 < 8) <|
 let w5:Int:=YR .u32 (((v.1.toList.getD 4 0).toNat:Nat):Int) (((v.1.toList.getD 5 0).toNat:Nat):Int)
 let w6:Int:=VF .u32 (4294967295) (((v.1.toList.getD 4 0).toNat:Nat):Int)
 .chk (0≤(6:Int)∧(6:Int) < ((8:Nat):Int)) <|
 .chk (6 < 8) <|
 let w7:Int:=YR .u32 w6 (((v.1.toList.getD 6 0).toNat:Nat):Int)
 .chk (0≤v.2∧v.2 < ((64:Nat):Int)) <|
 .chk (v.2.toNat < 64) <|
 let w8:Int:=vn .u32 (vn .u32 w4 (VF .u32 w5 w7)) (((o_3_2.toList.getD v.2.toNat 0).toNat:Nat):Int)
 .chk (0≤v.2∧v.2 < ((64:Nat):Int)) <|
 .chk (v.2.toNat < 64) <|
 let w9:Int:=vn .u32 w8 (((o_3_3.toList.getD v.2.toNat 0).toNat:Nat):Int)
 .bind (jz (((v.1.toList.getD 0 0).toNat:Nat):Int) 2) fun r10=>
 .bind (jz (((v.1.toList.getD 0 0).toNat:Nat):Int) 13) fun r11=>
 .bind (jz (((v.1.toList.getD 0 0).toNat:Nat):Int) 22) fun r12=>
 .chk (0≤(1:Int)∧(1:Int) < ((8:Nat):Int)) <|
 .chk (1 < 8) <|
 let w13:Int:=YR .u32 (((v.1.toList.getD 0 0).toNat:Nat):Int) (((v.1.toList.getD 1 0).toNat:Nat):Int)
 .chk (0≤(2:Int)∧(2:Int) < ((8:Nat):Int)) <|
 .chk (2 < 8) <|
 let w14:Int:=YR .u32 (((v.1.toList.getD 0 0).toNat:Nat):Int) (((v.1.toList.getD 2 0).toNat:Nat):Int)
 .chk (0≤(1:Int)∧(1:Int) < ((8:Nat):Int)) <|
 .chk (1 < 8) <|
 .chk (0≤(2:Int)∧(2:Int) < ((8:Nat):Int)) <|
 .chk (2 < 8) <|
 let w15:Int:=YR .u32 (((v.1.toList.getD 1 0).toNat:Nat):Int) (((v.1.toList.getD 2 0).toNat:Nat):Int)
 let w16:Int:=vn .u32 (VF .u32 (VF .u32 r10 r11) r12) (VF .u32 (VF .u32 w13 w14) w15)
 .chk (0≤(0:Int)∧(0:Int) < ((8:Nat):Int)) <|
 .chk (inW (vn .u32 w9 w16)) <|
 .chk (0 < 8) <|
 .chk (0≤(4:Int)∧(4:Int) < ((8:Nat):Int)) <|
 .chk (4 < 8) <|
 let w17:Int:=vn .u32 (((((qaJ v.1 1 7).setIfInBounds 0 (UInt32.ofNat (vn .u32 w9 w16).toNat)).toList.getD 4 0).toNat:Nat):Int) w9
 .chk (0≤(4:Int)∧(4:Int) < ((8:Nat):Int)) <|
 .chk (inW w17) <|
 .chk (4 < 8) <|
 .chk (qj (v.2 + 1)) <|
 .ret (.inl (((qaJ v.1 1 7).setIfInBounds 0 (UInt32.ofNat (vn .u32 w9 w16).toNat)).setIfInBounds 4 (UInt32.ofNat w17.toNat),v.2 + 1))) <|
 .ret (.inr (v.1,v.2,decide (v.2 < ((64:Int)))))
def qic (N n:Nat) (f:WV) (v:Vz):Option ZA:=qQ (VA N f.1 f.2.1 f.2.2) some n v
theorem qt1 (N:Nat) (f:WV) (n:Nat) (v:Vz) (y:ZA) (h:qic N n f v=some y):LG Tryz.prog Wz 107 (qL qjm 3) (qtm f v) (VC f y):=
 zl qk (E:=qfE N) (L:=qI (qt5 N)) (st:=VC f) (g:=some) (R:=VC f) (qc4 N) (qq (by kernel_rfl) trivial) (rg0 (by kernel_rfl)) (fun v=>by kernel_rfl) (qU (st:=VC f) fun y=>by rfl) (js0 rfl) n v y h
def qd_ (N:Nat) (o_3:Vector UInt32 8) (o_3_2:Vector UInt32 64) (o_3_3:Vector UInt32 64) (o_3_4:Vector UInt32 8) (s19_3:Int):Option ZA:=qic N N (o_3,o_3_2,o_3_3) (o_3_4,s19_3)
def qhX (N:Nat):qy:=smL qhZ [(.wa 8),(.wa 64),(.wa 64),(.wa 8),(.i .i64)] ZA (fun x=>qd_ N x.1 x.2.1 x.2.2.1 x.2.2.2.1 x.2.2.2.2.1) cs1 fun x=>VC (x.1,x.2.1,x.2.2.1)
theorem qrk (N:Nat):ji Tryz.prog Wz 107 (qL qjm 3) (qhX N):=zu fun x z h=>qt1 N (x.1,x.2.1,x.2.2.1) N (x.2.2.2.1,x.2.2.2.2.1) z h
abbrev Wf:=Vector UInt32 64×Vector UInt32 8
abbrev Q7:=Vector UInt32 8×Int×Bool
def J9 (f:Wf) (y:Q7):Ex×TSt:=(.exit 2,⟨1,110,[50,60],[(0,.p 50 [] 0),(7,.p 100070 [] 0),(95,xi y.2.1),(96,xb y.2.2)],[(50,.cell false (.tv (.wa 8) (y.1:Vector UInt32 8))),(60,.cell false (.tv (.wa 64) f.1)),(100070,.cell false (.tv (.wa 8) f.2))],false,[]⟩)
def qq8 (N:Nat):List (Nat×qy):=[]
abbrev J0:=Vector UInt32 8×Int
def qhz:SP:=⟨1,110,[50,60],[(0,.k (.p 50 [] 0)),(7,.k (.p 100070 [] 0)),(95,.x (.i .i64))],[(50,.cell false (.x (.wa 8))),(60,.cell false (.x (.wa 64))),(100070,.cell false (.x (.wa 8)))],false,[]⟩
def qr0 (f:Wf) (v:J0):TSt:=zw qhz [dv (.wa 8) v.1,dv (.wa 64) f.1,dv (.wa 8) f.2,dv (.i .i64) v.2]
def Wh (N:Nat) (o_13_2:Vector UInt32 64) (o_13_3:Vector UInt32 8) (v:J0):Tree (J0⊕Q7):=
 .cond (decide (v.2 < ((8:Int)))) (
 .chk (0≤v.2∧v.2 < ((8:Nat):Int)) <|
 .chk (v.2.toNat < 8) <|
 .chk (0≤v.2∧v.2 < ((8:Nat):Int)) <|
 .chk (v.2.toNat < 8) <|
 let w1:Int:=vn .u32 (((v.1.toList.getD v.2.toNat 0).toNat:Nat):Int) (((o_13_3.toList.getD v.2.toNat 0).toNat:Nat):Int)
 .chk (0≤v.2∧v.2 < ((8:Nat):Int)) <|
 .chk (inW w1) <|
 .chk (v.2.toNat < 8) <|
 .chk (qj (v.2 + 1)) <|
 .ret (.inl (v.1.setIfInBounds v.2.toNat (UInt32.ofNat w1.toNat),v.2 + 1))) <|
 .ret (.inr (v.1,v.2,decide (v.2 < ((8:Int)))))
def qhy (N n:Nat) (f:Wf) (v:J0):Option Q7:=qQ (Wh N f.1 f.2) some n v
theorem qrx (N:Nat) (f:Wf) (n:Nat) (v:J0) (y:Q7) (h:qhy N n f v=some y):LG Tryz.prog Wz 107 (qL qjm 13) (qr0 f v) (J9 f y):=
 zl qk (E:=qfE N) (L:=qI (qq8 N)) (st:=J9 f) (g:=some) (R:=J9 f) (qc4 N) (qq (by kernel_rfl) trivial) (rg0 (by kernel_rfl)) (fun v=>by kernel_rfl) (qU (st:=J9 f) fun y=>by rfl) (js0 rfl) n v y h
def qcB (N:Nat) (o_13_2:Vector UInt32 64) (o_13_3:Vector UInt32 8) (o_13:Vector UInt32 8) (s95_13:Int):Option Q7:=qhy N N (o_13_2,o_13_3) (o_13,s95_13)
def qho (N:Nat):qy:=smL qhz [(.wa 8),(.wa 64),(.wa 8),(.i .i64)] Q7 (fun x=>qcB N x.2.1 x.2.2.1 x.1 x.2.2.2.1) cs1 fun x=>J9 (x.2.1,x.2.2.1)
theorem qpm (N:Nat):ji Tryz.prog Wz 107 (qL qjm 13) (qho N):=zu fun x z h=>qrx N (x.2.1,x.2.2.1) N (x.1,x.2.2.2.1) z h
def qzw (a1:Vector UInt32 64) (z:Vector UInt32 8):TV×THp:=(.tup [],[(50,.cell false (.tv (.wa 8) z)),(60,.cell false (.tv (.wa 64) a1))])
def qfG (N:Nat) (a0:Vector UInt32 8) (a1:Vector UInt32 64) (a2:List UInt8):Tree (Vector UInt32 8):=
 .bind (qgU N a2) fun r1=>
 .bind (qd_ N a0 a1 r1 a0 0) fun z2=>
 .bind (qcB N a1 z2.1 a0 0) fun z3=>
 .ret z3.1
def KC (N:Nat) (a0:Vector UInt32 8) (a1:Vector UInt32 64) (a2:List UInt8):Option (Vector UInt32 8):=(qfG N a0 a1 a2).run some
def qzI (N:Nat):List (Nat×qy):=[(3,qhX N),(13,qho N)]
def qla (N:Nat):Ent:=smF ⟨107,[],[.k (.p 50 [] 0),.x .bl,.k (.p 60 [] 0)],[],[(50,.cell false (.x (.wa 8))),(60,.cell false (.x (.wa 64)))]⟩ [(.wa 8),(.wa 64),.bl] (Vector UInt32 8) (fun x=>KC N x.1 x.2.1 x.2.2.1) cs1 fun x=>qzw x.2.1
theorem qxI (N:Nat):q_ Tryz.prog (qla N):=
 q8 (H:=Wz) (L:=qI (qzI N)) (ts:=[(.wa 8),(.wa 64),.bl]) (T:=fun x=>qfG N x.1 x.2.1 x.2.2.1) 0 qNW (qc4 N) (qq (by kernel_rfl) ⟨qrk N,qpm N,trivial⟩) (rg0 (by kernel_rfl)) fun x=>by kernel_rfl
noncomputable def YB:Code:=Tryz.f78.body.getD .skip
theorem qTv:FnF Tryz.prog 78 Tryz.f78 YB:=⟨qk,by kernel_rfl,by kernel_rfl,by kernel_rfl⟩
def Wo:TH:={ live:=[(0,[0,2]),(1,[0,2,3]),(2,[0,2,3,16]),(3,[0,2,3]),(4,[0,2,3,20]),(5,[0,2,3,20,21]),(6,[0,2,3,4,20]),(7,[0,2,3,20]),(8,[0,2,3,20]),(9,[2,3,5,6]),(10,[2,3,5,6,40]),(11,[2,3,5,6]),(12,[2,3,5,6]),(13,[2,5,7]),(14,[2,5,7,46]),(15,[2,5,7,46,47]),(16,[2,5,7,8,46]),(17,[2,5,7,46]),(18,[2,5,7,46]),(19,[2])],fresh:=[10] }
def qf9 (N:Nat):List Ent:=[qpr,qyh,qyC,qla N]
theorem qba (N:Nat):qO Tryz.prog (qf9 N):=⟨qBJ,qGW,qId,qxI N,trivial⟩
abbrev qhp:=Vector UInt8 32×List UInt8
abbrev Kf:=List UInt8×Bool
def qcH (f:qhp) (y:Kf):Ex×TSt:=(.exit 0,⟨0,63,[],[(0,.tv .bl f.2),(2,.p 20 [] 0),(3,.v 100050 y.1.length),(16,xb y.2)],[(20,.cell false (.tv (.ba 32) f.1)),(100050,.vec false 1 .bl (y.1:List UInt8))],false,[]⟩)
def qHv (N:Nat):List (Nat×qy):=[]
abbrev qcE:=List UInt8
def qwX:SP:=⟨0,63,[],[(0,.x .bl),(2,.k (.p 20 [] 0)),(3,.vs 100050)],[(20,.cell false (.x (.ba 32))),(100050,.vec false 1)],false,[]⟩
def qH9 (f:qhp) (v:qcE):TSt:=zw qwX [dv .bl v,dv (.ba 32) f.1,dv .bl f.2]
def qcS (N:Nat) (o_2_2:Vector UInt8 32) (s0_2:List UInt8) (v:qcE):Tree (qcE⊕Kf):=
 .chk ((64:Int)≠0) <|
 .cond (!decide ((((v.length:Nat):Int).tmod 64)=56)) (
 .chk (jx v.length v.length ((v++[(UInt8.ofNat 0)]).length) 1) <|
 .ret (.inl (v++[(UInt8.ofNat 0)]))) <|
 .ret (.inr (v,!decide ((((v.length:Nat):Int).tmod 64)=56)))
def qv9 (N n:Nat) (f:qhp) (v:qcE):Option Kf:=qQ (qcS N f.1 f.2) some n v
theorem qIL (N:Nat) (f:qhp) (n:Nat) (v:qcE) (y:Kf) (h:qv9 N n f v=some y):LG Tryz.prog Wo 78 (qL YB 2) (qH9 f v) (qcH f y):=
 zl qk (E:=qf9 N) (L:=qI (qHv N)) (st:=qcH f) (g:=some) (R:=qcH f) (qba N) (qq (by kernel_rfl) trivial) (rg0 (by kernel_rfl)) (fun v=>by kernel_rfl) (qU (st:=qcH f) fun y=>by rfl) (js0 rfl) n v y h
def qkI (N:Nat) (o_2_2:Vector UInt8 32) (s0_2:List UInt8) (o_2:List UInt8):Option Kf:=qv9 N N (o_2_2,s0_2) o_2
def quF (N:Nat):qy:=smL qwX [.bl,(.ba 32),.bl] Kf (fun x=>qkI N x.2.1 x.2.2.1 x.1) cs1 fun x=>qcH (x.2.1,x.2.2.1)
theorem qER (N:Nat):ji Tryz.prog Wo 78 (qL YB 2) (quF N):=zu fun x z h=>qIL N (x.2.1,x.2.2.1) N x.1 z h
abbrev qhk:=Vector UInt8 32×List UInt8
abbrev Kp:=List UInt8×Int×Bool
def qcJ (f:qhk) (y:Kp):Ex×TSt:=(.exit 2,⟨0,63,[],[(0,.tv .bl f.2),(2,.p 20 [] 0),(3,.v 100050 y.1.length),(20,xi y.2.1),(21,xb y.2.2)],[(20,.cell false (.tv (.ba 32) f.1)),(100050,.vec false 1 .bl (y.1:List UInt8))],false,[]⟩)
def qGK (N:Nat):List (Nat×qy):=[]
abbrev qc3:=List UInt8×Int
def qui:SP:=⟨0,63,[],[(0,.x .bl),(2,.k (.p 20 [] 0)),(3,.vs 100050),(20,.x (.i .i64))],[(20,.cell false (.x (.ba 32))),(100050,.vec false 1)],false,[]⟩
def qGA (f:qhk) (v:qc3):TSt:=zw qui [dv .bl v.1,dv (.ba 32) f.1,dv .bl f.2,dv (.i .i64) v.2]
def qgP (N:Nat) (o_5_2:Vector UInt8 32) (s0_5:List UInt8) (v:qc3):Tree (qc3⊕Kp):=
 .cond (decide (v.2 < ((8:Int)))) (
 let w1:Int:=IntKind.u64.wrap ((s0_5.length:Nat):Int)
 .chk (qj (((7:Int)) - v.2)) <|
 .chk (qj (((8:Int)) * (((7:Int)) - v.2))) <|
 .chk (0≤(((8:Int)) * (((7:Int)) - v.2))) <|
 let w2:Int:=Ji (ql9 .u64 w1 8) (min (((8:Int)) * (((7:Int)) - v.2)).toNat 64)
 .chk (inB (IntKind.u8.wrap w2)) <|
 .chk (jx v.1.length v.1.length ((v.1++[UInt8.ofNat (IntKind.u8.wrap w2).toNat]).length) 1) <|
 .chk (qj (v.2 + 1)) <|
 .ret (.inl (v.1++[UInt8.ofNat (IntKind.u8.wrap w2).toNat],v.2 + 1))) <|
 .ret (.inr (v.1,v.2,decide (v.2 < ((8:Int)))))
def qu3 (N n:Nat) (f:qhk) (v:qc3):Option Kp:=qQ (qgP N f.1 f.2) some n v
theorem qIf (N:Nat) (f:qhk) (n:Nat) (v:qc3) (y:Kp) (h:qu3 N n f v=some y):LG Tryz.prog Wo 78 (qL YB 5) (qGA f v) (qcJ f y):=
 zl qk (E:=qf9 N) (L:=qI (qGK N)) (st:=qcJ f) (g:=some) (R:=qcJ f) (qba N) (qq (by kernel_rfl) trivial) (rg0 (by kernel_rfl)) (fun v=>by kernel_rfl) (qU (st:=qcJ f) fun y=>by rfl) (js0 rfl) n v y h
def qrP (N:Nat) (o_5_2:Vector UInt8 32) (s0_5:List UInt8) (o_5:List UInt8) (s20_5:Int):Option Kp:=qu3 N N (o_5_2,s0_5) (o_5,s20_5)
def qu8 (N:Nat):qy:=smL qui [.bl,(.ba 32),.bl,(.i .i64)] Kp (fun x=>qrP N x.2.1 x.2.2.1 x.1 x.2.2.2.1) cs1 fun x=>qcJ (x.2.1,x.2.2.1)
theorem qEP (N:Nat):ji Tryz.prog Wo 78 (qL YB 5) (qu8 N):=zu fun x z h=>qIf N (x.2.1,x.2.2.1) N (x.1,x.2.2.2.1) z h
abbrev Z9:=List UInt8×Vector UInt8 32×Vector UInt32 8×Vector UInt32 64
abbrev Q2:=Unit⊕(Vector UInt32 8×List UInt8×Bool)
def Z_ (f:Z9):Q2→Ex×TSt
 | .inl y=>(.exit 4,⟨0,63,[],[(2,.p 20 [] 0),(3,.v 100050 f.1.length),(5,.p 50 [] 0),(6,.p 60 [] 0),(40,xb (decide (((0:Int)) < ((f.1.length:Nat):Int))))],[(20,.cell false (.tv (.ba 32) f.2.1)),(50,.cell false (.tv (.wa 8) f.2.2.1)),(60,.cell false (.tv (.wa 64) f.2.2.2)),(100050,.vec false 1 .bl f.1)],false,[]⟩)
 | .inr y=>(.exit 4,⟨0,63,[],[(2,.p 20 [] 0),(3,.tv .bl (y.2.1:List UInt8)),(5,.p 50 [] 0),(6,.p 60 [] 0),(40,xb y.2.2)],[(20,.cell false (.tv (.ba 32) f.2.1)),(50,.cell false (.tv (.wa 8) (y.1:Vector UInt32 8))),(60,.cell false (.tv (.wa 64) f.2.2.2))],false,[]⟩)
def qsL (N:Nat):List (Nat×qy):=[]
abbrev VL:=Vector UInt32 8×List UInt8
def qy2:SP:=⟨0,63,[],[(2,.k (.p 20 [] 0)),(3,.x .bl),(5,.k (.p 50 [] 0)),(6,.k (.p 60 [] 0))],[(20,.cell false (.x (.ba 32))),(50,.cell false (.x (.wa 8))),(60,.cell false (.x (.wa 64)))],false,[]⟩
def qlx (f:Z9) (v:VL):TSt:=zw qy2 [dv (.ba 32) f.2.1,dv (.wa 8) v.1,dv (.wa 64) f.2.2.2,dv .bl v.2]
def qaz (N:Nat) (o_10:List UInt8) (o_10_2:Vector UInt8 32) (o_10_3:Vector UInt32 8) (o_10_4:Vector UInt32 64) (v:VL):Tree (VL⊕Q2):=
 .cond (decide (((0:Int)) < ((v.2.length:Nat):Int))) (
 .chk (0≤(0:Int)∧(0:Int)≤(64:Int)∧(64:Int)≤((v.2.length:Nat):Int)) <|
 .bind (KC N v.1 o_10_4 ((v.2.take 64).drop 0)) fun r1=>
 .chk (0≤(64:Int)∧(64:Int)≤((v.2.length:Nat):Int)) <|
 .ret (.inl (r1,v.2.drop 64))) <|
 .ret (.inr (.inr ((v.1,v.2,decide (((0:Int)) < ((v.2.length:Nat):Int))))))
def qlV (N n:Nat) (f:Z9) (v:VL):Option Q2:=qQ (qaz N f.1 f.2.1 f.2.2.1 f.2.2.2) some n v
theorem qzc (N:Nat) (f:Z9) (n:Nat) (v:VL) (y:Q2) (h:qlV N n f v=some y):LG Tryz.prog Wo 78 (qL YB 10) (qlx f v) (Z_ f y):=
 zl qk (E:=qf9 N) (L:=qI (qsL N)) (st:=Z_ f) (g:=some) (R:=Z_ f) (qba N) (qq (by kernel_rfl) trivial) (rg0 (by kernel_rfl)) (fun v=>by kernel_rfl) (qU (st:=Z_ f) fun y=>by rcases y with _ | _<;>rfl) (js0 rfl) n v y h
abbrev qaP:=Unit
def qs7:SP:=⟨0,63,[],[(2,.k (.p 20 [] 0)),(3,.vs 100050),(5,.k (.p 50 [] 0)),(6,.k (.p 60 [] 0))],[(20,.cell false (.x (.ba 32))),(50,.cell false (.x (.wa 8))),(60,.cell false (.x (.wa 64))),(100050,.vec false 1)],false,[]⟩
def qFm (f:Z9) (v:qaP):TSt:=zw qs7 [dv .bl f.1,dv (.ba 32) f.2.1,dv (.wa 8) f.2.2.1,dv (.wa 64) f.2.2.2]
abbrev qjL:=VL⊕Q2
def qfq (N:Nat) (o_10:List UInt8) (o_10_2:Vector UInt8 32) (o_10_3:Vector UInt32 8) (o_10_4:Vector UInt32 64) (v:qaP):Tree (qaP⊕qjL):=
 .cond (decide (((0:Int)) < ((o_10.length:Nat):Int))) (
 .chk (0≤(0:Int)∧(0:Int)≤(64:Int)∧(64:Int)≤((o_10.length:Nat):Int)) <|
 .chk (o_10.length=o_10.length) <|
 .bind (KC N o_10_3 o_10_4 ((o_10.take 64).drop 0)) fun r1=>
 .chk (0≤(64:Int)∧(64:Int)≤((o_10.length:Nat):Int)) <|
 .chk (o_10.length=o_10.length) <|
 .ret (.inr (.inl (r1,o_10.drop 64)))) <|
 .ret (.inr (.inr ((.inl ()))))
def qjN (N n:Nat) (f:Z9):qjL→Option Q2
 | .inl w=>qlV N n f w
 | .inr w=>some w
def qFh (f:Z9):qjL→Ex×TSt
 | .inl w=>(.normal,qlx f w)
 | .inr w=>Z_ f w
def qsM (N n:Nat) (f:Z9) (v:qaP):Option Q2:=qQ (qfq N f.1 f.2.1 f.2.2.1 f.2.2.2) (qjN N n f) n v
theorem qFq (N:Nat) (f:Z9) (n:Nat) (v:qaP) (y:Q2) (h:qsM N n f v=some y):LG Tryz.prog Wo 78 (qL YB 10) (qFm f v) (Z_ f y):=
 zl qk (E:=qf9 N) (L:=qI (qsL N)) (st:=qFh f) (g:=(qjN N n f)) (R:=Z_ f) (qba N) (qq (by kernel_rfl) trivial) (rg0 (by kernel_rfl)) (fun v=>by kernel_rfl) (fun w y h=>by
 rcases w with w | w
 ·exact qzc N f n w y h
 ·exact qU (st:=Z_ f) (fun y=>by rcases y with _ | _<;>rfl) w y h
) (js0 rfl) n v y h
def qeq (N:Nat) (o_10:List UInt8) (o_10_2:Vector UInt8 32) (o_10_3:Vector UInt32 8) (o_10_4:Vector UInt32 64):Option Q2:=qsM N N (o_10,o_10_2,o_10_3,o_10_4) ()
def qsR (N:Nat):qy:=smL qs7 [.bl,(.ba 32),(.wa 8),(.wa 64)] Q2 (fun x=>qeq N x.1 x.2.1 x.2.2.1 x.2.2.2.1) (csS cs1) fun x=>Z_ (x.1,x.2.1,x.2.2.1,x.2.2.2.1)
theorem qC3 (N:Nat):ji Tryz.prog Wo 78 (qL YB 10) (qsR N):=zu fun x z h=>qFq N (x.1,x.2.1,x.2.2.1,x.2.2.2.1) N () z h
abbrev qfz:=Vector UInt8 32×Vector UInt32 8
abbrev W9:=Vector UInt8 32×Int×Bool
def qa1 (f:qfz) (y:W9):Ex×TSt:=(.exit 6,⟨0,63,[],[(2,.p 20 [] 0),(5,.p 50 [] 0),(7,.p 70 [] 0),(46,xi y.2.1),(47,xb y.2.2)],[(20,.cell false (.tv (.ba 32) f.1)),(50,.cell false (.tv (.wa 8) f.2)),(70,.cell false (.tv (.ba 32) (y.1:Vector UInt8 32)))],false,[]⟩)
def qFH (N:Nat):List (Nat×qy):=[]
abbrev qa0:=Vector UInt8 32×Int
def qs2:SP:=⟨0,63,[],[(2,.k (.p 20 [] 0)),(5,.k (.p 50 [] 0)),(7,.k (.p 70 [] 0)),(46,.x (.i .i64))],[(20,.cell false (.x (.ba 32))),(50,.cell false (.x (.wa 8))),(70,.cell false (.x (.ba 32)))],false,[]⟩
def qFE (f:qfz) (v:qa0):TSt:=zw qs2 [dv (.ba 32) f.1,dv (.wa 8) f.2,dv (.ba 32) v.1,dv (.i .i64) v.2]
def qfw (N:Nat) (o_15:Vector UInt8 32) (o_15_2:Vector UInt32 8) (v:qa0):Tree (qa0⊕W9):=
 .cond (decide (v.2 < ((32:Int)))) (
 .chk ((4:Int)≠0) <|
 .chk (qj (v.2.tdiv 4)) <|
 .chk (0≤(v.2.tdiv 4)∧(v.2.tdiv 4) < ((8:Nat):Int)) <|
 .chk ((v.2.tdiv 4).toNat < 8) <|
 .chk ((4:Int)≠0) <|
 .chk (qj (((8:Int)) * (v.2.tmod 4))) <|
 .chk (qj (((24:Int)) - (((8:Int)) * (v.2.tmod 4)))) <|
 .chk (0≤(((24:Int)) - (((8:Int)) * (v.2.tmod 4)))) <|
 let w1:Int:=Ji (((o_15_2.toList.getD ((v.2.tdiv 4).toNat) 0).toNat:Nat):Int) (min (((24:Int)) - (((8:Int)) * (v.2.tmod 4))).toNat 32)
 .chk (0≤v.2∧v.2 < ((32:Nat):Int)) <|
 .chk (inB (IntKind.u8.wrap w1)) <|
 .chk (v.2.toNat < 32) <|
 .chk (qj (v.2 + 1)) <|
 .ret (.inl (v.1.setIfInBounds v.2.toNat (UInt8.ofNat (IntKind.u8.wrap w1).toNat),v.2 + 1))) <|
 .ret (.inr (v.1,v.2,decide (v.2 < ((32:Int)))))
def qsS (N n:Nat) (f:qfz) (v:qa0):Option W9:=qQ (qfw N f.1 f.2) some n v
theorem qFF (N:Nat) (f:qfz) (n:Nat) (v:qa0) (y:W9) (h:qsS N n f v=some y):LG Tryz.prog Wo 78 (qL YB 15) (qFE f v) (qa1 f y):=
 zl qk (E:=qf9 N) (L:=qI (qFH N)) (st:=qa1 f) (g:=some) (R:=qa1 f) (qba N) (qq (by kernel_rfl) trivial) (rg0 (by kernel_rfl)) (fun v=>by kernel_rfl) (qU (st:=qa1 f) fun y=>by rfl) (js0 rfl) n v y h
def qiH (N:Nat) (o_15:Vector UInt8 32) (o_15_2:Vector UInt32 8) (o_15_3:Vector UInt8 32) (s46_15:Int):Option W9:=qsS N N (o_15,o_15_2) (o_15_3,s46_15)
def qsU (N:Nat):qy:=smL qs2 [(.ba 32),(.wa 8),(.ba 32),(.i .i64)] W9 (fun x=>qiH N x.1 x.2.1 x.2.2.1 x.2.2.2.1) cs1 fun x=>qa1 (x.1,x.2.1)
theorem qDc (N:Nat):ji Tryz.prog Wo 78 (qL YB 15) (qsU N):=zu fun x z h=>qFF N (x.1,x.2.1) N (x.2.2.1,x.2.2.2.1) z h
def qwh (z:Vector UInt8 32):TV×THp:=(.tv (.ba 32) z,[])
def quI (N:Nat) (a0:List UInt8):Tree (Vector UInt8 32):=
 .bind (Ko a0) fun r1=>
 .chk (jx (((([]:List UInt8))++a0).length) (((([]:List UInt8))++a0).length) ((((([]:List UInt8))++a0)++[(UInt8.ofNat 128)]).length) 1) <|
 .bind (ju [((((([]:List UInt8))++a0)++[(UInt8.ofNat 128)]).length,(((([]:List UInt8))++a0)++[(UInt8.ofNat 128)]).length)] (qkI N ((Vector.replicate 32 0)) a0 (((([]:List UInt8))++a0)++[(UInt8.ofNat 128)]))) fun z2=>
 .bind (ju [(z2.1.length,z2.1.length)] (qrP N ((Vector.replicate 32 0)) a0 z2.1 0)) fun z3=>
 .bind (qwT) fun r4=>
 .bind (qvF) fun r5=>
 .bind (ju [(z3.1.length,z3.1.length)] (qeq N z3.1 ((Vector.replicate 32 0)) ((((((((((Vector.replicate 8 0)).setIfInBounds 0 ((UInt32.ofNat 1779033703))).setIfInBounds 1 ((UInt32.ofNat 3144134277))).setIfInBounds 2 ((UInt32.ofNat 1013904242))).setIfInBounds 3 ((UInt32.ofNat 2773480762))).setIfInBounds 4 ((UInt32.ofNat 1359893119))).setIfInBounds 5 ((UInt32.ofNat 2600822924))).setIfInBounds 6 ((UInt32.ofNat 528734635))).setIfInBounds 7 ((UInt32.ofNat 1541459225))) ((((((((((((((((((((((((((((((((((((((((((((((((((((((((((((((((((Vector.replicate 64 0)).setIfInBounds 0 ((UInt32.ofNat 1116352408))).setIfInBounds 1 ((UInt32.ofNat 1899447441))).setIfInBounds 2 ((UInt32.ofNat 3049323471))).setIfInBounds 3 ((UInt32.ofNat 3921009573))).setIfInBounds 4 ((UInt32.ofNat 961987163))).setIfInBounds 5 ((UInt32.ofNat 1508970993))).setIfInBounds 6 ((UInt32.ofNat 2453635748))).setIfInBounds 7 ((UInt32.ofNat 2870763221))).setIfInBounds 8 ((UInt32.ofNat 3624381080))).setIfInBounds 9 ((UInt32.ofNat 310598401))).setIfInBounds 10 ((UInt32.ofNat 607225278))).setIfInBounds 11 ((UInt32.ofNat 1426881987))).setIfInBounds 12 ((UInt32.ofNat 1925078388))).setIfInBounds 13 ((UInt32.ofNat 2162078206))).setIfInBounds 14 ((UInt32.ofNat 2614888103))).setIfInBounds 15 ((UInt32.ofNat 3248222580))).setIfInBounds 16 ((UInt32.ofNat 3835390401))).setIfInBounds 17 ((UInt32.ofNat 4022224774))).setIfInBounds 18 ((UInt32.ofNat 264347078))).setIfInBounds 19 ((UInt32.ofNat 604807628))).setIfInBounds 20 ((UInt32.ofNat 770255983))).setIfInBounds 21 ((UInt32.ofNat 1249150122))).setIfInBounds 22 ((UInt32.ofNat 1555081692))).setIfInBounds 23 ((UInt32.ofNat 1996064986))).setIfInBounds 24 ((UInt32.ofNat 2554220882))).setIfInBounds 25 ((UInt32.ofNat 2821834349))).setIfInBounds 26 ((UInt32.ofNat 2952996808))).setIfInBounds 27 ((UInt32.ofNat 3210313671))).setIfInBounds 28 ((UInt32.ofNat 3336571891))).setIfInBounds 29 ((UInt32.ofNat 3584528711))).setIfInBounds 30 ((UInt32.ofNat 113926993))).setIfInBounds 31 ((UInt32.ofNat 338241895))).setIfInBounds 32 ((UInt32.ofNat 666307205))).setIfInBounds 33 ((UInt32.ofNat 773529912))).setIfInBounds 34 ((UInt32.ofNat 1294757372))).setIfInBounds 35 ((UInt32.ofNat 1396182291))).setIfInBounds 36 ((UInt32.ofNat 1695183700))).setIfInBounds 37 ((UInt32.ofNat 1986661051))).setIfInBounds 38 ((UInt32.ofNat 2177026350))).setIfInBounds 39 ((UInt32.ofNat 2456956037))).setIfInBounds 40 ((UInt32.ofNat 2730485921))).setIfInBounds 41 ((UInt32.ofNat 2820302411))).setIfInBounds 42 ((UInt32.ofNat 3259730800))).setIfInBounds 43 ((UInt32.ofNat 3345764771))).setIfInBounds 44 ((UInt32.ofNat 3516065817))).setIfInBounds 45 ((UInt32.ofNat 3600352804))).setIfInBounds 46 ((UInt32.ofNat 4094571909))).setIfInBounds 47 ((UInt32.ofNat 275423344))).setIfInBounds 48 ((UInt32.ofNat 430227734))).setIfInBounds 49 ((UInt32.ofNat 506948616))).setIfInBounds 50 ((UInt32.ofNat 659060556))).setIfInBounds 51 ((UInt32.ofNat 883997877))).setIfInBounds 52 ((UInt32.ofNat 958139571))).setIfInBounds 53 ((UInt32.ofNat 1322822218))).setIfInBounds 54 ((UInt32.ofNat 1537002063))).setIfInBounds 55 ((UInt32.ofNat 1747873779))).setIfInBounds 56 ((UInt32.ofNat 1955562222))).setIfInBounds 57 ((UInt32.ofNat 2024104815))).setIfInBounds 58 ((UInt32.ofNat 2227730452))).setIfInBounds 59 ((UInt32.ofNat 2361852424))).setIfInBounds 60 ((UInt32.ofNat 2428436474))).setIfInBounds 61 ((UInt32.ofNat 2756734187))).setIfInBounds 62 ((UInt32.ofNat 3204031479))).setIfInBounds 63 ((UInt32.ofNat 3329325298))))) fun z6=>
 .sum z6 (fun z7=>
 .bind (qiH N ((Vector.replicate 32 0)) ((((((((((Vector.replicate 8 0)).setIfInBounds 0 ((UInt32.ofNat 1779033703))).setIfInBounds 1 ((UInt32.ofNat 3144134277))).setIfInBounds 2 ((UInt32.ofNat 1013904242))).setIfInBounds 3 ((UInt32.ofNat 2773480762))).setIfInBounds 4 ((UInt32.ofNat 1359893119))).setIfInBounds 5 ((UInt32.ofNat 2600822924))).setIfInBounds 6 ((UInt32.ofNat 528734635))).setIfInBounds 7 ((UInt32.ofNat 1541459225))) ((Vector.replicate 32 0)) 0) fun z8=>
 .ret z8.1) fun z7=>
 .bind (qiH N ((Vector.replicate 32 0)) z7.1 ((Vector.replicate 32 0)) 0) fun z8=>
 .ret z8.1
def qk8 (N:Nat) (a0:List UInt8):Option (Vector UInt8 32):=(quI N a0).run some
def qPm (N:Nat):List (Nat×qy):=[(2,quF N),(5,qu8 N),(10,qsR N),(15,qsU N)]
def qD7 (N:Nat):Ent:=smF ⟨78,[],[.x .bl],[],[]⟩ [.bl] (Vector UInt8 32) (fun x=>qk8 N x.1) cs1 fun _=>qwh
theorem qI5 (N:Nat):qiM Tryz.prog ⟨78,[],[.x .bl],[],[]⟩ [.bl] (fun x=>quI N x.1) (fun _=>qwh):=
 qen (H:=Wo) (L:=qI (qPm N)) 0 qTv (qba N) (qq (by kernel_rfl) ⟨qER N,qEP N,qC3 N,qDc N,trivial⟩) (rg0 (by kernel_rfl)) fun x=>by kernel_rfl
theorem qB4 (N:Nat):q_ Tryz.prog (qD7 N):=qiZ (qI5 N)
noncomputable def qOH:Code:=Tryz.f117.body.getD .skip
theorem qOc:FnF Tryz.prog 117 Tryz.f117 qOH:=⟨qk,by kernel_rfl,by kernel_rfl,by kernel_rfl⟩
def qMB:TH:={ live:=[(0,[0,1,2]),(1,[6])],dec:=[10] }
def qMt (N:Nat):List Ent:=[]
theorem qGt (N:Nat):qO Tryz.prog (qMt N):=trivial
def qMh (z:Bool):TV×THp:=(xb z,[])
def qrG (a0:Int) (a1:Int) (a2:Int):Tree (Bool):=
 .cond (decide (a1≤a0)) (
 .ret (decide (a0≤a2))) <|
 .ret false
def qid (a0:Int) (a1:Int) (a2:Int):Option (Bool):=(qrG a0 a1 a2).run some
def qMC:List (Nat×qy):=[]
def qCp:Ent:=smF ⟨117,[],[.x (.i .i64),.x (.i .i64),.x (.i .i64)],[],[]⟩ [(.i .i64),(.i .i64),(.i .i64)] (Bool) (fun x=>qid x.1 x.2.1 x.2.2.1) cs1 fun _=>qMh
theorem qI3:q_ Tryz.prog (qCp):=
 q8 (H:=qMB) (L:=qI (qMC)) (ts:=[(.i .i64),(.i .i64),(.i .i64)]) (T:=fun x=>qrG x.1 x.2.1 x.2.2.1) 0 qOc (qGt 0) (qq (by kernel_rfl) trivial) (rg0 (by kernel_rfl)) fun x=>by kernel_rfl
noncomputable def qRS:Code:=Tryz.f90.body.getD .skip
theorem qRG:FnF Tryz.prog 90 Tryz.f90 qRS:=⟨qk,by kernel_rfl,by kernel_rfl,by kernel_rfl⟩
def qKf:TH:={ live:=[(0,[1]),(1,[1,4]),(2,[2]),(3,[2])],dec:=[8,13,23] }
def qJ1 (N:Nat):List Ent:=[qCp]
theorem qFd (N:Nat):qO Tryz.prog (qJ1 N):=⟨qI3,trivial⟩
def qJA (z:Bool):TV×THp:=(xb z,[])
def qnR (a0:qb):Tree (Bool):=
 .cond (qb.zV a0) (
 .bind (qid (qb.zm a0) 0 200) fun r1=>
 .cond r1 (
 .bind (qid (qb.Len a0) 1 200) fun r2=>
 .cond r2 (
 .ret (decide ((qb.Lit a0)=[]))) <|
 .ret false) <|
 .ret false) <|
 .cond (eqE qw a0 (qb.mk false 0 0 (qb.Lit a0))) (
 .bind (qid (((qb.Lit a0).length:Nat):Int) 1 200) fun r1=>
 .ret r1) <|
 .ret false
def qmU (a0:qb):Option (Bool):=(qnR a0).run some
def qJy:List (Nat×qy):=[]
def qyD:Ent:=smF ⟨90,[],[.x qw],[],[]⟩ [qw] (Bool) (fun x=>qmU x.1) cs1 fun _=>qJA
theorem qHL:q_ Tryz.prog (qyD):=
 q8 (H:=qKf) (L:=qI (qJy)) (ts:=[qw]) (T:=fun x=>qnR x.1) 0 qRG (qFd 0) (qq (by kernel_rfl) trivial) (rg0 (by kernel_rfl)) fun x=>by kernel_rfl
noncomputable def qzY:Code:=Tryz.f62.body.getD .skip
theorem qSW:FnF Tryz.prog 62 Tryz.f62 qzY:=⟨qk,by kernel_rfl,by kernel_rfl,by kernel_rfl⟩
def qoK:TH:={ live:=[(0,[0]),(1,[0,3]),(2,[0,3,6,7,8]),(3,[0,3,6,7,8,9]),(4,[0,3,5,6,7,8]),(5,[0,3,5,6,7,8,14]),(6,[2]),(7,[0,3,6,7,8]),(8,[0,3,6,7,8]),(9,[2])],dec:=[27] }
def qyB (N:Nat):List Ent:=[qyD]
theorem qs4 (N:Nat):qO Tryz.prog (qyB N):=⟨qHL,trivial⟩
abbrev qdA:=List qb×List qb×Int
abbrev Wr:=Unit⊕(Int×Int×Bool)
def Kw (f:qdA):Wr→Ex×TSt
 | .inl y=>(.ret,⟨0,31,[],[(2,.bc false)],[],false,[]⟩)
 | .inr y=>(.exit 0,⟨0,31,[],[(0,.tv (.sl 4 qw) f.1),(3,xi y.1),(6,.tv (.sl 4 qw) f.2.1),(7,xi f.2.2),(8,xi y.2.1),(9,xb y.2.2)],[],false,[]⟩)
def qDJ (N:Nat):List (Nat×qy):=[]
abbrev Kb:=Int×Int
def qpP:SP:=⟨0,31,[],[(0,.x (.sl 4 qw)),(3,.x (.i .i64)),(6,.x (.sl 4 qw)),(7,.x (.i .i64)),(8,.x (.i .i64))],[],false,[]⟩
def qDm (f:qdA) (v:Kb):TSt:=zw qpP [dv (.sl 4 qw) f.1,dv (.i .i64) v.1,dv (.sl 4 qw) f.2.1,dv (.i .i64) f.2.2,dv (.i .i64) v.2]
def qdz (N:Nat) (s0_3:List qb) (s6_3:List qb) (s7_3:Int) (v:Kb):Tree (Kb⊕Wr):=
 .cond (decide (v.2 < s7_3)) (
 .bind (qP s6_3 v.2) fun e1=>
 .bind (qmU e1) fun r2=>
 .cond (!r2) (
 .ret (.inr (.inl ()))) <|
 .chk (qj ((qb.Len e1) + (((qb.Lit e1).length:Nat):Int))) <|
 .chk (qj (v.1 + ((qb.Len e1) + (((qb.Lit e1).length:Nat):Int)))) <|
 .chk (qj (v.2 + 1)) <|
 .ret (.inl (v.1 + ((qb.Len e1) + (((qb.Lit e1).length:Nat):Int)),v.2 + 1))) <|
 .ret (.inr (.inr ((v.1,v.2,decide (v.2 < s7_3)))))
def qp8 (N n:Nat) (f:qdA) (v:Kb):Option Wr:=qQ (qdz N f.1 f.2.1 f.2.2) some n v
theorem qCJ (N:Nat) (f:qdA) (n:Nat) (v:Kb) (y:Wr) (h:qp8 N n f v=some y):LG Tryz.prog qoK 62 (qL qzY 3) (qDm f v) (Kw f y):=
 zl qk (E:=qyB N) (L:=qI (qDJ N)) (st:=Kw f) (g:=some) (R:=Kw f) (qs4 N) (qq (by kernel_rfl) trivial) (rg0 (by kernel_rfl)) (fun v=>by kernel_rfl) (qU (st:=Kw f) fun y=>by rcases y with _ | _<;>rfl) (js0 rfl) n v y h
def qlI (N:Nat) (s0_3:List qb) (s6_3:List qb) (s7_3:Int) (s3_3:Int) (s8_3:Int):Option Wr:=qp8 N N (s0_3,s6_3,s7_3) (s3_3,s8_3)
def qpt (N:Nat):qy:=smL qpP [(.sl 4 qw),(.i .i64),(.sl 4 qw),(.i .i64),(.i .i64)] Wr (fun x=>qlI N x.1 x.2.2.1 x.2.2.2.1 x.2.1 x.2.2.2.2.1) (csS cs1) fun x=>Kw (x.1,x.2.2.1,x.2.2.2.1)
theorem qA8 (N:Nat):ji Tryz.prog qoK 62 (qL qzY 3) (qpt N):=zu fun x z h=>qCJ N (x.1,x.2.2.1,x.2.2.2.1) N (x.2.1,x.2.2.2.2.1) z h
def qyo (z:Bool):TV×THp:=(xb z,[])
def qph (N:Nat) (a0:List qb):Tree (Bool):=
 .bind (qlI N a0 a0 ((a0.length:Nat):Int) 0 0) fun z1=>
 .sum z1 (fun z2=>
 .ret false) fun z2=>
 .cond (decide (((a0.length:Nat):Int)≤((60:Int)))) (
 .ret (decide (z2.1≤200))) <|
 .ret false
def Wp (N:Nat) (a0:List qb):Option (Bool):=(qph N a0).run some
def qJ9 (N:Nat):List (Nat×qy):=[(3,qpt N)]
def qyI (N:Nat):Ent:=smF ⟨62,[],[.x (.sl 4 qw)],[],[]⟩ [(.sl 4 qw)] (Bool) (fun x=>Wp N x.1) cs1 fun _=>qyo
theorem qs0 (N:Nat):qiM Tryz.prog ⟨62,[],[.x (.sl 4 qw)],[],[]⟩ [(.sl 4 qw)] (fun x=>qph N x.1) (fun _=>qyo):=
 qen (H:=qoK) (L:=qI (qJ9 N)) 0 qSW (qs4 N) (qq (by kernel_rfl) ⟨qA8 N,trivial⟩) (rg0 (by kernel_rfl)) fun x=>by kernel_rfl
theorem qGe (N:Nat):q_ Tryz.prog (qyI N):=qiZ (qs0 N)
end Go.Rx
end
set_option maxRecDepth 100000
noncomputable section
namespace Go.Rx
open Go.Proofs
def dg0:Vector UInt8 32:=#v[227,176,196,66,152,252,28,20,154,251,244,200,153,111,185,36,39,174,65,228,100,155,147,76,164,149,153,27,120,82,184,85]
theorem qVZ:qk8 300 []=some dg0:=by kernel_rfl
def qVm:List (List UInt8×Vector UInt8 32):=[([],dg0)]
theorem qUL:qMR (qk8 300) qVm:=⟨qVZ,trivial⟩
def qIv:Ent:=smF ⟨78,[],[.x .bl],[],[]⟩ [.bl] (Vector UInt8 32) (fun x=>qGN qVm x.1) cs1 fun _=>qwh
theorem qUu:q_ Tryz.prog qIv:=qVz (qB4 300) fun x z h=>qKM qUL x.1 z h
end Go.Rx
end
set_option maxRecDepth 100000
noncomputable section
namespace Go.Rx
open Go.Proofs
def qUP:List (Nat×TH):=[(11,{ live:=[(1,[1]),(2,[1,2,3]),(3,[1,2,3,4,5,6]),(4,[1,2,3,4,5,6,7,8]),(5,[1,2,3,4,5,6,7,8,9]),(6,[1,2,3,4,5,6,7,8,9,10,11]),(7,[0])],dec:=[44,49,52,56,61,65,71,75,81,85],rd:=[(1,[1]),(3,[4]),(4,[7]),(5,[9]),(6,[10])] }),
 (13,{ live:=[(0,[1]),(1,[1,12]),(2,[2,3]),(3,[1,4]),(4,[1,6]),(5,[1,6,7]),(6,[1,6,7,32]),(7,[1,6,7,32,33]),(8,[6]),(9,[1,6,7,32,43]),(10,[6]),(11,[1,6,7,58]),(12,[1,6,7,8]),(13,[6]),(14,[2,3])],rd:=[(0,[1])] }),
 (15,{ live:=[(0,[0,2]),(1,[0,2,5]),(2,[0,2,5,6]),(3,[0,2,5,6,7,8,9]),(4,[0,2,5,6,7]),(5,[0,2,5,6]),(6,[0,2,5,6,41]),(7,[0,2,5,6]),(8,[0,2,5,6,46]),(9,[0,2,5,6,46,47]),(10,[0,2,5,6,10,11,12]),(11,[0,2,5,6,10]),(12,[0,2,5,6]),(13,[0,2,5,6,46,64]),(14,[0,2,5,6]),(15,[0,2,5,6,75]),(16,[0,2,5,6,13,14,15]),(17,[0,2,5,6,13]),(18,[0,2,5,6]),(19,[0,2,5,6,103]),(20,[2,3,4]),(21,[2,3,4])],dec:=[99],rd:=[(3,[7])] }),
 (19,{ live:=[(0,[1]),(1,[1,23]),(2,[2]),(3,[2])],dec:=[6,11,18,27,32,37,43] }),
 (20,{ live:=[(0,[2,3]),(1,[2,3,5]),(2,[4])],dec:=[11,18,25,33,40,47,54,61] }),
 (21,{ live:=[(0,[1]),(1,[3]),(2,[2])] }),
 (24,{ live:=[(0,[2,3,4]),(1,[2,3,4,17]),(2,[4,5]),(3,[2,3,4,6]),(4,[2,3,4,7]),(5,[2,3,4,7,25]),(6,[4,5]),(7,[2,3,4,8,9]),(8,[2,3,4,8,9,44]),(9,[4,5]),(10,[4,5])],dec:=[13,21],rd:=[(3,[6])] }),
 (27,{ live:=[(0,[2,3,4]),(1,[2,4,6]),(2,[2,4,6,12]),(3,[4,5]),(4,[4,5])] }),
 (28,{ live:=[(0,[2,3,4]),(1,[2,4,6]),(2,[2,4,6,12]),(3,[4,5]),(4,[4,5])] }),
 (29,{ live:=[(0,[0,2]),(1,[2])] }),
 (30,{ live:=[(0,[1]),(1,[1,6,7,8]),(2,[1,6,7,8,9]),(3,[1,3,4,6,7,8]),(4,[1,6,7,8,32]),(5,[2]),(6,[1,6,7,8]),(7,[2])],dec:=[16,19],rd:=[(3,[4])] }),
 (33,{ live:=[(0,[1]),(1,[1,6]),(2,[2,3]),(3,[2,3])],fresh:=[15],esc:=true }),
 (34,{ live:=[(0,[0]),(1,[0,3]),(2,[0,3,9,10,11]),(3,[0,3,9,10,11,12]),(4,[0,3,5,9,10,11]),(5,[0,3,9,10,11]),(6,[0,3,9,10,11,20]),(7,[0,3,9,10,11]),(8,[0,3,9,10,11]),(9,[0,6]),(10,[6,25,26,27]),(11,[6,25,26,27,28]),(12,[6,8,25,26,27]),(13,[6,25,26,27]),(14,[6,25,26,27]),(15,[2])],raw:=[85],fresh:=[24] }),
 (35,{ live:=[(0,[0]),(1,[2])],fresh:=[6],esc:=true }),
 (36,{ live:=[(0,[0]),(1,[0,9]),(2,[2,3]),(3,[0,4]),(4,[4,14,15,16]),(5,[4,14,15,16,17]),(6,[4,6,14,15,16]),(7,[4,6,14,15,16,21]),(8,[4,14,15,16]),(9,[4,14,15,16]),(10,[4,14,15,16]),(11,[2,3])],rd:=[(6,[6])] }),
 (42,{ live:=[(0,[0]),(1,[2])] }),
 (43,{ live:=[(0,[0,2]),(1,[2])] }),
 (44,{ live:=[(0,[0,2]),(1,[2,5,6,7]),(2,[2,6,7,8]),(3,[2,6,8,28]),(4,[2,3,4]),(5,[2,3,4])],dec:=[24],rd:=[(2,[8])] }),
 (45,{ live:=[(0,[0,1,2]),(1,[0,1]),(2,[0,1,31]),(3,[6]),(4,[0,1,7]),(5,[7]),(6,[6])],dec:=[13,17] }),
 (46,{ live:=[(0,[0,1]),(1,[0,1,7,8,9]),(2,[1,7,8,9,10]),(3,[7,8,10,33]),(4,[4,5,6]),(5,[4,5,6])],dec:=[21,25] }),
 (47,{ live:=[(0,[0,2]),(1,[2])] }),
 (48,{ live:=[(0,[0]),(1,[0,5,6,7]),(2,[0,5,6,23]),(3,[2,3,4]),(4,[0,5,6,8]),(5,[0,6,8,24,25]),(6,[0,6,8,24,25,26]),(7,[0,6,8,9,10,11,24,25]),(8,[0,6,8,9,10,24,25,36]),(9,[2,3,4]),(10,[0,6,8,10,24,25]),(11,[0,6,8,24,25]),(12,[0,6,8,24,25]),(13,[6,8,47]),(14,[2,3,4]),(15,[2,3,4])],dec:=[20],rd:=[(7,[9])] }),
 (59,{ live:=[(0,[1,2]),(1,[1,2,3]),(2,[1,2,3,12]),(3,[1,2,3,12,13]),(4,[2,3]),(5,[1,2,3,12,21]),(6,[2,3]),(7,[1,2,3,35]),(8,[2,3]),(9,[2])] }),
 (60,{ live:=[(0,[1]),(1,[2])],dec:=[6,10,15,20] }),
 (61,{ live:=[(0,[0]),(1,[2])],dec:=[5] }),
 (62,{ live:=[(0,[0]),(1,[0,3]),(2,[0,3,6,7,8]),(3,[0,3,6,7,8,9]),(4,[0,3,5,6,7,8]),(5,[0,3,5,6,7,8,14]),(6,[2]),(7,[0,3,6,7,8]),(8,[0,3,6,7,8]),(9,[2])],dec:=[27],rd:=[(4,[5])] }),
 (63,{ live:=[(0,[0,1]),(1,[4])] }),
 (65,{ live:=[(0,[1]),(1,[2,3])] }),
 (66,{ live:=[(0,[1]),(1,[2,3])] }),
 (67,{ live:=[(0,[1]),(1,[1,4,5]),(2,[1,4,5,20]),(3,[2,3]),(4,[1,6,7]),(5,[1,6,31]),(6,[2,3]),(7,[2,3])] }),
 (68,{ live:=[(0,[2,3,4]),(1,[2,3,4,6]),(2,[2,3,4,6,39]),(3,[4,5]),(4,[2,4,47,48,49]),(5,[2,4,47,48,49,50]),(6,[2,4,8,47,48,49]),(7,[2,4,8,47,48,49,54]),(8,[2,4,9,10,47,48,49]),(9,[2,4,9,10,47,48,49,64]),(10,[4,5]),(11,[2,4,47,48,49]),(12,[2,4,47,48,49]),(13,[4,5])],dec:=[19,23,29,34],rd:=[(1,[6]),(6,[8]),(8,[9])] }),
 (73,{ live:=[(0,[0,1]),(1,[0,1,7,8]),(2,[0,1,7,8,9]),(3,[0,1,5,7,8]),(4,[0,1,5,7,8,16]),(5,[4]),(6,[0,1,7,8]),(7,[4])] }),
 (74,{ live:=[(0,[1,2]),(1,[3])] }),
 (75,{ live:=[(0,[1,2]),(1,[1,2]),(2,[2])] }),
 (76,{ live:=[(0,[0,1]),(1,[0,1,7,8]),(2,[0,1,7,8,9]),(3,[0,1,5,7,8]),(4,[0,1,5,7,8,16]),(5,[4]),(6,[0,1,7,8]),(7,[4])] }),
 (77,{ live:=[(0,[1,2]),(1,[3])] }),
 (78,{ live:=[(0,[0,2]),(1,[0,2,3]),(2,[0,2,3,16]),(3,[0,2,3]),(4,[0,2,3,20]),(5,[0,2,3,20,21]),(6,[0,2,3,4,20]),(7,[0,2,3,20]),(8,[0,2,3,20]),(9,[2,3,5,6]),(10,[2,3,5,6,40]),(11,[2,3,5,6]),(12,[2,3,5,6]),(13,[2,5,7]),(14,[2,5,7,46]),(15,[2,5,7,46,47]),(16,[2,5,7,8,46]),(17,[2,5,7,46]),(18,[2,5,7,46]),(19,[2])],fresh:=[10] }),
 (79,{ live:=[(0,[1]),(1,[1,21]),(2,[2]),(3,[1,23,24,25]),(4,[1,23,24,25,26]),(5,[1,3,4,23,24,25]),(6,[1,4,5,23,24,25]),(7,[1,23,24,25,74]),(8,[2]),(9,[1,23,24,25]),(10,[2])],dec:=[10,15,32,37,40,55,60,66],rd:=[(5,[4])] }),
 (80,{ live:=[(0,[2,3]),(1,[4])],dec:=[8] }),
 (83,{ live:=[(0,[2,3,4]),(1,[2,3,4,22]),(2,[4,5]),(3,[2,3,4,6]),(4,[2,3,4,6,7]),(5,[4,6,7,30,31,32]),(6,[4,6,7,30,31,32,33]),(7,[4,6,7,9,30,31,32]),(8,[4,6,7,9,10,11,30,31,32]),(9,[4,6,7,9,10,30,31,32,44]),(10,[4,6,7,9,30,31,32]),(11,[4,6,7,30,31,32]),(12,[4,6,7,30,31,32]),(13,[4,6,7,30,31,32]),(14,[4,6,7,67]),(15,[4,5]),(16,[4,6,7]),(17,[4,6,7,12]),(18,[4,6,12,71,72,73]),(19,[4,6,12,71,72,73,74]),(20,[4,6,12,14,71,72,73]),(21,[4,6,12,71,72,73]),(22,[4,6,12,71,72,73]),(23,[4,5])],dec:=[18],rd:=[(7,[9]),(8,[10]),(20,[14])] }),
 (84,{ live:=[(0,[0]),(1,[0,3]),(2,[0,3,4]),(3,[0,3,4,10,11]),(4,[0,3,4,10,11,12]),(5,[0,3,4,5,10,11]),(6,[0,3,4,10,11]),(7,[0,3,4,10,11]),(8,[4]),(9,[2])],esc:=true }),
 (85,{ live:=[(0,[0,1]),(1,[0,1,6]),(2,[0,1]),(3,[0,1]),(4,[0,1,16]),(5,[0]),(6,[4])],esc:=true,nil:=[(5,[⟨.sl 0,900000850,.bl⟩])] }),
 (87,{ live:=[(0,[0]),(1,[0,5]),(2,[0,5,6]),(3,[5,6,9,10,11]),(4,[5,6,9,10,11,12]),(5,[5,6,7,8,9,10,11]),(6,[5,6,7,8,9,10,11,16]),(7,[5,6,7,8,9,10,11,16]),(8,[5,6,7,8,9,10,11,16]),(9,[5,6,7,8,9,10,11]),(10,[5,6,7,9,10,11,39]),(11,[5,6]),(12,[5,6,9,10,11]),(13,[5,6,44]),(14,[2,3,4]),(15,[2,3,4])],dec:=[21,28] }),
 (88,{ live:=[(0,[0,2]),(1,[0,2,5]),(2,[0,2,5,15]),(3,[2,3,4]),(4,[0,2,5,26]),(5,[2,6,7,8]),(6,[2,3,4]),(7,[0,2,5,9,10,11]),(8,[2,5,9,10,11,12,13,14]),(9,[2,5,9,10,12,13,72]),(10,[2,3,4]),(11,[2,3,4])],dec:=[19,61,65,69] }),
 (90,{ live:=[(0,[1]),(1,[1,4]),(2,[2]),(3,[2])],dec:=[8,13,23] }),
 (91,{ live:=[(0,[0,1]),(1,[0,1,10]),(2,[4]),(3,[0,1,12,13]),(4,[0,1,12,13,14]),(5,[0,1,5,12,13]),(6,[0,1,12,13,24]),(7,[4]),(8,[0,1,12,13]),(9,[4])] }),
 (92,{ live:=[(0,[1,2,3]),(1,[1,2,17]),(2,[6,7]),(3,[6,7])],dec:=[10] }),
 (93,{ live:=[(0,[2,3,4]),(1,[2,8]),(2,[10,11]),(3,[10,26]),(4,[6,7]),(5,[6,7])],rd:=[(1,[8]),(2,[10])] }),
 (94,{ live:=[(0,[0,1]),(1,[0,1,11]),(2,[4,5]),(3,[0,1,6]),(4,[0,6,12,13,14]),(5,[0,6,12,13,14,15]),(6,[0,6,8,12,13,14]),(7,[0,6,8,12,13,14,29]),(8,[4,5]),(9,[0,6,8,12,13,14]),(10,[0,6,8,12,13,14,34]),(11,[0,6,12,13,14]),(12,[0,6,12,13,14]),(13,[4,5])],dec:=[20],rd:=[(6,[8])] }),
 (95,{ live:=[(0,[1]),(1,[2])],dec:=[7] }),
 (103,{ live:=[(0,[0]),(1,[0,4]),(2,[2]),(3,[2])],vecs:=[5],esc:=true }),
 (104,{ live:=[(0,[0]),(1,[0,4]),(2,[2]),(3,[2])],vecs:=[5],esc:=true }),
 (105,{ live:=[(0,[0]),(1,[0])] }),
 (106,{ live:=[(0,[0]),(1,[0])] }),
 (107,{ live:=[(0,[0,2,6]),(1,[0,2,6,7]),(2,[0,2,6,7,19]),(3,[0,2,6,7,19,20]),(4,[0,2,6,7,8,19]),(5,[0,2,6,7,8,9,10,19]),(6,[0,2,6,7,9,11,19]),(7,[0,2,6,7,11,12,19]),(8,[0,2,6,7,11,12,19]),(9,[0,2,6,7,11,19]),(10,[0,2,6,7,19]),(11,[0,2,6,7,19]),(12,[0,7,95]),(13,[0,7,95,96]),(14,[0,7,13,95]),(15,[0,7,95]),(16,[0,7,95])],rd:=[(0,[6])] }),
 (108,{ live:=[(0,[1]),(1,[2])],dec:=[7,12] }),
 (109,{ live:=[(0,[2,3]),(1,[4])],dec:=[8] }),
 (110,{ live:=[(0,[0,1]),(1,[4])] }),
 (112,{ live:=[(0,[0]),(1,[0,3]),(2,[0,3,9,10,11]),(3,[0,3,9,10,11,12]),(4,[0,3,5,9,10,11]),(5,[0,3,9,10,11]),(6,[0,3,9,10,11,20]),(7,[0,3,9,10,11]),(8,[0,3,9,10,11]),(9,[0,6]),(10,[6,25,26,27]),(11,[6,25,26,27,28]),(12,[6,8,25,26,27]),(13,[6,25,26,27]),(14,[6,25,26,27]),(15,[2])],raw:=[129],fresh:=[24] }),
 (113,{ live:=[(0,[2,3,4]),(1,[2,3,4,23]),(2,[4,5]),(3,[2,3,4,6]),(4,[2,3,4,6]),(5,[2,3,4,6]),(6,[4,6,7]),(7,[4,7,43]),(8,[7,8]),(10,[4,5])],dec:=[12,17],fresh:=[43],rd:=[(8,[8])] }),
 (114,{ live:=[(0,[0,1,4])] }),
 (115,{ live:=[(0,[2,3]),(1,[4])] }),
 (116,{ live:=[(0,[0]),(1,[0,3]),(2,[0,3]),(3,[0,3,7]),(4,[0,3]),(5,[0,3]),(6,[2])] }),
 (117,{ live:=[(0,[0,1,2]),(1,[6])],dec:=[10] }),
 (118,{ live:=[(0,[0,1]),(1,[0,1]),(2,[1]),(3,[4,5])] }),
 (119,{ live:=[(0,[0]),(1,[2])] }),
 (124,{ live:=[(0,[0,2]),(1,[0,2,3]),(2,[0,2,3,7]),(3,[0,2,3,7,8]),(4,[0,2,3,4,7]),(5,[0,2,3,4,7,11]),(6,[0,2,3,7]),(7,[0,2,3,4,5,6,7]),(8,[0,2,3,7]),(9,[0,2,3,7]),(10,[2])] }),
 (125,{ live:=[(0,[0,1]),(1,[4])] }),
 (126,{ live:=[(0,[0]),(1,[0,3]),(2,[3,6,7,8]),(3,[3,6,7,8,9]),(4,[3,5,6,7,8]),(5,[3,5,6,7,8,14]),(6,[2]),(7,[3,6,7,8]),(8,[2])] }),
 (127,{ live:=[(0,[0,1]),(1,[0,1,5]),(2,[0,1,5,6]),(3,[0,1,6,11]),(4,[12]),(5,[4]),(6,[4]),(7,[0,1,13]),(8,[4]),(9,[0,1,16]),(10,[4]),(11,[19]),(12,[4]),(13,[4])] }),
 (129,{ live:=[(0,[0,1]),(1,[0,1,6]),(2,[0,1]),(3,[0,1]),(4,[0,1,16]),(5,[0]),(6,[4])],esc:=true,nil:=[(5,[⟨.sl 0,900001290,(.sl 19 (.ag [(.ba 16),(.ag [(.i .i64),(.i .i64)]),(.sl 4 (.ag [(.i .i64),(.ag [(.ag [(.i .i64),(.i .i64)]),.s])]))]))⟩])] }),
 (130,{ live:=[(0,[0,3]),(1,[0,9,10,11]),(2,[0,9,10,11,12]),(3,[0,5,9,10,11]),(4,[0,5,6,7,9,10,11]),(5,[0,5,6,9,10,11,22]),(6,[0,9,10,11]),(7,[0,9,10,11]),(8,[0,9,10,11])],rd:=[(3,[5]),(4,[6])] }),
 (131,{ live:=[(0,[2,3,4]),(1,[2,3,4,7]),(2,[4]),(3,[4])] }),
 (132,{ live:=[(0,[2,3]),(1,[4])],esc:=true }),
 (133,{ live:=[(0,[0,1,2,3,4,10]),(1,[0,1,2,3,4,10,11]),(2,[0,1,2,3,4,10,11,12]),(3,[0,1,2,3,4,10,11,12,25]),(5,[0,1,2,3,4,10,11,12,32]),(7,[0,1,2,3,4,10,11,12,39]),(8,[0,1,2,3,4,10,11,12]),(9,[0,1,2,3,4,10,11,12]),(10,[0,1,2,3,4,10,11,12,13,14]),(11,[0,1,2,3,4,10,11,12,13,14,56]),(12,[0,1,2,3,4,10,11,12,13]),(13,[0,1,2,3,4,10,11,12,13]),(14,[0,1,2,3,4,10,11,12,13,14]),(15,[0,1,2,3,4,10,11,12,13,75]),(16,[0,1,2,3,4,10,11,12,13,80]),(17,[0,1,2,3,4,10,11,12,13,97]),(18,[0,2,3,4,10,11,15]),(19,[0,1,2,3,4,10,11]),(20,[0,1,2,3,4,12,16,17]),(21,[0,1,2,3,4,11,12,16]),(22,[0,1,2,3,4,11,12,16,18,19]),(23,[0,1,2,3,4,11,16,18,19,20]),(24,[0,1,2,3,4,11,16,18,19,20,125]),(25,[0,1,2,3,4,10,11,16]),(26,[0,2,3,4,10,11,16]),(27,[0,1,2,3,4,10,11]),(28,[0,1,2,3,4,10,11,16]),(29,[0,1,3,4,10,11,16]),(30,[0,1,2,3,4,10,11])],dec:=[69,72,83] }),
 (134,{ live:=[(0,[0]),(1,[2]),(2,[2])] }),
 (135,{ live:=[(0,[0,6]),(2,[19])] }),
 (142,{ live:=[(0,[0,1]),(1,[0,5]),(2,[4])] }),
 (143,{ live:=[(0,[0]),(1,[2])] }),
 (144,{ live:=[(0,[2,3,4]),(1,[2,3,4,7]),(2,[4]),(3,[4])] }),
 (145,{ live:=[(0,[0,1,2,7]),(1,[0,1,2,7,8]),(2,[0,1,2,4,7]),(3,[0,1,2,4,5,6,7]),(4,[0,1,2,7,30]),(5,[0,1,2,7])],dec:=[17,23],rd:=[(3,[5])] }),
 (146,{ live:=[(0,[0,1,2,3,8]),(1,[0,1,2,3,8,14]),(2,[0,1,2,3,8]),(3,[0,1,2,3,8,9]),(4,[0,1,2,3,8,9,34]),(5,[0,1,2,3,8,9]),(6,[0,1,2,3,8,9])],dec:=[21] }),
 (147,{ live:=[(0,[0,1,2,3,8]),(1,[0,1,2,3,8,9]),(2,[0,3,8,9,10]),(3,[0,3,8,9,10,11]),(4,[0,3,8,9,10,11,21]),(5,[0,3,8,9,10,11]),(6,[0,3,8,9,10,11]),(7,[0,3,8,9,12]),(8,[0,3,8,9,12,33]),(9,[0,3,8,9,12]),(10,[0,3,8,9,12]),(11,[0,3,8,9,12])] }),
 (148,{ live:=[(0,[0,1,8]),(1,[0,1,8,17]),(2,[0,1,8,9]),(3,[0,1,8,9,10]),(4,[0,1,8,9,10,11]),(5,[0,1,8,9,10,11,35]),(6,[0,1,8,9,10,11]),(7,[0,1,8,9,10,11,12]),(8,[0,1,8,9,10,11,12,45]),(9,[0,1,8,9,10,11,12]),(10,[0,1,8,9,10,11])] }),
 (149,{ live:=[(0,[0,1,2,3]),(1,[0,1,3,10]),(2,[0,1,3,10,11]),(3,[0,1,3,10,11,12]),(4,[0,1,3,10,11,12,13]),(5,[0,3,10,11,12,13,14]),(6,[0,3,10,11,12,13,14,34]),(7,[0,3,11,12,13,14,36]),(8,[0,3,11,12,13,14]),(9,[0,3,11,12,13,14]),(10,[0,3,11,12,13,14]),(11,[11,13]),(12,[13,55]),(13,[8,9]),(14,[13,55,57]),(15,[8,9]),(16,[13,60]),(17,[8,9])] }),
 (150,{ live:=[(0,[0,2,8]),(1,[0,8,9]),(2,[0,8,9,15]),(3,[0,8,9]),(4,[0,8,9]),(5,[0,8,9])] }),
 (151,{ live:=[(0,[0,1,2,3]),(1,[0,1,2,3,9]),(2,[0,1,2,3,9,10]),(3,[0,1,2,3,9,10,16]),(4,[0,1,2,3,9,10]),(5,[0,1,2,3,9,10,36]),(6,[0,1,2,3,9,10]),(7,[0,1,2,3,9,10,41]),(8,[8]),(9,[0,1,2,3,9,10,45]),(10,[8]),(11,[0,1,2,3,9,10]),(12,[0,1,2,3,9,10,65]),(13,[0,1,2,3,9,10,11]),(14,[0,1,2,3,9,10,11,69]),(15,[0,1,2,3,9,10,11]),(16,[0,1,2,3,9,10,11,84]),(17,[0,1,2,3,9,10,11]),(18,[0,1,2,3,9,10,104]),(19,[0,1,2,3,9,10,12]),(20,[0,1,2,3,9,10,12,109]),(21,[0,1,2,3,9,10,12]),(22,[0,1,2,3,9,10,12,124]),(23,[0,1,2,3,9,10,12]),(24,[8])],dec:=[22] }),
 (152,{ live:=[(0,[0,1,2,3,4]),(1,[0,1,2,4]),(2,[0,1,4,11,12]),(3,[0,1,4,11,12,47]),(4,[0,1,4,11,12]),(5,[0,1,4,11,12,65]),(6,[0,1,4,11,12]),(7,[0,1,4,11,12,70]),(8,[0,1,4,11,12]),(9,[0,1,4,11,12]),(10,[0,1,4,11,12]),(11,[10])],dec:=[34,53] }),
 (153,{ live:=[(0,[0,1,2,3,4]),(1,[0,1,2,4]),(2,[0,1,4,12,13]),(3,[0,1,4,12,13,47]),(4,[0,1,4,12,13]),(5,[0,1,4,12,13,66]),(6,[0,1,4,12,13]),(7,[0,1,4,12,13,71]),(8,[13]),(9,[10,11]),(10,[0,1,4,12,13]),(11,[0,1,4,12,13]),(12,[0,1,4,12,13]),(13,[0,1,4,12,13,120]),(14,[0,1,4,12,13]),(15,[0,1,4,12,13,139]),(16,[0,1,4,12,13]),(17,[0,1,4,12,13,144]),(18,[0,1,4,12,13]),(19,[0,1,4,12,13]),(20,[0,1,4,12,13]),(21,[13]),(22,[10,11])],dec:=[35,53,108,126] }),
 (154,{ live:=[(0,[0,2]),(1,[0,2,4]),(2,[0]),(3,[0,2]),(4,[0,2,8]),(5,[0,2]),(6,[0,2]),(7,[2])] }),
 (155,{ live:=[(0,[0,2]),(1,[0,2,4]),(2,[0]),(3,[0,2]),(4,[0,2,8]),(5,[0,2]),(6,[0,2]),(7,[0,2,14]),(8,[0,2]),(9,[0,2]),(10,[2])] }),
 (159,{ live:=[(0,[2,3]),(1,[5]),(2,[13,14]),(3,[13,14,15]),(4,[7,13,14]),(5,[8,13,14]),(6,[8,13,14,20]),(7,[4]),(8,[13,14]),(9,[4])],rd:=[(1,[5])] }),
 (160,{ live:=[(0,[0,2,3,4,10]),(1,[0,2,3,4,10,11]),(2,[0,2,3,4,10,11,18]),(3,[0,2,3,4,10,11,40]),(4,[0,2,3,4,10,11]),(5,[0,2,3,4,10,11,58]),(6,[0,2,3,4,11]),(7,[0,2,3,4,10])],dec:=[23] }),
 (161,{ live:=[(0,[0]),(1,[2])] }),
 (162,{ live:=[(0,[0]),(1,[0]),(2,[0]),(3,[0]),(4,[2])] }),
 (163,{ live:=[(0,[0,1,2,3]),(1,[8])] }),
 (164,{ live:=[(0,[0,1,2,3,4,5]),(1,[0,1,2,3,4,5]),(2,[0,1,2,4,5]),(3,[2]),(4,[12])] }),
 (166,{ live:=[(0,[0,1]),(1,[2])] }),
 (167,{ live:=[(0,[2,3,4]),(1,[2,3,4,7]),(2,[6]),(3,[12]),(4,[6]),(5,[6])] }),
 (168,{ live:=[(0,[0,1]),(1,[2])] }),
 (169,{ live:=[(0,[2,3,4]),(1,[2,3,4,7]),(2,[6]),(3,[12]),(4,[6]),(5,[6])] }),
 (170,{ live:=[(0,[2,3]),(1,[4])],dec:=[8] }),
 (171,{ live:=[(0,[0,1]),(1,[2])] }),
 (172,{ live:=[(0,[0,1]),(1,[0,1,5]),(2,[0,1,5,6]),(3,[0,1,6,11]),(4,[12]),(5,[4]),(6,[4]),(7,[0,1,13]),(8,[4]),(9,[0,1,16]),(10,[4]),(11,[19]),(12,[4]),(13,[4])] }),
 (173,{ live:=[(0,[0,1,2,3,4]),(1,[1,2,3,22]),(2,[1,2]),(3,[10,11]),(4,[10,11])] }),
 (175,{ live:=[(0,[0]),(1,[2])] })]
def qUc (k:FuncId):TH:=(get qUP k).getD {}
theorem qTV:qvl Tryz.prog [113]:=⟨qSS (fn:=Tryz.f113) (c:=Tryz.f113.body.getD .skip) (by kernel_rfl) (by kernel_rfl) (by kernel_rfl),trivial⟩
def qIV:Option Bool:=some true
theorem qL1:qLA Tryz.prog qUc [113] [qIv,qBw] 400 30 11=some (.pv (.b true),[]):=by kernel_rfl
def qF8:Ent:=smF ⟨11,[],[],[],[]⟩ [] Bool (fun _=>qIV) cs1 fun _ z=>(xb z,[])
theorem qNw:q_ Tryz.prog qF8:=qTX Tryz.prog (fun _=>rfl) qk (base:=[qIv,qBw]) ⟨qUu,qKw,trivial⟩ qTV qL1
end Go.Rx
end
noncomputable section
namespace Go.Rx
open Go.RowKit
variable {P:Program} {γ:Hm} {G:Gh} {w w':World}
theorem qJa {K : FuncId} {fn : Func} {c : Code} (hf : P.funcs[K]? = some fn) (hb : fn.body = some c) (hname : (fn.name == "runtime.NumGoroutine") = false) {args : List AV} {h h' : Ob} {r : AV}
    (hc:∀ γ G w vas,qH h γ G w→zx h γ G w args vas→Calls P K vas.toArray w fun e w''=>∃ v,e=.returned v∧∃ γ' G',qH h' γ' G' w''∧Trans h γ G w h' γ' G' w''∧qJ h' γ' G' w'' r v) (l:Nat) :
    Valid P l (.fn (.func K) [] []) args h (.ret r) h':=by
 intro γ G w vf vas H hvf hva
 have h1:=zq rfl rfl hvf
 simp only [qo] at h1
 obtain ⟨va,vc,h1,h2,h3⟩:=h1
 simp only [zx] at h2 h3
 subst h2; subst h3
 simp only [List.cons.injEq,and_true] at h1
 subst h1
 refine ⟨r,rfl,?_⟩
 unfold WA
 have hrun:(do let d ← Deferred.ofValue (.func (.func K) ([]:List Value).toArray ([]:List Value).toArray) vas.toArray; invoke d.target d.args:Sem Next).run P w=.ok (.enter K vas.toArray) w:=by
  simp only [Deferred.ofValue,Sem.run_bind,Sem.run_pure,Result.andThen_ok,invoke,callFunc,run_program,hf,hname,hb,Option.isNone_some,Bool.false_eq_true,if_false]
  simp
 rw [hrun]
 exact hc γ G w vas H hva
theorem qJk {K : FuncId} {fn : Func} {c : Code} (hf : P.funcs[K]? = some fn) (hb : fn.body = some c) (hname : (fn.name == "runtime.NumGoroutine") = false) {args : List AV} {h h' : Ob} {r : AV} {l : Nat} {vas : List Value}
    (hv:Valid P l (.fn (.func K) [] []) args h (.ret r) h') (H:qH h γ G w) (ha:zx h γ G w args vas) :
    Calls P K vas.toArray w fun e w''=>∃ v,e=.returned v∧∃ γ' G',qH h' γ' G' w''∧Trans h γ G w h' γ' G' w''∧qJ h' γ' G' w'' r v:=by
 obtain ⟨r',e,hc⟩:=hv γ G w (.func (.func K) ([]:List Value).toArray ([]:List Value).toArray) vas H (zt rfl (by simp only [qo,zx]; exact ⟨[],[],rfl,rfl,rfl⟩)) ha
 cases e
 unfold WA at hc
 have hrun:(do let d ← Deferred.ofValue (.func (.func K) ([]:List Value).toArray ([]:List Value).toArray) vas.toArray; invoke d.target d.args:Sem Next).run P w=.ok (.enter K vas.toArray) w:=by
  simp only [Deferred.ofValue,Sem.run_bind,Sem.run_pure,Result.andThen_ok,invoke,callFunc,run_program,hf,hname,hb,Option.isNone_some,Bool.false_eq_true,if_false]
  simp
 rw [hrun] at hc
 exact hc
theorem qqY (H:qH [] γ G w) (hb:Below w.heap.size w w'):qH [] γ G w'∧Trans [] γ G w [] γ G w':=
 qpJ H G w' hb.size (fun b h=>hb.block b h) (fun _ _ h=>h) (fun _ _ h h'=>absurd h h') ⟨hb.os,hb.output⟩
end Go.Rx
end
namespace Go.Proofs
open Go.Shelf Go.RowKit
set_option maxRecDepth 100000
set_option maxHeartbeats 2000000
theorem qLf:(Tryz.prog.info? 152).map (·.size)=some 2:=by kernel_rfl
theorem qUC:liesAt Tryz.prog Tryz.prog.depth 152 (2 / Tryz.prog.cellsOf 152) 0 152 1=true:=by kernel_rfl
theorem qR4 (b : Nat) (w : World) (h0 : w.cell? ⟨b, 0, none⟩ = some (.pointer (some ⟨b, 0, none⟩))) :
    Calls Tryz.prog 135 #[.pointer (some ⟨b,0,none⟩)] w fun e w'=>e=.returned (.tuple #[])∧w'=w:=by
 obtain ⟨j,hj,_⟩:=Option.map_eq_some_iff.1 qLf
 go_enter Tryz.func135,Tryz.ntmps135
 go_wp2
 rw [Lib.run_neq_ptr_same w _ Tryz.underlying150 hj]
 go_wp2
 go_end0
 exact ⟨rfl,rfl⟩
theorem qO7 (b : Nat) (w : World) (h0 : w.cell? ⟨b, 0, none⟩ = some (.pointer none)) (hsh : w.shape? b = some (152, 2)) (hfz : w.frozen? ⟨b, 0, none⟩ = false) :
    Calls Tryz.prog 135 #[.pointer (some ⟨b,0,none⟩)] w fun e w'=>e=.returned (.tuple #[])∧w'=w.setCell ⟨b,0,none⟩ (.pointer (some ⟨b,0,none⟩)):=by
 obtain ⟨j,hj,hjs⟩:=Option.map_eq_some_iff.1 qLf
 go_enter Tryz.func135,Tryz.ntmps135
 go_wp2
 rw [Lib.run_to_unsafe w ⟨b,0,none⟩ Tryz.underlying150 Tryz.underlying191 hj (by rw [hjs]; decide) hsh (Nat.zero_lt_succ 1)]
 simp only [Result.andThen]
 rw [Oper.upon_value]
 go_wp2
 rw [run_callFunc_extern Tryz.func156 (by kernel_rfl) (by kernel_rfl) (by kernel_rfl) (e:=Extern.AbiNoEscape.same) (by kernel_rfl)]
 rw [Lib.run_noEscape]
 simp only [Result.andThen]
 rw [Oper.upon_value]
 go_wp2
 rw [Lib.run_from_unsafe w ⟨b,0,none⟩ Tryz.underlying191 Tryz.underlying150 hj hsh qUC]
 simp only [Result.andThen]
 rw [Oper.upon_value]
 go_wp2
 go_end0
 exact ⟨rfl,rfl⟩
theorem qOJ (B b : Nat) (bs : List Value) (w : World) (h : Lib.IsBuilderF 152 5 B b bs w) :
    Calls Tryz.prog 135 #[.pointer (some ⟨b,0,none⟩)] w fun e w'=>e=.returned (.tuple #[])∧(Lib.BuilderAtF 152 5 B b (.pointer (some ⟨b,0,none⟩)) bs w'∧Below B w w'∧Lib.OthersKept 5 (some b) w w'):=by
 rcases h with h | h
 ·refine (qO7 b w h.cell0 h.shape h.frozen0).mono ?_
  rintro e w' ⟨rfl,rfl⟩
  exact ⟨rfl,h.used _,(Below.refl B w).setCell (p:=⟨b,0,none⟩) h.1 _,(Lib.OthersKept.refl _ _ w).setCell ⟨b,0,none⟩ rfl _⟩
 ·refine (qR4 b w h.cell0).mono ?_
  rintro e w' ⟨rfl,rfl⟩
  exact ⟨rfl,h,Below.refl B _,Lib.OthersKept.refl _ _ _⟩
theorem infoByte:(Tryz.prog.info? 5).map (fun i=>(i.zero,i.size,i.bytes))=some (some (.int .u8 0),1,1):=by kernel_rfl
theorem qvL (B b : Nat) (bs : List Value) (s : ByteArray) (w : World) (h : Lib.IsBuilderF 152 5 B b bs w) (hlen : bs.length + s.size ≤ 140737488355328) (hBw : B ≤ w.heap.size) :
    Calls Tryz.prog 118 #[.pointer (some ⟨b,0,none⟩),.string s] w fun e w'=>e=.returned (.tuple #[.int .i64 s.size,.nilIface])∧(Lib.BuilderAtF 152 5 B b (.pointer (some ⟨b,0,none⟩)) (bs++Lib.strCells s) w'∧Below B w w'∧Lib.OthersKept 5 (some b) w w'):=by
 obtain ⟨i0,hi,hz0,hz1,hz2⟩:=info_parts infoByte
 go_enter Tryz.func118,Tryz.ntmps118
 go_wp2_with (go_at_call 135; refine (qOJ B b bs _ h).mono ?_)
 rintro e w1 ⟨rfl,h1,hb1,hk1⟩
 obtain ⟨hB,v,hbk,hown,hne⟩:=h1
 have c0:w1.cell? ⟨b,0,none⟩=some (.pointer (some ⟨b,0,none⟩)):=by rw [Lib.cell_of_heap hbk]; rfl
 have c1:w1.cell? ⟨b,1,none⟩=some v:=by rw [Lib.cell_of_heap hbk]; rfl
 go_wp2_with (at_builtin; refine Lib.wpList_append_own_stringF _ rfl _ _ 31 9 rfl B 5 i0 Tryz.underlying31 Tryz.underlying9 hi hz0 hz1 hz2 _ _ _ rfl hown s rfl ?c3 ?c4 ?c5 ?_)
 case c3=>unfold maxLen; omega
 case c4=>omega
 case c5=>have:=hb1.size; omega
 intro v' w2 hown' hgrow _
 have hlt:b < w1.heap.size:=by
  rcases Nat.lt_or_ge b w1.heap.size with h' | h'
  ·exact h'
  ·simp [Array.getElem?_eq_none h'] at hbk
 have hb2:w2.heap[b]?=some (.cells #[.pointer (some ⟨b,0,none⟩),v] 152 (0,0)):=by
  rw [hgrow.block b hlt (fun e=>hne e.symm)]
  exact hbk
 have d0:w2.cell? ⟨b,0,none⟩=some (.pointer (some ⟨b,0,none⟩)):=by rw [Lib.cell_of_heap hb2]; rfl
 have d1:w2.cell? ⟨b,1,none⟩=some v:=by rw [Lib.cell_of_heap hb2]; rfl
 have f1:w2.frozen? ⟨b,1,none⟩=false:=Lib.frozen_of_heap hb2 1
 obtain ⟨ao,n',cap,rfl⟩:∃ ao n' cap,v'=.slice ao n' cap:=by
  rcases hown'.2 with ⟨hv,_⟩ | ⟨g,cap,cur,fz,hv,_⟩
  ·exact ⟨_,_,_,hv⟩
  ·exact ⟨_,_,_,hv⟩
 go_wp2
 go_ret2
 refine ⟨rfl,?_,?_,(hk1.grown hgrow (Lib.ownsRowF_kind hown)).setCell ⟨b,1,none⟩ rfl _⟩
 ·exact Lib.BuilderAtF.put (T:=152) (e:=5) hB hb2 (bs':=bs++Lib.strCells s) (by simpa [Lib.strCells_length] using hown') (by decide)
 ·exact (hb1.grown hgrow (by have:=hb1.size; omega) (fun k hk=>(hown.lt k hk).1)).setCell (p:=⟨b,1,none⟩) hB _
def qN3:Go.Shelf.Ren:=⟨fun | 169=>119 | n=>n,fun | 70=>150 | 9=>9 | 0=>0 | 72=>152 | 37=>31 | 127=>176 | 3=>3 | 5=>5 | n=>n,fun | n=>n⟩
theorem qUs:Go.Proofs.Lays.n169 Tryz.prog qN3:={
 mixed:=by kernel_rfl
 f169:=Tryz.func119.trans (congrArg some (by kernel_rfl))
 t0:=Tryz.underlying0
 a0:=Tryz.isAgg0
 z0:=Tryz.sizeOf0
 v0:=Tryz.zeroValue0
 t3:=Tryz.underlying3
 a3:=Tryz.isAgg3
 z3:=Tryz.sizeOf3
 v3:=Tryz.zeroValue3
 t9:=Tryz.underlying9
 a9:=Tryz.isAgg9
 z9:=Tryz.sizeOf9
 v9:=Tryz.zeroValue9
 t37:=Tryz.underlying31
 a37:=Tryz.isAgg31
 z37:=Tryz.sizeOf31
 v37:=Tryz.zeroValue31
 t70:=Tryz.underlying150
 a70:=Tryz.isAgg150
 z70:=Tryz.sizeOf150
 v70:=Tryz.zeroValue150
 t72:=Tryz.underlying152
 a72:=Tryz.isAgg152
 z72:=Tryz.sizeOf152
 v72:=Tryz.zeroValue152
 t127:=Tryz.underlying176
 a127:=Tryz.isAgg176
 z127:=Tryz.sizeOf176
 v127:=Tryz.zeroValue176 }
theorem qSz:Builder.Extra Tryz.prog qN3:={
 sizeBuilder:=by kernel_rfl
 liesBuilder:=by kernel_rfl
 t5:=Tryz.underlying5
 a5:=Tryz.isAgg5
 z5:=Tryz.sizeOf5
 v5:=Tryz.zeroValue5
 infoByte:=by kernel_rfl
 cellsByte:=by kernel_rfl
 sizeByte:=by kernel_rfl
 neB5:=by decide }
theorem qMs (B b : Nat) (l : List UInt8) (w : World) (h : Lib.IsBuilderF 152 5 B b (Lib.byteCells l) w) (hBw : B ≤ w.heap.size) :
    Calls Tryz.prog 119 #[.pointer (some ⟨b,0,none⟩)] w fun e w'=>e=.returned (.string ⟨l.toArray⟩)∧(Lib.IsBuilderF 152 5 B b (Lib.byteCells l) w'∧Below B w w'∧Lib.OthersKept 5 (some b) w w'):=Any.Builder_String_any_k qUs qSz B b l w h hBw
end Go.Proofs
set_option maxRecDepth 100000
noncomputable section
namespace Go.Rx
open Go.Proofs Go.RowKit
def qg6 (a:List UInt8):List qb→List UInt8→Option (List UInt8×Bool)
 | [],acc=>some (acc,true)
 | p :: l, acc => bif qb.zV p then
     chk (qj (((a.length:Nat):Int) - qb.zm p)) (bif decide (((a.length:Nat):Int) - qb.zm p < qb.Len p) then some ([],false) else
      chk (qj (qb.zm p + qb.Len p)∧(0≤qb.zm p∧qb.zm p≤qb.zm p + qb.Len p∧qb.zm p + qb.Len p≤((a.length:Nat):Int))∧acc.length + (qb.Lit p).length + a.length≤35184372088832)
       (qg6 a l (acc++qb.Lit p++(a.take (qb.zm p + qb.Len p).toNat).drop (qb.zm p).toNat)))
  else chk (acc.length + (qb.Lit p).length≤35184372088832) (qg6 a l (acc++qb.Lit p))
def qiN (N:Nat) (a0:List UInt8) (a1:List qb):Option (List UInt8×Bool):=(Wp N a1).bind fun m=>bif m then chk (a1.length≤1000000000) (qg6 a0 a1 []) else some ([],false)
theorem qEb {γ : Hm} {G : Gh} {w : World} {N : Nat} {l : List qb} {m : Bool} (hm : Wp N l = some m) (H : qH [] γ G w) {v : Value} (hr : qD G w (qC (.sl 4 qw) l) [v]) :
    Calls Tryz.prog 62 #[v] w fun e w'=>e=.returned (.bool m)∧∃ γ' G',qH [] γ' G' w'∧Trans [] γ G w [] γ' G' w':=by
 have hv:=qs0 N (l,()) m hm 0
 refine (qJk (vas:=[v]) Tryz.func62 rfl (by kernel_rfl) hv H ?_).mono ?_
 ·exact ⟨[v],v,[],rfl,hr,rfl,rfl⟩
 ·rintro e w' ⟨u,rfl,γ',G',h1,h2,h3⟩
  refine ⟨?_,γ',G',h1,h2⟩
  have h3:qJ [] γ' G' w' (.pv (.b m)) u:=h3
  rw [Kk.1 h3]
def qC5 (w:World) (b off:Nat) (l:List qb):Prop:=∀ k p,l[k]?=some p→w.cell? ⟨b,off + k * 4,none⟩=some (.bool (qb.zV p))∧w.cell? ⟨b,off + k * 4 + 1,none⟩=some (.int .i64 (qb.zm p))∧
 w.cell? ⟨b,off + k * 4 + 2,none⟩=some (.int .i64 (qb.Len p))∧w.cell? ⟨b,off + k * 4 + 3,none⟩=some (.string ⟨(qb.Lit p).toArray⟩)
set_option maxHeartbeats 4000000 in
theorem qRj {γ : Hm} {G : Gh} {w : World} {N : Nat} {base : List UInt8} {l : List qb} (hm : Wp N l = some false) (H : qH [] γ G w) {v : Value} (hr : qD G w (qC (.sl 4 qw) l) [v]) :
    Calls Tryz.prog 94 #[.string ⟨base.toArray⟩,v] w fun e w'=>e=.returned (.tuple #[.string ⟨#[]⟩,.bool false])∧∃ γ' G',qH [] γ' G' w'∧Trans [] γ G w [] γ' G' w':=by
 go_enter Tryz.func94,Tryz.ntmps94
 go_wp2_with (go_at_call 62; refine (qEb hm H hr).mono ?_)
 rintro e w1 ⟨rfl,γ',G',h1,h2⟩
 go_wp2
 go_ret2
 exact ⟨rfl,γ',G',h1,h2⟩
theorem qOn {t:Ty} (l:List (El t)):(l.map (qC t)).length=l.length∧(∀ (k:Nat) (p:El t),l[k]?=some p→(l.map (qC t))[k]?=some (qC t p))∧(l.map (qC t)=[]→l=[]):=
 ⟨List.length_map ..,fun k p h=>by rw [List.getElem?_map,h]; rfl,List.map_eq_nil_iff.1⟩
theorem qG_ {G : Gh} {w : World} {l : List qb} {v : Value} (hg : ∀ b o, G b o → b < w.heap.size) (hr : qD G w (qC (.sl 4 qw) l) [v]) :
    ∃ a cap,v=.slice a l.length cap∧(l=[]∨∃ b off,a=some ⟨b,off,none⟩∧b < w.heap.size∧qC5 w b off l):=by
 obtain ⟨f1,f2,f3⟩:=qOn (t:=qw) l
 have hr:qD G w (.l 4 (List.map (qC qw) l)) [v]:=hr
 generalize List.map (qC qw) l=xs at f1 f2 f3 hr
 have f1:xs.length=l.length:=f1
 obtain ⟨a,cap,h1,_,h3,h4⟩:=hr
 rw [f1] at h1
 refine ⟨a,cap,(List.cons.inj h1).1,?_⟩
 rcases h4 with h4 | ⟨b,off,vs,rfl,hv,hc,hi⟩
 ·exact .inl (f3 h4)
 ·by_cases hl:l=[]
  ·exact .inl hl
  right
  have hlen:=zn.len _ _ hv
  have hsz:=PV.Yp 4 xs h3
  rw [hsz,f1] at hlen
  have hpos:0 < l.length:=List.length_pos_iff.2 hl
  refine ⟨b,off,rfl,hg b (off + 0) (hi 0 (by omega)),fun k p hp=>?_⟩
  have hk:=(List.getElem?_eq_some_iff.1 hp).1
  obtain ⟨c,d,e,rfl,hd,hcl,_,_⟩:=zn.at hv (k:=k) (y:=qC qw p) (f2 k p hp)
  rw [PV.Yp 4 _ (fun x hx=>h3 x (List.mem_of_mem_take hx)),List.length_take,f1,Nat.min_eq_left (by omega)] at hcl
  have hd:d=[.bool (qb.zV p),.int .i64 (qb.zm p),.int .i64 (qb.Len p),.string ⟨(qb.Lit p).toArray⟩]:=by
   obtain ⟨d1,r1,rfl,e1,d2,r2,rfl,e2,d3,r3,rfl,e3,d4,r4,rfl,e4,rfl⟩:=hd
   have e1:d1=[.bool (qb.zV p)]:=e1
   have e2:d2=[.int .i64 (qb.zm p)]:=e2
   have e3:d3=[.int .i64 (qb.Len p)]:=e3
   have e4:d4=[.string ⟨(qb.Lit p).toArray⟩]:=e4
   rw [e1,e2,e3,e4]; rfl
  subst hd
  have cell:∀ j,j < 4→w.cell? ⟨b,off + k * 4 + j,none⟩=([.bool (qb.zV p),.int .i64 (qb.zm p),.int .i64 (qb.Len p),.string ⟨(qb.Lit p).toArray⟩]:List Value)[j]?:=fun j hj=>by
   rw [show off + k * 4 + j=off + (k * 4 + j) by omega,hc (k * 4 + j) (by simp only [List.length_append,List.length_cons,List.length_nil]; omega),List.append_assoc,List.getElem?_append_right (by omega),show k * 4 + j - c.length=j by omega,List.getElem?_append_left (by simpa using hj)]
  exact ⟨cell 0 (by omega),cell 1 (by omega),cell 2 (by omega),cell 3 (by omega)⟩
theorem qFu {B:Nat} {w w':World} {b off:Nat} {l:List qb} (h:qC5 w b off l) (hb:Below B w w') (ha:b < B):qC5 w' b off l:=fun k p hp=>by
 have c:∀ j,w'.cell? ⟨b,j,none⟩=w.cell? ⟨b,j,none⟩:=fun j=>hb.cell (p:=⟨b,j,none⟩) ha
 rw [c,c,c,c]
 exact h k p hp
set_option maxHeartbeats 4000000 in
theorem qN2 {γ : Hm} {G : Gh} {w : World} {N : Nat} {base : List UInt8} {l : List qb} {z : List UInt8 × Bool} (hm : Wp N l = some true) (hl9 : l.length ≤ 1000000000) (hz : qg6 base l [] = some z) (H : qH [] γ G w) {v : Value} (hr : qD G w (qC (.sl 4 qw) l) [v]) :
    Calls Tryz.prog 94 #[.string ⟨base.toArray⟩,v] w fun e w'=>e=.returned (.tuple #[.string ⟨z.1.toArray⟩,.bool z.2])∧∃ γ' G',qH [] γ' G' w'∧Trans [] γ G w [] γ' G' w':=by
 go_enter Tryz.func94,Tryz.ntmps94
 go_wp2_with (go_at_call 62; refine (qEb hm H hr).mono ?_)
 rintro e w1 ⟨rfl,γ1,G1,h1,h2⟩
 obtain ⟨a,cap,rfl,hp⟩:=qG_ h1.gok (qD.mono h2.keeps _ _ hr)
 go_wp2
 go_loopw [14] (fun i wr=>∃ (k:Nat) (acc:List UInt8),k≤l.length∧i=.int .i64 k∧Lib.IsBuilderF 152 5 w1.heap.size w1.heap.size (Lib.byteCells acc) wr∧Below w1.heap.size w1 wr∧qg6 base (l.drop k) acc=some z) (fun i _=>l.length - (intOf i).toNat)
 case atStart=>
  exact ⟨0,[],Nat.zero_le _,rfl,Lib.IsBuilderF.of (Lib.fresh_isBuilder 152 5 w1),(Below.refl _ w1).alloc (Nat.le_refl _) _,hz⟩
 case round=>
  obtain ⟨k,acc,hk,rfl,hI,hbw,hA⟩:=hrel
  by_cases hlt:k < l.length
  ·obtain ⟨b,off,rfl,hbl,hpa⟩:=hp.resolve_left (fun e=>by subst e; exact absurd hlt (Nat.not_lt_zero k))
   obtain ⟨p,hpk⟩:∃ p,l[k]?=some p:=⟨_,List.getElem?_eq_getElem hlt⟩
   obtain ⟨q0,q1,q2,q3⟩:=qFu hpa hbw hbl k p hpk
   have hdr:l.drop k=p::l.drop (k + 1):=by
    rw [List.drop_eq_getElem_cons hlt]
    rw [List.getElem?_eq_getElem hlt] at hpk
    rw [Option.some.inj hpk]
   rw [hdr] at hA
   unfold qg6 at hA
   cases hc:qb.zV p with
   | false=>
    rw [hc] at hA q0
    replace hA:=qcp hA
    obtain ⟨hle,hA⟩:=hA
    generalize qb.zm p=pf at *
    generalize qb.Len p=pl at *
    generalize qb.Lit p=pt at *
    have hs1:w1.heap.size < wr.heap.size:=hI.elim (fun x=>x.lt) (fun x=>x.lt)
    have hsz:(Lib.byteCells acc).length + (⟨pt.toArray⟩:ByteArray).size≤140737488355328:=by rw [Lib.byteCells_length]; show acc.length + pt.toArray.size≤_; rw [List.size_toArray]; omega
    go_wp2_with (go_at_call 118; refine (qvL w1.heap.size w1.heap.size _ ⟨pt.toArray⟩ _ (hI.alloc _) hsz (by simp; omega)).mono ?_)
    rintro e W1 ⟨rfl,b1,b2,k1⟩
    have hh:W1.heap[wr.heap.size]?=some (.cells #[Value.bool false,Value.int IntKind.i64 pf,Value.int IntKind.i64 pl,Value.string { data:=pt.toArray }] 67):=k1 _ _ (heap_alloc_new wr _) (fun e=>by have:=Option.some.inj e; omega) (by simp)
    have g0:W1.cell? ⟨wr.heap.size,0,none⟩=some (.bool false):=by rw [Lib.cell_of_heap hh]; rfl
    go_wp2
    go_roundw
    case rel=>
     refine ⟨k + 1,acc++pt,hlt,by go_num,?_,?_,hA⟩
     ·rw [Lib.byteCells_append]; exact Or.inr b1
     ·exact (hbw.alloc (Nat.le_of_lt hs1) _).trans b2
    case measure=>simp [intOf]; omega
   | true=>
    rw [hc] at hA q0
    replace hA:=qcp hA
    obtain ⟨hin,hA⟩:=hA
    unfold qj at hin
    generalize qb.zm p=pf at *
    generalize qb.Len p=pl at *
    generalize qb.Lit p=pt at *
    by_cases hs:((base.length:Nat):Int) - pf < pl
    ·rw [decide_eq_true hs] at hA
     have hA:z=([],false):=(Option.some.inj hA).symm
     subst hA
     go_wp2
     go_ret2
     have hb:=hbw.alloc hbw.size (.cells #[Value.bool true,Value.int IntKind.i64 pf,Value.int IntKind.i64 pl,Value.string { data:=pt.toArray }] 67)
     exact ⟨rfl,γ1,G1,(qqY h1 hb).1,h2.then (qqY h1 hb).2⟩
    ·rw [decide_eq_false hs] at hA
     replace hA:=qcp hA
     obtain ⟨⟨hin2,⟨hb1,hb2,hb3⟩,hle⟩,hA⟩:=hA
     unfold qj at hin2
     have hs1:w1.heap.size < wr.heap.size:=hI.elim (fun x=>x.lt) (fun x=>x.lt)
     have hsz:(Lib.byteCells acc).length + (⟨pt.toArray⟩:ByteArray).size≤140737488355328:=by rw [Lib.byteCells_length]; show acc.length + pt.toArray.size≤_; rw [List.size_toArray]; omega
     go_wp2_with (go_at_call 118; refine (qvL w1.heap.size w1.heap.size _ ⟨pt.toArray⟩ _ (hI.alloc _) hsz (by simp; omega)).mono ?_)
     rintro e W1 rfl b1 b2 k1
     have hh:W1.heap[wr.heap.size]?=some (.cells #[Value.bool true,Value.int IntKind.i64 pf,Value.int IntKind.i64 pl,Value.string { data:=pt.toArray }] 67):=k1 _ _ (heap_alloc_new wr _) (fun e=>by have:=Option.some.inj e; omega) (by simp)
     have g0:W1.cell? ⟨wr.heap.size,0,none⟩=some (.bool true):=by rw [Lib.cell_of_heap hh]; rfl
     have g1:W1.cell? ⟨wr.heap.size,1,none⟩=some (.int .i64 pf):=by rw [Lib.cell_of_heap hh]; rfl
     have g2:W1.cell? ⟨wr.heap.size,2,none⟩=some (.int .i64 pl):=by rw [Lib.cell_of_heap hh]; rfl
     go_wp2_with (go_at_call 118; refine (qvL w1.heap.size w1.heap.size _ _ _ (Or.inr b1) ?z1 ?z2).mono ?_)
     case z1=>
      rw [List.length_append,Lib.byteCells_length,Lib.strCells_eq,Lib.byteCells_length,qkt]
      show acc.length + pt.length + ((base.take (pf + pl).toNat).drop pf.toNat).toArray.size≤_
      rw [List.size_toArray,List.length_drop,List.length_take]; omega
     case z2=>have:=b2.size; simp at this; omega
     rintro e W2 ⟨rfl,c1,c2,k2⟩
     go_wp2
     go_roundw
     case rel=>
      refine ⟨k + 1,acc++pt++(base.take (pf + pl).toNat).drop pf.toNat,hlt,by go_num,?_,?_,hA⟩
      ·rw [qkt] at c1
       rw [Lib.byteCells_append,Lib.byteCells_append]
       exact Or.inr c1
      ·exact ((hbw.alloc hbw.size _).trans b2).trans c2
     case measure=>simp [intOf]; omega
  ·have hke:k=l.length:=by omega
   rw [hke,List.drop_length] at hA
   have hA:z=(acc,true):=(Option.some.inj hA).symm
   subst hA
   go_wp2_with (go_at_call 119; refine (qMs w1.heap.size w1.heap.size acc _ hI hbw.size).mono ?_)
   rintro e W1 ⟨rfl,_,b1,_⟩
   go_wp2
   go_ret2
   have hb:=hbw.trans b1
   exact ⟨rfl,γ1,G1,(qqY h1 hb).1,h2.then (qqY h1 hb).2⟩
def qsI (N:Nat):Ent:=smF ⟨94,[],[.x .s,.x (.sl 4 qw)],[],[]⟩ [.s,(.sl 4 qw)] (List UInt8×Bool) (fun x=>qiN N x.1 x.2.1) cs1 fun _ z=>(.tup [.tv .s z.1,xb z.2],[])
theorem qDl (N:Nat):q_ Tryz.prog (qsI N):=qiZ fun x z h l=>by
 obtain ⟨a,ps,_⟩:=x
 have h:(Wp N ps).bind (fun m=>bif m then chk (ps.length≤1000000000) (qg6 a ps []) else some ([],false))=some z:=h
 refine qJa (fn:=Tryz.f94) Tryz.func94 rfl (by kernel_rfl) (fun γ G w vas H ha=>?_) l
 have ha:zx [] γ G w [.pv (.s a),.pv (qC (.sl 4 qw) ps)] vas:=ha
 simp only [zx] at ha
 obtain ⟨c1,v1,r1,rfl,hc1,ho1,c2,v2,r2,rfl,hc2,ho2,rfl⟩:=ha
 have e2:c2=[v2]:=ho2
 have e1:c1=[v1]:=ho1
 subst e1; subst e2
 have hc1:[v1]=[.string ⟨a.toArray⟩]:=hc1
 obtain rfl:=(List.cons.inj hc1).1
 have hc2:qD G w (qC (.sl 4 qw) ps) [v2]:=hc2
 have fin:∀ {e:Ending} {w':World},(e=.returned (.tuple #[.string ⟨z.1.toArray⟩,.bool z.2])∧∃ γ' G',qH [] γ' G' w'∧Trans [] γ G w [] γ' G' w')→∃ v,e=.returned v∧∃ γ' G',qH [] γ' G' w'∧Trans [] γ G w [] γ' G' w'∧qJ [] γ' G' w' (.tup [.pv (.s z.1),.pv (.b z.2)]) v:=by
  rintro e w' ⟨rfl,γ',G',h1,h2⟩
  exact ⟨_,rfl,γ',G',h1,h2,_,rfl,[.string ⟨z.1.toArray⟩],_,_,rfl,rfl,rfl,[.bool z.2],_,_,rfl,rfl,rfl,rfl⟩
 cases hm:Wp N ps with
 | none=>rw [hm] at h; cases h
 | some m=>
  rw [hm,Option.bind_some] at h
  cases m with
  | false=>
   have h:z=([],false):=(Option.some.inj h).symm
   subst h
   exact (qRj hm H hc2).mono fun e w' he=>fin he
  | true=>
   obtain ⟨hl,h⟩:=qcp h
   exact (qN2 hm hl h H hc2).mono fun e w' he=>fin he
end Go.Rx
end
