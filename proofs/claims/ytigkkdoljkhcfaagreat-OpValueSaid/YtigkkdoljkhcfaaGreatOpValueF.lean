/- A part of the proof of OpValue: the law returns true for every input, and its arguments read as before. No condition. -/
import Derived.Test.YtigkkdoljkhcfaaGreatProg
import Derived.Below
import Derived.Shelf.Strings.BuilderK
import Derived.WalkKit
import Derived.BigCall
import Derived.Laws.BitsAllLaws
import Derived.Test.YtigkkdoljkhcfaaGreatComE
set_option linter.unusedSimpArgs false
set_option linter.unusedVariables false
set_option linter.unusedSectionVars false
noncomputable section
namespace Go.Rx
theorem Wc {α R:Type} (n:α→Option R):∀ t:Tree α,t.run n=(t.run some).bind n
 | .ret a=>rfl
 | .no=>rfl
 | .cond b s t=>by
  simp only [Tree.run]
  cases b
  ·exact Wc n t
  ·exact Wc n s
 | @Tree.chk _ p d t=>by
  simp only [Tree.run,chk]
  split
  ·exact Wc n t
  ·rfl
 | .bind o k=>by
  simp only [Tree.run]
  cases o with
  | none=>rfl
  | some x=>exact Wc n (k x)
 | .opt o s k=>by
  simp only [Tree.run]
  cases o with
  | none=>exact Wc n s
  | some x=>exact Wc n (k x)
 | .sum x f g=>by
  cases x with
  | inl a=>exact Wc n (f a)
  | inr b=>exact Wc n (g b)
section r
variable {α R:Type} {n:α→Option R}
theorem qY {a:α}:(Tree.ret a).run n=n a:=rfl
theorem qO {b:Bool} {s t:Tree α}:(Tree.cond b s t).run n=bif b then s.run n else t.run n:=rfl
theorem zE {p:Prop} [Decidable p] {t:Tree α}:(Tree.chk p t).run n=chk p (t.run n):=rfl
theorem run_bind {β:Type} {o:Option β} {k:β→Tree α}:(Tree.bind o k).run n=o.bind fun x=>(k x).run n:=rfl
theorem qEo {β γ:Type} {x:γ} {f:β→Tree α} {g:γ→Tree α}:(Tree.sum (.inr x) f g).run n=(g x).run n:=rfl
end r
theorem Jl {V W Y:Type} {B:V→Tree (V⊕W)} {g:W→Option Y} {v v':V} (h:(B v).run some=some (.inl v')) (N:Nat):q8 B g (N + 1) v=q8 B g N v':=by
 simp only [q8]
 rw [Wc,h]; rfl
theorem zL {V W Y:Type} {B:V→Tree (V⊕W)} {g:W→Option Y} {v:V} {x:W} (h:(B v).run some=some (.inr x)) (N:Nat):q8 B g (N + 1) v=g x:=by
 simp only [q8]
 rw [Wc,h]; rfl
theorem qiD {V W Y : Type} {B : V → Tree (V ⊕ W)} {g : W → Option Y} {I : V → Prop} {Q : Y → Prop} (m : V → Nat)
    (h:∀ v,I v→(∃ v',(B v).run some=some (.inl v')∧I v'∧m v' < m v)∨∃ x y,(B v).run some=some (.inr x)∧g x=some y∧Q y) :
    ∀ (N:Nat) (v:V),I v→m v < N→∃ y,q8 B g N v=some y∧Q y
 | 0,v,_,hm=>by omega
 | N + 1,v,hi,hm=>by
  rcases h v hi with ⟨v',h1,h2,h3⟩ | ⟨x,y,h1,h2,h3⟩
  ·rw [Jl h1]
   exact qiD m h N v' h2 (by omega)
  ·rw [zL h1]
   exact ⟨y,h2,h3⟩
theorem qfd {W Y : Type} {B : Int → Tree (Int ⊕ W)} {g : W → Option Y} {p : Nat → Bool} {n : Nat} {hit : Nat → W} {fin : W}
    (h1:∀ k,k < n→(B (k:Int)).run some=some (if p k then .inr (hit k) else .inl ((k + 1:Nat):Int))) (h2:(B (n:Int)).run some=some (.inr fin)) :
    ∀ (N k:Nat),k≤n→n < N + k→q8 B g N (k:Int)=g (match Zg p (n - k) k with | some j=>hit j | none=>fin)
 | 0,k,hk,hN=>by omega
 | N + 1,k,hk,hN=>by
  by_cases e:k=n
  ·subst e
   rw [zL h2,Nat.sub_self]; rfl
  ·obtain ⟨m,hm⟩:∃ m,n - k=m + 1:=⟨n - k - 1,by omega⟩
   have h3:=h1 k (by omega)
   rw [hm]
   unfold Zg
   cases hp:p k with
   | true=>
    rw [hp,if_pos rfl] at h3
    rw [zL h3,if_pos rfl]
   | false=>
    rw [hp,if_neg (by simp)] at h3
    rw [Jl h3,qfd h1 h2 N (k + 1) (by omega) (by omega),if_neg (by simp),show n - (k + 1)=m by omega]
def J9 {σ:Type} (f:Nat→σ→σ):Nat→Nat→σ→σ
 | 0,_,s=>s
 | m + 1,k,s=>J9 f m (k + 1) (f k s)
theorem Zy {σ W Y : Type} {V : Type} {B : V → Tree (V ⊕ W)} {g : W → Option Y} {at_ : Nat → σ → V} {I : Nat → σ → Prop} {f : Nat → σ → σ} {n : Nat} {fin : σ → W}
    (h1:∀ k s,k < n→I k s→(B (at_ k s)).run some=some (.inl (at_ (k + 1) (f k s)))∧I (k + 1) (f k s)) (h2:∀ s,I n s→(B (at_ n s)).run some=some (.inr (fin s))) :
    ∀ (N k:Nat) (s:σ),I k s→k≤n→n < N + k→q8 B g N (at_ k s)=g (fin (J9 f (n - k) k s))
 | 0,k,s,_,hk,hN=>by omega
 | N + 1,k,s,hi,hk,hN=>by
  by_cases e:k=n
  ·subst e
   rw [zL (h2 s hi),Nat.sub_self]; rfl
  ·obtain ⟨m,hm⟩:∃ m,n - k=m + 1:=⟨n - k - 1,by omega⟩
   obtain ⟨h3,h4⟩:=h1 k s (by omega) hi
   rw [Jl h3,Zy h1 h2 N (k + 1) _ h4 (by omega) (by omega),hm,show n - (k + 1)=m by omega]
   rfl
theorem qIy {α:Type} {l:List α} {k n:Nat} {d:α} (hn:l.length=n) (h:k < l.length):Ka l n k=some (l.getD k d):=by
 unfold Ka; rw [if_pos hn,List.getElem?_eq_getElem h]; simp [List.getD,List.getElem?_eq_getElem h]
theorem qn {α:Type} {p:Prop} [Decidable p] {x:Option α} (h:p):chk p x=x:=if_pos h
theorem qDz {Z:Type} (o:Option Z):j8 [] o=o:=rfl
theorem jH {Z:Type} {a b:Nat} {ps:List (Nat×Nat)} {o:Option Z} (h:a=b):j8 ((a,b)::ps) o=j8 ps o:=if_pos h
end Go.Rx
end
noncomputable section
namespace Go.Rx
section
variable {α R:Type} {n:α→Option R} {y:Option R}
theorem qC {a:α} (h:n a=y):(Tree.ret a).run n=y:=h
theorem qZ {p:Prop} [Decidable p] {t:Tree α} (h:p) (ht:t.run n=y):(Tree.chk p t).run n=y:=(qn h).trans ht
theorem qz {β:Type} {o:Option β} {k:β→Tree α} {x:β} (h:o=some x) (ht:(k x).run n=y):(Tree.bind o k).run n=y:=by subst h; exact ht
theorem w_t {b:Bool} {s t:Tree α} (h:b=true) (hs:s.run n=y):(Tree.cond b s t).run n=y:=by subst h; exact hs
theorem w_f {b:Bool} {s t:Tree α} (h:b=false) (ht:t.run n=y):(Tree.cond b s t).run n=y:=by subst h; exact ht
theorem quZ {β:Type} {o:Option β} {s:Tree α} {k:β→Tree α} (h:o=none) (hs:s.run n=y):(Tree.opt o s k).run n=y:=by subst h; exact hs
theorem qpP {β:Type} {o:Option β} {s:Tree α} {k:β→Tree α} {x:β} (h:o=some x) (hk:(k x).run n=y):(Tree.opt o s k).run n=y:=by subst h; exact hk
theorem w_l {β γ:Type} {z:β⊕γ} {f:β→Tree α} {g:γ→Tree α} {x:β} (h:z=.inl x) (hk:(f x).run n=y):(Tree.sum z f g).run n=y:=by subst h; exact hk
theorem w_r {β γ:Type} {z:β⊕γ} {f:β→Tree α} {g:γ→Tree α} {x:γ} (h:z=.inr x) (hk:(g x).run n=y):(Tree.sum z f g).run n=y:=by subst h; exact hk
theorem jW {b:Bool} {s t:Tree α} {c:Bool} (h:b=c) (hs:c=true→s.run n=y) (ht:c=false→t.run n=y):(Tree.cond b s t).run n=y:=by
 subst h; cases b
 ·exact ht rfl
 ·exact hs rfl
end
theorem QY {k:Nat} (h:k≤4611686018427387904):qy ((k:Int) + 1):=by unfold qy; omega
end Go.Rx
end
noncomputable section
namespace Go.Rx
def qG:Ty:=.ag [.b,.i .i64,.i .i64,.s]
abbrev qg:=Bool×Int×Int×List UInt8
def qg.qbj (x:qg):Bool:=x.1
def qg.jw (x:qg):Int:=x.2.1
def qg.Len (x:qg):Int:=x.2.2.1
def qg.Lit (x:qg):List UInt8:=x.2.2.2
def qg.mk (x0:Bool) (x1:Int) (x2:Int) (x3:List UInt8):qg:=(x0,x1,x2,x3)
instance qg.dec:DecidableEq qg:=Jb qG
def ql:Ty:=.ag [.i .i64,.i .i64]
abbrev qe:=Int×Int
def qe.N (x:qe):Int:=x.1
def qe.Rep (x:qe):Int:=x.2
def qe.mk (x0:Int) (x1:Int):qe:=(x0,x1)
instance qe.dec:DecidableEq qe:=Jb ql
def qp:Ty:=.ag [ql,.s]
abbrev qc:=qe×List UInt8
def qc.S (x:qc):qe:=x.1
def qc.V (x:qc):List UInt8:=x.2
def qc.mk (x0:qe) (x1:List UInt8):qc:=(x0,x1)
instance qc.dec:DecidableEq qc:=Jb qp
def qE:Ty:=.ag [.i .i64,qp]
abbrev qd:=Int×qc
def qd.No (x:qd):Int:=x.1
def qd.C (x:qd):qc:=x.2
def qd.mk (x0:Int) (x1:qc):qd:=(x0,x1)
instance qd.dec:DecidableEq qd:=Jb qE
def qj:Ty:=.ag [.ba 16,ql,.sl 4 qE]
abbrev qa:=Vector UInt8 16×qe×List qd
def qa.ID (x:qa):Vector UInt8 16:=x.1
def qa.zi (x:qa):qe:=x.2.1
def qa.F (x:qa):List qd:=x.2.2
def qa.mk (x0:Vector UInt8 16) (x1:qe) (x2:List qd):qa:=(x0,x1,x2)
instance qa.dec:DecidableEq qa:=Jb qj
def qU:Ty:=.ag [.sl 19 qj]
abbrev qf:=List qa
def qf.R (x:qf):List qa:=x
def qf.mk (x0:List qa):qf:=(x0)
instance qf.dec:DecidableEq qf:=Jb qU
def zN:Ty:=.ag [.i .i64,.ba 16,ql,.i .i64,.s,.sl 4 qG,.ba 16,.i .i64,.ba 32]
abbrev qb:=Int×Vector UInt8 16×qe×Int×List UInt8×List qg×Vector UInt8 16×Int×Vector UInt8 32
def qb.Kind (x:qb):Int:=x.1
def qb.ID (x:qb):Vector UInt8 16:=x.2.1
def qb.S (x:qb):qe:=x.2.2.1
def qb.No (x:qb):Int:=x.2.2.2.1
def qb.V (x:qb):List UInt8:=x.2.2.2.2.1
def qb.P (x:qb):List qg:=x.2.2.2.2.2.1
def qb.jw (x:qb):Vector UInt8 16:=x.2.2.2.2.2.2.1
def qb.Zc (x:qb):Int:=x.2.2.2.2.2.2.2.1
def qb.D (x:qb):Vector UInt8 32:=x.2.2.2.2.2.2.2.2
def qb.mk (x0:Int) (x1:Vector UInt8 16) (x2:qe) (x3:Int) (x4:List UInt8) (x5:List qg) (x6:Vector UInt8 16) (x7:Int) (x8:Vector UInt8 32):qb:=(x0,x1,x2,x3,x4,x5,x6,x7,x8)
instance qb.dec:DecidableEq qb:=Jb zN
def jr:Ty:=.ag [qU,zN]
abbrev qV:=qf×qb
def qV.b (x:qV):qf:=x.1
def qV.o (x:qV):qb:=x.2
def qV.mk (x0:qf) (x1:qb):qV:=(x0,x1)
instance qV.dec:DecidableEq qV:=Jb jr
end Go.Rx
end
set_option maxRecDepth 100000
noncomputable section
namespace Go.Rx
open Go.Proofs
theorem qk:Tryz.prog.follows .mixedOrders=true:=by kernel_rfl
noncomputable instance qJh:CT:=⟨ctF Tryz.prog⟩
def qqd:Ent:=qH6 128
theorem qyF:zd Tryz.prog qqd:=qHm (fn:=Tryz.f128) (by kernel_rfl) (by kernel_rfl) (by kernel_rfl) (by kernel_rfl) (by kernel_rfl)
noncomputable def qDF:Code:=Tryz.f104.body.getD .skip
theorem qkc:FnF Tryz.prog 104 Tryz.f104 qDF:=⟨qk,by kernel_rfl,by kernel_rfl,by kernel_rfl⟩
def qtz:TH:={ live:=[(0,[0]),(1,[0,4]),(2,[2]),(3,[2])],vecs:=[5],esc:=true }
def qtw (N:Nat):List Ent:=[]
theorem qqa (N:Nat):qS Tryz.prog (qtw N):=trivial
def qi8 (a0:List UInt8) (z:Unit):TV×THp:=(.v 100050 (((([]:List UInt8))++a0).length),[(100050,.vec false 1 .bl ((([]:List UInt8))++a0:List UInt8))])
def qcI (a0:List UInt8):Tree (Unit):=
 .chk (List.isEmpty a0=false) <|
 .chk (Vh ((([]:List UInt8)).length) 0 (((([]:List UInt8))++a0).length) 1) <|
 .ret ()
def qfX (a0:List UInt8):Option (Unit):=(qcI a0).run some
def qtB:List (Nat×qJ):=[]
theorem qqr:qbX Tryz.prog ⟨104,[],[.x .bl],[],[]⟩ [.bl] (fun x=>qcI x.1) (fun x=>qi8 x.1):=
 Kl (H:=qtz) (L:=qQ (qtB)) 0 qkc (qqa 0) (qw (by kernel_rfl) trivial) (rg0 (by kernel_rfl)) fun x=>by kernel_rfl
def qpa:TH:={ live:=[(0,[0]),(1,[0,4]),(2,[2]),(3,[2])],vecs:=[5],esc:=true }
def qps (N:Nat):List Ent:=[]
theorem qmY (N:Nat):qS Tryz.prog (qps N):=trivial
def qpc (z:Unit):TV×THp:=(.v 100050 0,[(100050,.vec false 1 .bl ([]:List UInt8))])
def qfc:Tree (Unit):=
 .chk (0=0) <|
 .ret ()
def qty:Option (Unit):=(qfc).run some
def qp2:List (Nat×qJ):=[]
theorem qmU:qbX Tryz.prog ⟨104,[],[.k (.es 0)],[],[]⟩ [] (fun x=>qfc) (fun _=>qpc):=
 Kl (H:=qpa) (L:=qQ (qp2)) 0 qkc (qmY 0) (qw (by kernel_rfl) trivial) (rg0 (by kernel_rfl)) fun x=>by kernel_rfl
def qoX:TH:={ live:=[(0,[0]),(1,[0,4]),(2,[2]),(3,[2])],vecs:=[5],esc:=true }
def qpY (N:Nat):List Ent:=[]
theorem qmZ (N:Nat):qS Tryz.prog (qpY N):=trivial
def qpA (z:Unit):TV×THp:=(.nils,[])
def qfa:Tree (Unit):=
 .ret ()
def qtt:Option (Unit):=(qfa).run some
def qpU:List (Nat×qJ):=[]
theorem qmW:qbX Tryz.prog ⟨104,[],[.k (.es 1)],[],[]⟩ [] (fun x=>qfa) (fun _=>qpA):=
 Kl (H:=qoX) (L:=qQ (qpU)) 0 qkc (qmZ 0) (qw (by kernel_rfl) trivial) (rg0 (by kernel_rfl)) fun x=>by kernel_rfl
def qfr (z:Unit):Unit:=()
def qpq (z:Unit):Unit:=()
def VE (a0:List UInt8):Option (Unit):=
 bif a0.isEmpty then
  (qty).bind fun z0=>(qtt).bind fun z1=>chk (qfr z0=qpq z1) (some (qfr z0))
 else qfX a0
def qgU:Ent:=smF ⟨104,[],[.x .bl],[],[]⟩ [.bl] (Unit) (fun x=>VE x.1) cs1 fun x=>qi8 x.1
theorem qoY:zd Tryz.prog (qgU):=qcw fun x z h l=>by
 obtain ⟨a0,_⟩:=x
 replace h:VE a0=some z:=h
 unfold VE at h
 rcases qk_ h with ⟨e,h2⟩ | ⟨_,h2⟩<;>clear h
 ·have e:=List.isEmpty_iff.1 e
  subst e
  obtain ⟨z0,c0,h2⟩:=bind_some h2
  obtain ⟨z1,c1,h2⟩:=bind_some h2
  obtain ⟨hE,h2⟩:=W4 h2
  obtain rfl:=Option.some.inj h2
  refine qlp (t:=.bl) (x:=[]) rfl (TV.ers []) (TV.ers []) (by exact qmU (()) _ c0 l) ?_
  rw [hE]
  exact (qHc (n:=100050) (sz:=1) (x:=qt .bl ([]:List UInt8)) rfl (by kernel_rfl) (by kernel_rfl) (qmW (()) _ c1 l))
 ·exact qqr (a0,()) z h2 l
noncomputable def qBF:Code:=Tryz.f105.body.getD .skip
theorem qDo:FnF Tryz.prog 105 Tryz.f105 qBF:=⟨qk,by kernel_rfl,by kernel_rfl,by kernel_rfl⟩
def qxl:TH:={ live:=[(0,[0]),(1,[0])] }
def qw1 (N:Nat):List Ent:=[]
theorem qth (N:Nat):qS Tryz.prog (qw1 N):=trivial
def qxX (z:Unit):TV×THp:=(.tv (.wa 8) ((((((((((Vector.replicate 8 0)).setIfInBounds 0 ((UInt32.ofNat 1779033703))).setIfInBounds 1 ((UInt32.ofNat 3144134277))).setIfInBounds 2 ((UInt32.ofNat 1013904242))).setIfInBounds 3 ((UInt32.ofNat 2773480762))).setIfInBounds 4 ((UInt32.ofNat 1359893119))).setIfInBounds 5 ((UInt32.ofNat 2600822924))).setIfInBounds 6 ((UInt32.ofNat 528734635))).setIfInBounds 7 ((UInt32.ofNat 1541459225)):Vector UInt32 8),[])
def qnd:Tree (Unit):=
 .chk (0 < 8) <|
 .chk (1 < 8) <|
 .chk (2 < 8) <|
 .chk (3 < 8) <|
 .chk (4 < 8) <|
 .chk (5 < 8) <|
 .chk (6 < 8) <|
 .chk (7 < 8) <|
 .ret ()
def qlW:Option (Unit):=(qnd).run some
def qw2:List (Nat×qJ):=[]
def qnr:Ent:=smF ⟨105,[],[],[],[]⟩ [] (Unit) (fun x=>qlW) cs1 fun _=>qxX
theorem qvr:zd Tryz.prog (qnr):=
 zc (H:=qxl) (L:=qQ (qw2)) (ts:=[]) (T:=fun x=>qnd) 0 qDo (qth 0) (qw (by kernel_rfl) trivial) (rg0 (by kernel_rfl)) fun x=>by kernel_rfl
noncomputable def qB9:Code:=Tryz.f106.body.getD .skip
theorem qC5:FnF Tryz.prog 106 Tryz.f106 qB9:=⟨qk,by kernel_rfl,by kernel_rfl,by kernel_rfl⟩
def qxo:TH:={ live:=[(0,[0]),(1,[0])] }
def qxQ (N:Nat):List Ent:=[]
theorem qsV (N:Nat):qS Tryz.prog (qxQ N):=trivial
def qxb (z:Unit):TV×THp:=(.tv (.wa 64) ((((((((((((((((((((((((((((((((((((((((((((((((((((((((((((((((((Vector.replicate 64 0)).setIfInBounds 0 ((UInt32.ofNat 1116352408))).setIfInBounds 1 ((UInt32.ofNat 1899447441))).setIfInBounds 2 ((UInt32.ofNat 3049323471))).setIfInBounds 3 ((UInt32.ofNat 3921009573))).setIfInBounds 4 ((UInt32.ofNat 961987163))).setIfInBounds 5 ((UInt32.ofNat 1508970993))).setIfInBounds 6 ((UInt32.ofNat 2453635748))).setIfInBounds 7 ((UInt32.ofNat 2870763221))).setIfInBounds 8 ((UInt32.ofNat 3624381080))).setIfInBounds 9 ((UInt32.ofNat 310598401))).setIfInBounds 10 ((UInt32.ofNat 607225278))).setIfInBounds 11 ((UInt32.ofNat 1426881987))).setIfInBounds 12 ((UInt32.ofNat 1925078388))).setIfInBounds 13 ((UInt32.ofNat 2162078206))).setIfInBounds 14 ((UInt32.ofNat 2614888103))).setIfInBounds 15 ((UInt32.ofNat 3248222580))).setIfInBounds 16 ((UInt32.ofNat 3835390401))).setIfInBounds 17 ((UInt32.ofNat 4022224774))).setIfInBounds 18 ((UInt32.ofNat 264347078))).setIfInBounds 19 ((UInt32.ofNat 604807628))).setIfInBounds 20 ((UInt32.ofNat 770255983))).setIfInBounds 21 ((UInt32.ofNat 1249150122))).setIfInBounds 22 ((UInt32.ofNat 1555081692))).setIfInBounds 23 ((UInt32.ofNat 1996064986))).setIfInBounds 24 ((UInt32.ofNat 2554220882))).setIfInBounds 25 ((UInt32.ofNat 2821834349))).setIfInBounds 26 ((UInt32.ofNat 2952996808))).setIfInBounds 27 ((UInt32.ofNat 3210313671))).setIfInBounds 28 ((UInt32.ofNat 3336571891))).setIfInBounds 29 ((UInt32.ofNat 3584528711))).setIfInBounds 30 ((UInt32.ofNat 113926993))).setIfInBounds 31 ((UInt32.ofNat 338241895))).setIfInBounds 32 ((UInt32.ofNat 666307205))).setIfInBounds 33 ((UInt32.ofNat 773529912))).setIfInBounds 34 ((UInt32.ofNat 1294757372))).setIfInBounds 35 ((UInt32.ofNat 1396182291))).setIfInBounds 36 ((UInt32.ofNat 1695183700))).setIfInBounds 37 ((UInt32.ofNat 1986661051))).setIfInBounds 38 ((UInt32.ofNat 2177026350))).setIfInBounds 39 ((UInt32.ofNat 2456956037))).setIfInBounds 40 ((UInt32.ofNat 2730485921))).setIfInBounds 41 ((UInt32.ofNat 2820302411))).setIfInBounds 42 ((UInt32.ofNat 3259730800))).setIfInBounds 43 ((UInt32.ofNat 3345764771))).setIfInBounds 44 ((UInt32.ofNat 3516065817))).setIfInBounds 45 ((UInt32.ofNat 3600352804))).setIfInBounds 46 ((UInt32.ofNat 4094571909))).setIfInBounds 47 ((UInt32.ofNat 275423344))).setIfInBounds 48 ((UInt32.ofNat 430227734))).setIfInBounds 49 ((UInt32.ofNat 506948616))).setIfInBounds 50 ((UInt32.ofNat 659060556))).setIfInBounds 51 ((UInt32.ofNat 883997877))).setIfInBounds 52 ((UInt32.ofNat 958139571))).setIfInBounds 53 ((UInt32.ofNat 1322822218))).setIfInBounds 54 ((UInt32.ofNat 1537002063))).setIfInBounds 55 ((UInt32.ofNat 1747873779))).setIfInBounds 56 ((UInt32.ofNat 1955562222))).setIfInBounds 57 ((UInt32.ofNat 2024104815))).setIfInBounds 58 ((UInt32.ofNat 2227730452))).setIfInBounds 59 ((UInt32.ofNat 2361852424))).setIfInBounds 60 ((UInt32.ofNat 2428436474))).setIfInBounds 61 ((UInt32.ofNat 2756734187))).setIfInBounds 62 ((UInt32.ofNat 3204031479))).setIfInBounds 63 ((UInt32.ofNat 3329325298)):Vector UInt32 64),[])
def qnA:Tree (Unit):=
 .chk (0 < 64) <|
 .chk (1 < 64) <|
 .chk (2 < 64) <|
 .chk (3 < 64) <|
 .chk (4 < 64) <|
 .chk (5 < 64) <|
 .chk (6 < 64) <|
 .chk (7 < 64) <|
 .chk (8 < 64) <|
 .chk (9 < 64) <|
 .chk (10 < 64) <|
 .chk (11 < 64) <|
 .chk (12 < 64) <|
 .chk (13 < 64) <|
 .chk (14 < 64) <|
 .chk (15 < 64) <|
 .chk (16 < 64) <|
 .chk (17 < 64) <|
 .chk (18 < 64) <|
 .chk (19 < 64) <|
 .chk (20 < 64) <|
 .chk (21 < 64) <|
 .chk (22 < 64) <|
 .chk (23 < 64) <|
 .chk (24 < 64) <|
 .chk (25 < 64) <|
 .chk (26 < 64) <|
 .chk (27 < 64) <|
 .chk (28 < 64) <|
 .chk (29 < 64) <|
 .chk (30 < 64) <|
 .chk (31 < 64) <|
 .chk (32 < 64) <|
 .chk (33 < 64) <|
 .chk (34 < 64) <|
 .chk (35 < 64) <|
 .chk (36 < 64) <|
 .chk (37 < 64) <|
 .chk (38 < 64) <|
 .chk (39 < 64) <|
 .chk (40 < 64) <|
 .chk (41 < 64) <|
 .chk (42 < 64) <|
 .chk (43 < 64) <|
 .chk (44 < 64) <|
 .chk (45 < 64) <|
 .chk (46 < 64) <|
 .chk (47 < 64) <|
 .chk (48 < 64) <|
 .chk (49 < 64) <|
 .chk (50 < 64) <|
 .chk (51 < 64) <|
 .chk (52 < 64) <|
 .chk (53 < 64) <|
 .chk (54 < 64) <|
 .chk (55 < 64) <|
 .chk (56 < 64) <|
 .chk (57 < 64) <|
 .chk (58 < 64) <|
 .chk (59 < 64) <|
 .chk (60 < 64) <|
 .chk (61 < 64) <|
 .chk (62 < 64) <|
 .chk (63 < 64) <|
 .ret ()
def qlV:Option (Unit):=(qnA).run some
def qxp:List (Nat×qJ):=[]
def qng:Ent:=smF ⟨106,[],[],[],[]⟩ [] (Unit) (fun x=>qlV) cs1 fun _=>qxb
theorem qwK:zd Tryz.prog (qng):=
 zc (H:=qxo) (L:=qQ (qxp)) (ts:=[]) (T:=fun x=>qnA) 0 qC5 (qsV 0) (qw (by kernel_rfl) trivial) (rg0 (by kernel_rfl)) fun x=>by kernel_rfl
noncomputable def qDK:Code:=Tryz.f142.body.getD .skip
theorem qCl:FnF Tryz.prog 142 Tryz.f142 qDK:=⟨qk,by kernel_rfl,by kernel_rfl,by kernel_rfl⟩
def qew:TH:={ live:=[(0,[0,1]),(1,[0,5]),(2,[4])] }
def qee (N:Nat):List Ent:=[]
theorem qcS (N:Nat):qS Tryz.prog (qee N):=trivial
def qek (z:Int):TV×THp:=(.tv (.i .u32) z,[])
def JD (a0:Int) (a1:Int):Tree (Int):=
 .chk (0≤(qeh .u64 (IntKind.u64.wrap a1) 31)) <|
 let w1:Int:=qrT .u32 a0 (min (qeh .u64 (IntKind.u64.wrap a1) 31).toNat 32)
 let w2:Int:=qH3 .u64 ((32:Int)) (qeh .u64 (IntKind.u64.wrap a1) 31)
 .chk (0≤w2) <|
 .ret (uOr .u32 w1 (ZA a0 (min w2.toNat 32)))
def Vk (a0:Int) (a1:Int):Option (Int):=(JD a0 a1).run some
def qd9:List (Nat×qJ):=[]
def Yk:Ent:=smF ⟨142,[],[.x (.i .u32),.x (.i .i64)],[],[]⟩ [(.i .u32),(.i .i64)] (Int) (fun x=>Vk x.1 x.2.1) cs1 fun _=>qek
theorem qdo:zd Tryz.prog (Yk):=
 zc (H:=qew) (L:=qQ (qd9)) (ts:=[(.i .u32),(.i .i64)]) (T:=fun x=>JD x.1 x.2.1) 0 qCl (qcS 0) (qw (by kernel_rfl) trivial) (rg0 (by kernel_rfl)) fun x=>by kernel_rfl
noncomputable def qCW:Code:=Tryz.f125.body.getD .skip
theorem qBE:FnF Tryz.prog 125 Tryz.f125 qCW:=⟨qk,by kernel_rfl,by kernel_rfl,by kernel_rfl⟩
def qxE:TH:={ live:=[(0,[0,1]),(1,[4])] }
def qx9 (N:Nat):List Ent:=[Yk]
theorem qtH (N:Nat):qS Tryz.prog (qx9 N):=⟨qdo,trivial⟩
def qw_ (z:Int):TV×THp:=(.tv (.i .u32) z,[])
def qfD (a0:Int) (a1:Int):Tree (Int):=
 .chk (qy (0 - a1)) <|
 .bind (Vk a0 (0 - a1)) fun r1=>
 .ret r1
def zX (a0:Int) (a1:Int):Option (Int):=(qfD a0 a1).run some
def qw3:List (Nat×qJ):=[]
def qfM:Ent:=smF ⟨125,[],[.x (.i .u32),.x (.i .i64)],[],[]⟩ [(.i .u32),(.i .i64)] (Int) (fun x=>zX x.1 x.2.1) cs1 fun _=>qw_
theorem qlw:zd Tryz.prog (qfM):=
 zc (H:=qxE) (L:=qQ (qw3)) (ts:=[(.i .u32),(.i .i64)]) (T:=fun x=>qfD x.1 x.2.1) 0 qBE (qtH 0) (qw (by kernel_rfl) trivial) (rg0 (by kernel_rfl)) fun x=>by kernel_rfl
noncomputable def qkM:Code:=Tryz.f124.body.getD .skip
theorem qDn:FnF Tryz.prog 124 Tryz.f124 qkM:=⟨qk,by kernel_rfl,by kernel_rfl,by kernel_rfl⟩
def qby:TH:={ live:=[(0,[0,2]),(1,[0,2,3]),(2,[0,2,3,7]),(3,[0,2,3,7,8]),(4,[0,2,3,4,7]),(5,[0,2,3,4,7,11]),(6,[0,2,3,7]),(7,[0,2,3,4,5,6,7]),(8,[0,2,3,7]),(9,[0,2,3,7]),(10,[2])] }
def qg1 (N:Nat):List Ent:=[qfM]
theorem qd5 (N:Nat):qS Tryz.prog (qg1 N):=⟨qlw,trivial⟩
abbrev VD:=Vector UInt32 64×List UInt8
abbrev Q0:=Vector UInt32 64×Int×Bool
def Z_ (f:VD) (y:Q0):Ex×TSt:=(.exit 0,⟨0,86,[],[(0,.tv .bl f.2),(2,.p 20 [] 0),(3,.p 30 [] 0),(7,xi y.2.1),(8,xb y.2.2)],[(20,.cell false (.tv (.wa 64) f.1)),(30,.cell false (.tv (.wa 64) (y.1:Vector UInt32 64)))],false,[]⟩)
def qmB (N:Nat):List (Nat×qJ):=[]
abbrev Z9:=Vector UInt32 64×Int
def qdd:SP:=⟨0,86,[],[(0,.x .bl),(2,.k (.p 20 [] 0)),(3,.k (.p 30 [] 0)),(7,.x (.i .i64))],[(20,.cell false (.x (.wa 64))),(30,.cell false (.x (.wa 64)))],false,[]⟩
def qmJ (f:VD) (v:Z9):TSt:=jv qdd [dv (.wa 64) f.1,dv (.wa 64) v.1,dv .bl f.2,dv (.i .i64) v.2]
def vQ (N:Nat) (o_3:Vector UInt32 64) (s0_3:List UInt8) (v:Z9):Tree (Z9⊕Q0):=
 .cond (decide (v.2 < ((64:Int)))) (
 .cond (decide (v.2 < ((16:Int)))) (
 .chk (qy (((4:Int)) * v.2)) <|
 .bind (zr s0_3 (((4:Int)) * v.2)) fun e1=>
 let w2:Int:=IntKind.u32.wrap ((e1.toNat:Nat):Int)
 .chk (0≤(24:Int)) <|
 .chk (qy (((4:Int)) * v.2)) <|
 .chk (qy ((((4:Int)) * v.2) + 1)) <|
 .bind (zr s0_3 ((((4:Int)) * v.2) + 1)) fun e3=>
 let w4:Int:=IntKind.u32.wrap ((e3.toNat:Nat):Int)
 .chk (0≤(16:Int)) <|
 let w5:Int:=uOr .u32 (qrT .u32 w2 24) (qrT .u32 w4 16)
 .chk (qy (((4:Int)) * v.2)) <|
 .chk (qy ((((4:Int)) * v.2) + 2)) <|
 .bind (zr s0_3 ((((4:Int)) * v.2) + 2)) fun e6=>
 let w7:Int:=IntKind.u32.wrap ((e6.toNat:Nat):Int)
 .chk (0≤(8:Int)) <|
 .chk (qy (((4:Int)) * v.2)) <|
 .chk (qy ((((4:Int)) * v.2) + 3)) <|
 .bind (zr s0_3 ((((4:Int)) * v.2) + 3)) fun e8=>
 let w9:Int:=IntKind.u32.wrap ((e8.toNat:Nat):Int)
 let w10:Int:=uOr .u32 (uOr .u32 w5 (qrT .u32 w7 8)) w9
 .chk (0≤v.2∧v.2 < ((64:Nat):Int)) <|
 .chk (inW w10) <|
 .chk (v.2.toNat < 64) <|
 .chk (qy (v.2 + 1)) <|
 .ret (.inl (v.1.setIfInBounds v.2.toNat (UInt32.ofNat w10.toNat),v.2 + 1))) <|
 .chk (qy (v.2 - 15)) <|
 .chk (0≤(v.2 - 15)∧(v.2 - 15) < ((64:Nat):Int)) <|
 .chk ((v.2 - 15).toNat < 64) <|
 .chk (qy (v.2 - 2)) <|
 .chk (0≤(v.2 - 2)∧(v.2 - 2) < ((64:Nat):Int)) <|
 .chk ((v.2 - 2).toNat < 64) <|
 .chk (qy (v.2 - 16)) <|
 .chk (0≤(v.2 - 16)∧(v.2 - 16) < ((64:Nat):Int)) <|
 .chk ((v.2 - 16).toNat < 64) <|
 .chk (qy (v.2 - 7)) <|
 .chk (0≤(v.2 - 7)∧(v.2 - 7) < ((64:Nat):Int)) <|
 .chk ((v.2 - 7).toNat < 64) <|
 let w1:Int:=K3 .u32 (((v.1.toList.getD ((v.2 - 16).toNat) 0).toNat:Nat):Int) (((v.1.toList.getD ((v.2 - 7).toNat) 0).toNat:Nat):Int)
 .bind (zX (((v.1.toList.getD ((v.2 - 15).toNat) 0).toNat:Nat):Int) 7) fun r2=>
 .bind (zX (((v.1.toList.getD ((v.2 - 15).toNat) 0).toNat:Nat):Int) 18) fun r3=>
 .chk (0≤(3:Int)) <|
 let w4:Int:=ZA (((v.1.toList.getD ((v.2 - 15).toNat) 0).toNat:Nat):Int) 3
 let w5:Int:=K3 .u32 w1 (KU .u32 (KU .u32 r2 r3) w4)
 .bind (zX (((v.1.toList.getD ((v.2 - 2).toNat) 0).toNat:Nat):Int) 17) fun r6=>
 .bind (zX (((v.1.toList.getD ((v.2 - 2).toNat) 0).toNat:Nat):Int) 19) fun r7=>
 .chk (0≤(10:Int)) <|
 let w8:Int:=ZA (((v.1.toList.getD ((v.2 - 2).toNat) 0).toNat:Nat):Int) 10
 let w9:Int:=K3 .u32 w5 (KU .u32 (KU .u32 r6 r7) w8)
 .chk (0≤v.2∧v.2 < ((64:Nat):Int)) <|
 .chk (inW w9) <|
 .chk (v.2.toNat < 64) <|
 .chk (qy (v.2 + 1)) <|
 .ret (.inl (v.1.setIfInBounds v.2.toNat (UInt32.ofNat w9.toNat),v.2 + 1))) <|
 .ret (.inr (v.1,v.2,decide (v.2 < ((64:Int)))))
def qc9 (N n:Nat) (f:VD) (v:Z9):Option Q0:=q8 (vQ N f.1 f.2) some n v
theorem qmF (N:Nat) (f:VD) (n:Nat) (v:Z9) (y:Q0) (h:qc9 N n f v=some y):LG Tryz.prog qby 124 (ze qkM 3) (qmJ f v) (Z_ f y):=
 jd qk (E:=qg1 N) (L:=qQ (qmB N)) (st:=Z_ f) (g:=some) (R:=Z_ f) (qd5 N) (qw (by kernel_rfl) trivial) (rg0 (by kernel_rfl)) (fun v=>by kernel_rfl) (zn (st:=Z_ f) fun y=>by rfl) (js0 rfl) n v y h
def qbf (N:Nat) (o_3:Vector UInt32 64) (s0_3:List UInt8) (o_3_2:Vector UInt32 64) (s7_3:Int):Option Q0:=qc9 N N (o_3,s0_3) (o_3_2,s7_3)
def qda (N:Nat):qJ:=smL qdd [(.wa 64),(.wa 64),.bl,(.i .i64)] Q0 (fun x=>qbf N x.1 x.2.2.1 x.2.1 x.2.2.2.1) cs1 fun x=>Z_ (x.1,x.2.2.1)
theorem qkC (N:Nat):Ql Tryz.prog qby 124 (ze qkM 3) (qda N):=jF fun x z h=>qmF N (x.1,x.2.2.1) N (x.2.1,x.2.2.2.1) z h
def qrn (z:Vector UInt32 64):TV×THp:=(.tv (.wa 64) z,[])
def qbx (N:Nat) (a0:List UInt8):Tree (Vector UInt32 64):=
 .bind (qbf N ((Vector.replicate 64 0)) a0 ((Vector.replicate 64 0)) 0) fun z1=>
 .ret z1.1
def qaZ (N:Nat) (a0:List UInt8):Option (Vector UInt32 64):=(qbx N a0).run some
def qqM (N:Nat):List (Nat×qJ):=[(3,qda N)]
def qgT (N:Nat):Ent:=smF ⟨124,[],[.x .bl],[],[]⟩ [.bl] (Vector UInt32 64) (fun x=>qaZ N x.1) cs1 fun _=>qrn
theorem qpf (N:Nat):zd Tryz.prog (qgT N):=
 zc (H:=qby) (L:=qQ (qqM N)) (ts:=[.bl]) (T:=fun x=>qbx N x.1) 0 qDn (qd5 N) (qw (by kernel_rfl) ⟨qkC N,trivial⟩) (rg0 (by kernel_rfl)) fun x=>by kernel_rfl
noncomputable def qch:Code:=Tryz.f107.body.getD .skip
theorem qBJ:FnF Tryz.prog 107 Tryz.f107 qch:=⟨qk,by kernel_rfl,by kernel_rfl,by kernel_rfl⟩
def JG:TH:={ live:=[(0,[0,2,6]),(1,[0,2,6,7]),(2,[0,2,6,7,19]),(3,[0,2,6,7,19,20]),(4,[0,2,6,7,8,19]),(5,[0,2,6,7,8,9,10,19]),(6,[0,2,6,7,9,11,19]),(7,[0,2,6,7,11,12,19]),(8,[0,2,6,7,11,12,19]),(9,[0,2,6,7,11,19]),(10,[0,2,6,7,19]),(11,[0,2,6,7,19]),(12,[0,7,95]),(13,[0,7,95,96]),(14,[0,7,13,95]),(15,[0,7,95]),(16,[0,7,95])] }
def K5 (N:Nat):List Ent:=[qgT N,qfM]
theorem Yg (N:Nat):qS Tryz.prog (K5 N):=⟨qpf N,qlw,trivial⟩
abbrev JM:=Vector UInt32 8×Vector UInt32 64×Vector UInt32 64
abbrev vY:=Vector UInt32 8×Int×Bool
def Ze (f:JM) (y:vY):Ex×TSt:=(.exit 0,⟨1,110,[50,60],[(0,.p 50 [] 0),(2,.p 60 [] 0),(6,.p 100060 [] 0),(7,.p 100070 [] 0),(19,xi y.2.1),(20,xb y.2.2)],[(50,.cell false (.tv (.wa 8) f.1)),(60,.cell false (.tv (.wa 64) f.2.1)),(100060,.cell false (.tv (.wa 64) f.2.2)),(100070,.cell false (.tv (.wa 8) (y.1:Vector UInt32 8)))],false,[]⟩)
def qjy (N:Nat):List (Nat×qJ):=[]
abbrev Za:=Vector UInt32 8×Int
def qbq:SP:=⟨1,110,[50,60],[(0,.k (.p 50 [] 0)),(2,.k (.p 60 [] 0)),(6,.k (.p 100060 [] 0)),(7,.k (.p 100070 [] 0)),(19,.x (.i .i64))],[(50,.cell false (.x (.wa 8))),(60,.cell false (.x (.wa 64))),(100060,.cell false (.x (.wa 64))),(100070,.cell false (.x (.wa 8)))],false,[]⟩
def qjB (f:JM) (v:Za):TSt:=jv qbq [dv (.wa 8) f.1,dv (.wa 64) f.2.1,dv (.wa 64) f.2.2,dv (.wa 8) v.1,dv (.i .i64) v.2]
def Zf (N:Nat) (o_3:Vector UInt32 8) (o_3_2:Vector UInt32 64) (o_3_3:Vector UInt32 64) (v:Za):Tree (Za⊕vY):=
 .cond (decide (v.2 < ((64:Int)))) (
 .chk (0≤(0:Int)∧(0:Int) < ((8:Nat):Int)) <|
 .chk (0 < 8) <|
 .chk (0≤(4:Int)∧(4:Int) < ((8:Nat):Int)) <|
 .chk (4 < 8) <|
 .chk (0≤(7:Int)∧(7:Int) < ((8:Nat):Int)) <|
 .chk (7 < 8) <|
 .bind (zX (((v.1.toList.getD 4 0).toNat:Nat):Int) 6) fun r1=>
 .bind (zX (((v.1.toList.getD 4 0).toNat:Nat):Int) 11) fun r2=>
 .bind (zX (((v.1.toList.getD 4 0).toNat:Nat):Int) 25) fun r3=>
 let w4:Int:=K3 .u32 (((v.1.toList.getD 7 0).toNat:Nat):Int) (KU .u32 (KU .u32 r1 r2) r3)
 .chk (0≤(5:Int)∧(5:Int) < ((8:Nat):Int)) <|
 .chk (5 < 8) <|
 let w5:Int:=qeh .u32 (((v.1.toList.getD 4 0).toNat:Nat):Int) (((v.1.toList.getD 5 0).toNat:Nat):Int)
 let w6:Int:=KU .u32 (4294967295) (((v.1.toList.getD 4 0).toNat:Nat):Int)
 .chk (0≤(6:Int)∧(6:Int) < ((8:Nat):Int)) <|
 .chk (6 < 8) <|
 let w7:Int:=qeh .u32 w6 (((v.1.toList.getD 6 0).toNat:Nat):Int)
 .chk (0≤v.2∧v.2 < ((64:Nat):Int)) <|
 .chk (v.2.toNat < 64) <|
 let w8:Int:=K3 .u32 (K3 .u32 w4 (KU .u32 w5 w7)) (((o_3_2.toList.getD v.2.toNat 0).toNat:Nat):Int)
 .chk (0≤v.2∧v.2 < ((64:Nat):Int)) <|
 .chk (v.2.toNat < 64) <|
 let w9:Int:=K3 .u32 w8 (((o_3_3.toList.getD v.2.toNat 0).toNat:Nat):Int)
 .bind (zX (((v.1.toList.getD 0 0).toNat:Nat):Int) 2) fun r10=>
 .bind (zX (((v.1.toList.getD 0 0).toNat:Nat):Int) 13) fun r11=>
 .bind (zX (((v.1.toList.getD 0 0).toNat:Nat):Int) 22) fun r12=>
 .chk (0≤(1:Int)∧(1:Int) < ((8:Nat):Int)) <|
 .chk (1 < 8) <|
 let w13:Int:=qeh .u32 (((v.1.toList.getD 0 0).toNat:Nat):Int) (((v.1.toList.getD 1 0).toNat:Nat):Int)
 .chk (0≤(2:Int)∧(2:Int) < ((8:Nat):Int)) <|
 .chk (2 < 8) <|
 let w14:Int:=qeh .u32 (((v.1.toList.getD 0 0).toNat:Nat):Int) (((v.1.toList.getD 2 0).toNat:Nat):Int)
 .chk (0≤(1:Int)∧(1:Int) < ((8:Nat):Int)) <|
 .chk (1 < 8) <|
 .chk (0≤(2:Int)∧(2:Int) < ((8:Nat):Int)) <|
 .chk (2 < 8) <|
 let w15:Int:=qeh .u32 (((v.1.toList.getD 1 0).toNat:Nat):Int) (((v.1.toList.getD 2 0).toNat:Nat):Int)
 let w16:Int:=K3 .u32 (KU .u32 (KU .u32 r10 r11) r12) (KU .u32 (KU .u32 w13 w14) w15)
 .chk (0≤(0:Int)∧(0:Int) < ((8:Nat):Int)) <|
 .chk (inW (K3 .u32 w9 w16)) <|
 .chk (0 < 8) <|
 .chk (0≤(4:Int)∧(4:Int) < ((8:Nat):Int)) <|
 .chk (4 < 8) <|
 let w17:Int:=K3 .u32 (((((XZ v.1 1 7).setIfInBounds 0 (UInt32.ofNat (K3 .u32 w9 w16).toNat)).toList.getD 4 0).toNat:Nat):Int) w9
 .chk (0≤(4:Int)∧(4:Int) < ((8:Nat):Int)) <|
 .chk (inW w17) <|
 .chk (4 < 8) <|
 .chk (qy (v.2 + 1)) <|
 .ret (.inl (((XZ v.1 1 7).setIfInBounds 0 (UInt32.ofNat (K3 .u32 w9 w16).toNat)).setIfInBounds 4 (UInt32.ofNat w17.toNat),v.2 + 1))) <|
 .ret (.inr (v.1,v.2,decide (v.2 < ((64:Int)))))
def qbs (N n:Nat) (f:JM) (v:Za):Option vY:=q8 (Zf N f.1 f.2.1 f.2.2) some n v
theorem qjF (N:Nat) (f:JM) (n:Nat) (v:Za) (y:vY) (h:qbs N n f v=some y):LG Tryz.prog JG 107 (ze qch 3) (qjB f v) (Ze f y):=
 jd qk (E:=K5 N) (L:=qQ (qjy N)) (st:=Ze f) (g:=some) (R:=Ze f) (Yg N) (qw (by kernel_rfl) trivial) (rg0 (by kernel_rfl)) (fun v=>by kernel_rfl) (zn (st:=Ze f) fun y=>by rfl) (js0 rfl) n v y h
def Y5 (N:Nat) (o_3:Vector UInt32 8) (o_3_2:Vector UInt32 64) (o_3_3:Vector UInt32 64) (o_3_4:Vector UInt32 8) (s19_3:Int):Option vY:=qbs N N (o_3,o_3_2,o_3_3) (o_3_4,s19_3)
def qbt (N:Nat):qJ:=smL qbq [(.wa 8),(.wa 64),(.wa 64),(.wa 8),(.i .i64)] vY (fun x=>Y5 N x.1 x.2.1 x.2.2.1 x.2.2.2.1 x.2.2.2.2.1) cs1 fun x=>Ze (x.1,x.2.1,x.2.2.1)
theorem qhT (N:Nat):Ql Tryz.prog JG 107 (ze qch 3) (qbt N):=jF fun x z h=>qjF N (x.1,x.2.1,x.2.2.1) N (x.2.2.2.1,x.2.2.2.2.1) z h
abbrev Jh:=Vector UInt32 64×Vector UInt32 8
abbrev vJ:=Vector UInt32 8×Int×Bool
def QT (f:Jh) (y:vJ):Ex×TSt:=(.exit 2,⟨1,110,[50,60],[(0,.p 50 [] 0),(7,.p 100070 [] 0),(95,xi y.2.1),(96,xb y.2.2)],[(50,.cell false (.tv (.wa 8) (y.1:Vector UInt32 8))),(60,.cell false (.tv (.wa 64) f.1)),(100070,.cell false (.tv (.wa 8) f.2))],false,[]⟩)
def qiA (N:Nat):List (Nat×qJ):=[]
abbrev QJ:=Vector UInt32 8×Int
def qay:SP:=⟨1,110,[50,60],[(0,.k (.p 50 [] 0)),(7,.k (.p 100070 [] 0)),(95,.x (.i .i64))],[(50,.cell false (.x (.wa 8))),(60,.cell false (.x (.wa 64))),(100070,.cell false (.x (.wa 8)))],false,[]⟩
def qiB (f:Jh) (v:QJ):TSt:=jv qay [dv (.wa 8) v.1,dv (.wa 64) f.1,dv (.wa 8) f.2,dv (.i .i64) v.2]
def Jf (N:Nat) (o_13_2:Vector UInt32 64) (o_13_3:Vector UInt32 8) (v:QJ):Tree (QJ⊕vJ):=
 .cond (decide (v.2 < ((8:Int)))) (
 .chk (0≤v.2∧v.2 < ((8:Nat):Int)) <|
 .chk (v.2.toNat < 8) <|
 .chk (0≤v.2∧v.2 < ((8:Nat):Int)) <|
 .chk (v.2.toNat < 8) <|
 let w1:Int:=K3 .u32 (((v.1.toList.getD v.2.toNat 0).toNat:Nat):Int) (((o_13_3.toList.getD v.2.toNat 0).toNat:Nat):Int)
 .chk (0≤v.2∧v.2 < ((8:Nat):Int)) <|
 .chk (inW w1) <|
 .chk (v.2.toNat < 8) <|
 .chk (qy (v.2 + 1)) <|
 .ret (.inl (v.1.setIfInBounds v.2.toNat (UInt32.ofNat w1.toNat),v.2 + 1))) <|
 .ret (.inr (v.1,v.2,decide (v.2 < ((8:Int)))))
def qaX (N n:Nat) (f:Jh) (v:QJ):Option vJ:=q8 (Jf N f.1 f.2) some n v
theorem qiF (N:Nat) (f:Jh) (n:Nat) (v:QJ) (y:vJ) (h:qaX N n f v=some y):LG Tryz.prog JG 107 (ze qch 13) (qiB f v) (QT f y):=
 jd qk (E:=K5 N) (L:=qQ (qiA N)) (st:=QT f) (g:=some) (R:=QT f) (Yg N) (qw (by kernel_rfl) trivial) (rg0 (by kernel_rfl)) (fun v=>by kernel_rfl) (zn (st:=QT f) fun y=>by rfl) (js0 rfl) n v y h
def WT (N:Nat) (o_13_2:Vector UInt32 64) (o_13_3:Vector UInt32 8) (o_13:Vector UInt32 8) (s95_13:Int):Option vJ:=qaX N N (o_13_2,o_13_3) (o_13,s95_13)
def qaR (N:Nat):qJ:=smL qay [(.wa 8),(.wa 64),(.wa 8),(.i .i64)] vJ (fun x=>WT N x.2.1 x.2.2.1 x.1 x.2.2.2.1) cs1 fun x=>QT (x.2.1,x.2.2.1)
theorem qg9 (N:Nat):Ql Tryz.prog JG 107 (ze qch 13) (qaR N):=jF fun x z h=>qiF N (x.2.1,x.2.2.1) N (x.1,x.2.2.2.1) z h
def qou (a1:Vector UInt32 64) (z:Vector UInt32 8):TV×THp:=(.tup [],[(50,.cell false (.tv (.wa 8) z)),(60,.cell false (.tv (.wa 64) a1))])
def K0 (N:Nat) (a0:Vector UInt32 8) (a1:Vector UInt32 64) (a2:List UInt8):Tree (Vector UInt32 8):=
 .bind (qaZ N a2) fun r1=>
 .bind (Y5 N a0 a1 r1 a0 0) fun z2=>
 .bind (WT N a1 z2.1 a0 0) fun z3=>
 .ret z3.1
def VX (N:Nat) (a0:Vector UInt32 8) (a1:Vector UInt32 64) (a2:List UInt8):Option (Vector UInt32 8):=(K0 N a0 a1 a2).run some
def qoq (N:Nat):List (Nat×qJ):=[(3,qbt N),(13,qaR N)]
def qei (N:Nat):Ent:=smF ⟨107,[],[.k (.p 50 [] 0),.x .bl,.k (.p 60 [] 0)],[],[(50,.cell false (.x (.wa 8))),(60,.cell false (.x (.wa 64)))]⟩ [(.wa 8),(.wa 64),.bl] (Vector UInt32 8) (fun x=>VX N x.1 x.2.1 x.2.2.1) cs1 fun x=>qou x.2.1
theorem qmv (N:Nat):zd Tryz.prog (qei N):=
 zc (H:=JG) (L:=qQ (qoq N)) (ts:=[(.wa 8),(.wa 64),.bl]) (T:=fun x=>K0 N x.1 x.2.1 x.2.2.1) 0 qBJ (Yg N) (qw (by kernel_rfl) ⟨qhT N,qg9 N,trivial⟩) (rg0 (by kernel_rfl)) fun x=>by kernel_rfl
noncomputable def Vl:Code:=Tryz.f78.body.getD .skip
theorem qGm:FnF Tryz.prog 78 Tryz.f78 Vl:=⟨qk,by kernel_rfl,by kernel_rfl,by kernel_rfl⟩
def Jp:TH:={ live:=[(0,[0,2]),(1,[0,2,3]),(2,[0,2,3,16]),(3,[0,2,3]),(4,[0,2,3,20]),(5,[0,2,3,20,21]),(6,[0,2,3,4,20]),(7,[0,2,3,20]),(8,[0,2,3,20]),(9,[2,3,5,6]),(10,[2,3,5,6,40]),(11,[2,3,5,6]),(12,[2,3,5,6]),(13,[2,5,7]),(14,[2,5,7,46]),(15,[2,5,7,46,47]),(16,[2,5,7,8,46]),(17,[2,5,7,46]),(18,[2,5,7,46]),(19,[2])],fresh:=[10] }
def qae (N:Nat):List Ent:=[qgU,qnr,qng,qei N]
theorem Wd (N:Nat):qS Tryz.prog (qae N):=⟨qoY,qvr,qwK,qmv N,trivial⟩
abbrev qaG:=Vector UInt8 32×List UInt8
abbrev V7:=List UInt8×Bool
def W8 (f:qaG) (y:V7):Ex×TSt:=(.exit 0,⟨0,63,[],[(0,.tv .bl f.2),(2,.p 20 [] 0),(3,.v 100050 y.1.length),(16,xb y.2)],[(20,.cell false (.tv (.ba 32) f.1)),(100050,.vec false 1 .bl (y.1:List UInt8))],false,[]⟩)
def qvP (N:Nat):List (Nat×qJ):=[]
abbrev WW:=List UInt8
def qkL:SP:=⟨0,63,[],[(0,.x .bl),(2,.k (.p 20 [] 0)),(3,.vs 100050)],[(20,.cell false (.x (.ba 32))),(100050,.vec false 1)],false,[]⟩
def qu1 (f:qaG) (v:WW):TSt:=jv qkL [dv .bl v,dv (.ba 32) f.1,dv .bl f.2]
def WH (N:Nat) (o_2_2:Vector UInt8 32) (s0_2:List UInt8) (v:WW):Tree (WW⊕V7):=
 .chk ((64:Int)≠0) <|
 .cond (!decide ((((v.length:Nat):Int).tmod 64)=56)) (
 .chk (Vh v.length v.length ((v++[(UInt8.ofNat 0)]).length) 1) <|
 .ret (.inl (v++[(UInt8.ofNat 0)]))) <|
 .ret (.inr (v,!decide ((((v.length:Nat):Int).tmod 64)=56)))
def qls (N n:Nat) (f:qaG) (v:WW):Option V7:=q8 (WH N f.1 f.2) some n v
theorem quw (N:Nat) (f:qaG) (n:Nat) (v:WW) (y:V7) (h:qls N n f v=some y):LG Tryz.prog Jp 78 (ze Vl 2) (qu1 f v) (W8 f y):=
 jd qk (E:=qae N) (L:=qQ (qvP N)) (st:=W8 f) (g:=some) (R:=W8 f) (Wd N) (qw (by kernel_rfl) trivial) (rg0 (by kernel_rfl)) (fun v=>by kernel_rfl) (zn (st:=W8 f) fun y=>by rfl) (js0 rfl) n v y h
def qdC (N:Nat) (o_2_2:Vector UInt8 32) (s0_2:List UInt8) (o_2:List UInt8):Option V7:=qls N N (o_2_2,s0_2) o_2
def qk1 (N:Nat):qJ:=smL qkL [.bl,(.ba 32),.bl] V7 (fun x=>qdC N x.2.1 x.2.2.1 x.1) cs1 fun x=>W8 (x.2.1,x.2.2.1)
theorem qtJ (N:Nat):Ql Tryz.prog Jp 78 (ze Vl 2) (qk1 N):=jF fun x z h=>quw N (x.2.1,x.2.2.1) N x.1 z h
abbrev qaH:=Vector UInt8 32×List UInt8
abbrev VS:=List UInt8×Int×Bool
def Yj (f:qaH) (y:VS):Ex×TSt:=(.exit 2,⟨0,63,[],[(0,.tv .bl f.2),(2,.p 20 [] 0),(3,.v 100050 y.1.length),(20,xi y.2.1),(21,xb y.2.2)],[(20,.cell false (.tv (.ba 32) f.1)),(100050,.vec false 1 .bl (y.1:List UInt8))],false,[]⟩)
def qvv (N:Nat):List (Nat×qJ):=[]
abbrev Yf:=List UInt8×Int
def qlC:SP:=⟨0,63,[],[(0,.x .bl),(2,.k (.p 20 [] 0)),(3,.vs 100050),(20,.x (.i .i64))],[(20,.cell false (.x (.ba 32))),(100050,.vec false 1)],false,[]⟩
def quR (f:qaH) (v:Yf):TSt:=jv qlC [dv .bl v.1,dv (.ba 32) f.1,dv .bl f.2,dv (.i .i64) v.2]
def qaM (N:Nat) (o_5_2:Vector UInt8 32) (s0_5:List UInt8) (v:Yf):Tree (Yf⊕VS):=
 .cond (decide (v.2 < ((8:Int)))) (
 let w1:Int:=IntKind.u64.wrap ((s0_5.length:Nat):Int)
 .chk (qy (((7:Int)) - v.2)) <|
 .chk (qy (((8:Int)) * (((7:Int)) - v.2))) <|
 .chk (0≤(((8:Int)) * (((7:Int)) - v.2))) <|
 let w2:Int:=ZA (qIO .u64 w1 8) (min (((8:Int)) * (((7:Int)) - v.2)).toNat 64)
 .chk (inB (IntKind.u8.wrap w2)) <|
 .chk (Vh v.1.length v.1.length ((v.1++[UInt8.ofNat (IntKind.u8.wrap w2).toNat]).length) 1) <|
 .chk (qy (v.2 + 1)) <|
 .ret (.inl (v.1++[UInt8.ofNat (IntKind.u8.wrap w2).toNat],v.2 + 1))) <|
 .ret (.inr (v.1,v.2,decide (v.2 < ((8:Int)))))
def qk9 (N n:Nat) (f:qaH) (v:Yf):Option VS:=q8 (qaM N f.1 f.2) some n v
theorem qu5 (N:Nat) (f:qaH) (n:Nat) (v:Yf) (y:VS) (h:qk9 N n f v=some y):LG Tryz.prog Jp 78 (ze Vl 5) (quR f v) (Yj f y):=
 jd qk (E:=qae N) (L:=qQ (qvv N)) (st:=Yj f) (g:=some) (R:=Yj f) (Wd N) (qw (by kernel_rfl) trivial) (rg0 (by kernel_rfl)) (fun v=>by kernel_rfl) (zn (st:=Yj f) fun y=>by rfl) (js0 rfl) n v y h
def qiG (N:Nat) (o_5_2:Vector UInt8 32) (s0_5:List UInt8) (o_5:List UInt8) (s20_5:Int):Option VS:=qk9 N N (o_5_2,s0_5) (o_5,s20_5)
def qlv (N:Nat):qJ:=smL qlC [.bl,(.ba 32),.bl,(.i .i64)] VS (fun x=>qiG N x.2.1 x.2.2.1 x.1 x.2.2.2.1) cs1 fun x=>Yj (x.2.1,x.2.2.1)
theorem qtA (N:Nat):Ql Tryz.prog Jp 78 (ze Vl 5) (qlv N):=jF fun x z h=>qu5 N (x.2.1,x.2.2.1) N (x.1,x.2.2.2.1) z h
abbrev Qh:=List UInt8×Vector UInt8 32×Vector UInt32 8×Vector UInt32 64
abbrev vD:=Unit⊕(Vector UInt32 8×List UInt8×Bool)
def Qc (f:Qh):vD→Ex×TSt
 | .inl y=>(.exit 4,⟨0,63,[],[(2,.p 20 [] 0),(3,.v 100050 f.1.length),(5,.p 50 [] 0),(6,.p 60 [] 0),(40,xb (decide (((0:Int)) < ((f.1.length:Nat):Int))))],[(20,.cell false (.tv (.ba 32) f.2.1)),(50,.cell false (.tv (.wa 8) f.2.2.1)),(60,.cell false (.tv (.wa 64) f.2.2.2)),(100050,.vec false 1 .bl f.1)],false,[]⟩)
 | .inr y=>(.exit 4,⟨0,63,[],[(2,.p 20 [] 0),(3,.tv .bl (y.2.1:List UInt8)),(5,.p 50 [] 0),(6,.p 60 [] 0),(40,xb y.2.2)],[(20,.cell false (.tv (.ba 32) f.2.1)),(50,.cell false (.tv (.wa 8) (y.1:Vector UInt32 8))),(60,.cell false (.tv (.wa 64) f.2.2.2))],false,[]⟩)
def qi2 (N:Nat):List (Nat×qJ):=[]
abbrev Zk:=Vector UInt32 8×List UInt8
def qnK:SP:=⟨0,63,[],[(2,.k (.p 20 [] 0)),(3,.x .bl),(5,.k (.p 50 [] 0)),(6,.k (.p 60 [] 0))],[(20,.cell false (.x (.ba 32))),(50,.cell false (.x (.wa 8))),(60,.cell false (.x (.wa 64)))],false,[]⟩
def qez (f:Qh) (v:Zk):TSt:=jv qnK [dv (.ba 32) f.2.1,dv (.wa 8) v.1,dv (.wa 64) f.2.2.2,dv .bl v.2]
def Xk (N:Nat) (o_10:List UInt8) (o_10_2:Vector UInt8 32) (o_10_3:Vector UInt32 8) (o_10_4:Vector UInt32 64) (v:Zk):Tree (Zk⊕vD):=
 .cond (decide (((0:Int)) < ((v.2.length:Nat):Int))) (
 .chk (0≤(0:Int)∧(0:Int)≤(64:Int)∧(64:Int)≤((v.2.length:Nat):Int)) <|
 .bind (VX N v.1 o_10_4 ((v.2.take 64).drop 0)) fun r1=>
 .chk (0≤(64:Int)∧(64:Int)≤((v.2.length:Nat):Int)) <|
 .ret (.inl (r1,v.2.drop 64))) <|
 .ret (.inr (.inr ((v.1,v.2,decide (((0:Int)) < ((v.2.length:Nat):Int))))))
def qdZ (N n:Nat) (f:Qh) (v:Zk):Option vD:=q8 (Xk N f.1 f.2.1 f.2.2.1 f.2.2.2) some n v
theorem qnJ (N:Nat) (f:Qh) (n:Nat) (v:Zk) (y:vD) (h:qdZ N n f v=some y):LG Tryz.prog Jp 78 (ze Vl 10) (qez f v) (Qc f y):=
 jd qk (E:=qae N) (L:=qQ (qi2 N)) (st:=Qc f) (g:=some) (R:=Qc f) (Wd N) (qw (by kernel_rfl) trivial) (rg0 (by kernel_rfl)) (fun v=>by kernel_rfl) (zn (st:=Qc f) fun y=>by rcases y with _ | _<;>rfl) (js0 rfl) n v y h
abbrev XU:=Unit
def qjl:SP:=⟨0,63,[],[(2,.k (.p 20 [] 0)),(3,.vs 100050),(5,.k (.p 50 [] 0)),(6,.k (.p 60 [] 0))],[(20,.cell false (.x (.ba 32))),(50,.cell false (.x (.wa 8))),(60,.cell false (.x (.wa 64))),(100050,.vec false 1)],false,[]⟩
def qtT (f:Qh) (v:XU):TSt:=jv qjl [dv .bl f.1,dv (.ba 32) f.2.1,dv (.wa 8) f.2.2.1,dv (.wa 64) f.2.2.2]
abbrev qcL:=Zk⊕vD
def KL (N:Nat) (o_10:List UInt8) (o_10_2:Vector UInt8 32) (o_10_3:Vector UInt32 8) (o_10_4:Vector UInt32 64) (v:XU):Tree (XU⊕qcL):=
 .cond (decide (((0:Int)) < ((o_10.length:Nat):Int))) (
 .chk (0≤(0:Int)∧(0:Int)≤(64:Int)∧(64:Int)≤((o_10.length:Nat):Int)) <|
 .chk (o_10.length=o_10.length) <|
 .bind (VX N o_10_3 o_10_4 ((o_10.take 64).drop 0)) fun r1=>
 .chk (0≤(64:Int)∧(64:Int)≤((o_10.length:Nat):Int)) <|
 .chk (o_10.length=o_10.length) <|
 .ret (.inr (.inl (r1,o_10.drop 64)))) <|
 .ret (.inr (.inr ((.inl ()))))
def qc2 (N n:Nat) (f:Qh):qcL→Option vD
 | .inl w=>qdZ N n f w
 | .inr w=>some w
def qs6 (f:Qh):qcL→Ex×TSt
 | .inl w=>(.normal,qez f w)
 | .inr w=>Qc f w
def qjk (N n:Nat) (f:Qh) (v:XU):Option vD:=q8 (KL N f.1 f.2.1 f.2.2.1 f.2.2.2) (qc2 N n f) n v
theorem qtn (N:Nat) (f:Qh) (n:Nat) (v:XU) (y:vD) (h:qjk N n f v=some y):LG Tryz.prog Jp 78 (ze Vl 10) (qtT f v) (Qc f y):=
 jd qk (E:=qae N) (L:=qQ (qi2 N)) (st:=qs6 f) (g:=(qc2 N n f)) (R:=Qc f) (Wd N) (qw (by kernel_rfl) trivial) (rg0 (by kernel_rfl)) (fun v=>by kernel_rfl) (fun w y h=>by
 rcases w with w | w
 ·exact qnJ N f n w y h
 ·exact zn (st:=Qc f) (fun y=>by rcases y with _ | _<;>rfl) w y h
) (js0 rfl) n v y h
def Kn (N:Nat) (o_10:List UInt8) (o_10_2:Vector UInt8 32) (o_10_3:Vector UInt32 8) (o_10_4:Vector UInt32 64):Option vD:=qjk N N (o_10,o_10_2,o_10_3,o_10_4) ()
def qjf (N:Nat):qJ:=smL qjl [.bl,(.ba 32),(.wa 8),(.wa 64)] vD (fun x=>Kn N x.1 x.2.1 x.2.2.1 x.2.2.2.1) (csS cs1) fun x=>Qc (x.1,x.2.1,x.2.2.1,x.2.2.2.1)
theorem qq6 (N:Nat):Ql Tryz.prog Jp 78 (ze Vl 10) (qjf N):=jF fun x z h=>qtn N (x.1,x.2.1,x.2.2.1,x.2.2.2.1) N () z h
abbrev KB:=Vector UInt8 32×Vector UInt32 8
abbrev JU:=Vector UInt8 32×Int×Bool
def XS (f:KB) (y:JU):Ex×TSt:=(.exit 6,⟨0,63,[],[(2,.p 20 [] 0),(5,.p 50 [] 0),(7,.p 70 [] 0),(46,xi y.2.1),(47,xb y.2.2)],[(20,.cell false (.tv (.ba 32) f.1)),(50,.cell false (.tv (.wa 8) f.2)),(70,.cell false (.tv (.ba 32) (y.1:Vector UInt8 32)))],false,[]⟩)
def qtj (N:Nat):List (Nat×qJ):=[]
abbrev XV:=Vector UInt8 32×Int
def qjp:SP:=⟨0,63,[],[(2,.k (.p 20 [] 0)),(5,.k (.p 50 [] 0)),(7,.k (.p 70 [] 0)),(46,.x (.i .i64))],[(20,.cell false (.x (.ba 32))),(50,.cell false (.x (.wa 8))),(70,.cell false (.x (.ba 32)))],false,[]⟩
def qtI (f:KB) (v:XV):TSt:=jv qjp [dv (.ba 32) f.1,dv (.wa 8) f.2,dv (.ba 32) v.1,dv (.i .i64) v.2]
def KI (N:Nat) (o_15:Vector UInt8 32) (o_15_2:Vector UInt32 8) (v:XV):Tree (XV⊕JU):=
 .cond (decide (v.2 < ((32:Int)))) (
 .chk ((4:Int)≠0) <|
 .chk (qy (v.2.tdiv 4)) <|
 .chk (0≤(v.2.tdiv 4)∧(v.2.tdiv 4) < ((8:Nat):Int)) <|
 .chk ((v.2.tdiv 4).toNat < 8) <|
 .chk ((4:Int)≠0) <|
 .chk (qy (((8:Int)) * (v.2.tmod 4))) <|
 .chk (qy (((24:Int)) - (((8:Int)) * (v.2.tmod 4)))) <|
 .chk (0≤(((24:Int)) - (((8:Int)) * (v.2.tmod 4)))) <|
 let w1:Int:=ZA (((o_15_2.toList.getD ((v.2.tdiv 4).toNat) 0).toNat:Nat):Int) (min (((24:Int)) - (((8:Int)) * (v.2.tmod 4))).toNat 32)
 .chk (0≤v.2∧v.2 < ((32:Nat):Int)) <|
 .chk (inB (IntKind.u8.wrap w1)) <|
 .chk (v.2.toNat < 32) <|
 .chk (qy (v.2 + 1)) <|
 .ret (.inl (v.1.setIfInBounds v.2.toNat (UInt8.ofNat (IntKind.u8.wrap w1).toNat),v.2 + 1))) <|
 .ret (.inr (v.1,v.2,decide (v.2 < ((32:Int)))))
def qi7 (N n:Nat) (f:KB) (v:XV):Option JU:=q8 (KI N f.1 f.2) some n v
theorem qtp (N:Nat) (f:KB) (n:Nat) (v:XV) (y:JU) (h:qi7 N n f v=some y):LG Tryz.prog Jp 78 (ze Vl 15) (qtI f v) (XS f y):=
 jd qk (E:=qae N) (L:=qQ (qtj N)) (st:=XS f) (g:=some) (R:=XS f) (Wd N) (qw (by kernel_rfl) trivial) (rg0 (by kernel_rfl)) (fun v=>by kernel_rfl) (zn (st:=XS f) fun y=>by rfl) (js0 rfl) n v y h
def qb5 (N:Nat) (o_15:Vector UInt8 32) (o_15_2:Vector UInt32 8) (o_15_3:Vector UInt8 32) (s46_15:Int):Option JU:=qi7 N N (o_15,o_15_2) (o_15_3,s46_15)
def qi_ (N:Nat):qJ:=smL qjp [(.ba 32),(.wa 8),(.ba 32),(.i .i64)] JU (fun x=>qb5 N x.1 x.2.1 x.2.2.1 x.2.2.2.1) cs1 fun x=>XS (x.1,x.2.1)
theorem qrz (N:Nat):Ql Tryz.prog Jp 78 (ze Vl 15) (qi_ N):=jF fun x z h=>qtp N (x.1,x.2.1) N (x.2.2.1,x.2.2.2.1) z h
def qkW (z:Vector UInt8 32):TV×THp:=(.tv (.ba 32) z,[])
def qkS (N:Nat) (a0:List UInt8):Tree (Vector UInt8 32):=
 .bind (VE a0) fun r1=>
 .chk (Vh (((([]:List UInt8))++a0).length) (((([]:List UInt8))++a0).length) ((((([]:List UInt8))++a0)++[(UInt8.ofNat 128)]).length) 1) <|
 .bind (j8 [((((([]:List UInt8))++a0)++[(UInt8.ofNat 128)]).length,(((([]:List UInt8))++a0)++[(UInt8.ofNat 128)]).length)] (qdC N ((Vector.replicate 32 0)) a0 (((([]:List UInt8))++a0)++[(UInt8.ofNat 128)]))) fun z2=>
 .bind (j8 [(z2.1.length,z2.1.length)] (qiG N ((Vector.replicate 32 0)) a0 z2.1 0)) fun z3=>
 .bind (qlW) fun r4=>
 .bind (qlV) fun r5=>
 .bind (j8 [(z3.1.length,z3.1.length)] (Kn N z3.1 ((Vector.replicate 32 0)) ((((((((((Vector.replicate 8 0)).setIfInBounds 0 ((UInt32.ofNat 1779033703))).setIfInBounds 1 ((UInt32.ofNat 3144134277))).setIfInBounds 2 ((UInt32.ofNat 1013904242))).setIfInBounds 3 ((UInt32.ofNat 2773480762))).setIfInBounds 4 ((UInt32.ofNat 1359893119))).setIfInBounds 5 ((UInt32.ofNat 2600822924))).setIfInBounds 6 ((UInt32.ofNat 528734635))).setIfInBounds 7 ((UInt32.ofNat 1541459225))) ((((((((((((((((((((((((((((((((((((((((((((((((((((((((((((((((((Vector.replicate 64 0)).setIfInBounds 0 ((UInt32.ofNat 1116352408))).setIfInBounds 1 ((UInt32.ofNat 1899447441))).setIfInBounds 2 ((UInt32.ofNat 3049323471))).setIfInBounds 3 ((UInt32.ofNat 3921009573))).setIfInBounds 4 ((UInt32.ofNat 961987163))).setIfInBounds 5 ((UInt32.ofNat 1508970993))).setIfInBounds 6 ((UInt32.ofNat 2453635748))).setIfInBounds 7 ((UInt32.ofNat 2870763221))).setIfInBounds 8 ((UInt32.ofNat 3624381080))).setIfInBounds 9 ((UInt32.ofNat 310598401))).setIfInBounds 10 ((UInt32.ofNat 607225278))).setIfInBounds 11 ((UInt32.ofNat 1426881987))).setIfInBounds 12 ((UInt32.ofNat 1925078388))).setIfInBounds 13 ((UInt32.ofNat 2162078206))).setIfInBounds 14 ((UInt32.ofNat 2614888103))).setIfInBounds 15 ((UInt32.ofNat 3248222580))).setIfInBounds 16 ((UInt32.ofNat 3835390401))).setIfInBounds 17 ((UInt32.ofNat 4022224774))).setIfInBounds 18 ((UInt32.ofNat 264347078))).setIfInBounds 19 ((UInt32.ofNat 604807628))).setIfInBounds 20 ((UInt32.ofNat 770255983))).setIfInBounds 21 ((UInt32.ofNat 1249150122))).setIfInBounds 22 ((UInt32.ofNat 1555081692))).setIfInBounds 23 ((UInt32.ofNat 1996064986))).setIfInBounds 24 ((UInt32.ofNat 2554220882))).setIfInBounds 25 ((UInt32.ofNat 2821834349))).setIfInBounds 26 ((UInt32.ofNat 2952996808))).setIfInBounds 27 ((UInt32.ofNat 3210313671))).setIfInBounds 28 ((UInt32.ofNat 3336571891))).setIfInBounds 29 ((UInt32.ofNat 3584528711))).setIfInBounds 30 ((UInt32.ofNat 113926993))).setIfInBounds 31 ((UInt32.ofNat 338241895))).setIfInBounds 32 ((UInt32.ofNat 666307205))).setIfInBounds 33 ((UInt32.ofNat 773529912))).setIfInBounds 34 ((UInt32.ofNat 1294757372))).setIfInBounds 35 ((UInt32.ofNat 1396182291))).setIfInBounds 36 ((UInt32.ofNat 1695183700))).setIfInBounds 37 ((UInt32.ofNat 1986661051))).setIfInBounds 38 ((UInt32.ofNat 2177026350))).setIfInBounds 39 ((UInt32.ofNat 2456956037))).setIfInBounds 40 ((UInt32.ofNat 2730485921))).setIfInBounds 41 ((UInt32.ofNat 2820302411))).setIfInBounds 42 ((UInt32.ofNat 3259730800))).setIfInBounds 43 ((UInt32.ofNat 3345764771))).setIfInBounds 44 ((UInt32.ofNat 3516065817))).setIfInBounds 45 ((UInt32.ofNat 3600352804))).setIfInBounds 46 ((UInt32.ofNat 4094571909))).setIfInBounds 47 ((UInt32.ofNat 275423344))).setIfInBounds 48 ((UInt32.ofNat 430227734))).setIfInBounds 49 ((UInt32.ofNat 506948616))).setIfInBounds 50 ((UInt32.ofNat 659060556))).setIfInBounds 51 ((UInt32.ofNat 883997877))).setIfInBounds 52 ((UInt32.ofNat 958139571))).setIfInBounds 53 ((UInt32.ofNat 1322822218))).setIfInBounds 54 ((UInt32.ofNat 1537002063))).setIfInBounds 55 ((UInt32.ofNat 1747873779))).setIfInBounds 56 ((UInt32.ofNat 1955562222))).setIfInBounds 57 ((UInt32.ofNat 2024104815))).setIfInBounds 58 ((UInt32.ofNat 2227730452))).setIfInBounds 59 ((UInt32.ofNat 2361852424))).setIfInBounds 60 ((UInt32.ofNat 2428436474))).setIfInBounds 61 ((UInt32.ofNat 2756734187))).setIfInBounds 62 ((UInt32.ofNat 3204031479))).setIfInBounds 63 ((UInt32.ofNat 3329325298))))) fun z6=>
 .sum z6 (fun z7=>
 .bind (qb5 N ((Vector.replicate 32 0)) ((((((((((Vector.replicate 8 0)).setIfInBounds 0 ((UInt32.ofNat 1779033703))).setIfInBounds 1 ((UInt32.ofNat 3144134277))).setIfInBounds 2 ((UInt32.ofNat 1013904242))).setIfInBounds 3 ((UInt32.ofNat 2773480762))).setIfInBounds 4 ((UInt32.ofNat 1359893119))).setIfInBounds 5 ((UInt32.ofNat 2600822924))).setIfInBounds 6 ((UInt32.ofNat 528734635))).setIfInBounds 7 ((UInt32.ofNat 1541459225))) ((Vector.replicate 32 0)) 0) fun z8=>
 .ret z8.1) fun z7=>
 .bind (qb5 N ((Vector.replicate 32 0)) z7.1 ((Vector.replicate 32 0)) 0) fun z8=>
 .ret z8.1
def qdM (N:Nat) (a0:List UInt8):Option (Vector UInt8 32):=(qkS N a0).run some
def qDC (N:Nat):List (Nat×qJ):=[(2,qk1 N),(5,qlv N),(10,qjf N),(15,qi_ N)]
def qsQ (N:Nat):Ent:=smF ⟨78,[],[.x .bl],[],[]⟩ [.bl] (Vector UInt8 32) (fun x=>qdM N x.1) cs1 fun _=>qkW
theorem qye (N:Nat):qbX Tryz.prog ⟨78,[],[.x .bl],[],[]⟩ [.bl] (fun x=>qkS N x.1) (fun _=>qkW):=
 Kl (H:=Jp) (L:=qQ (qDC N)) 0 qGm (Wd N) (qw (by kernel_rfl) ⟨qtJ N,qtA N,qq6 N,qrz N,trivial⟩) (rg0 (by kernel_rfl)) fun x=>by kernel_rfl
theorem qpk (N:Nat):zd Tryz.prog (qsQ N):=qcw (qye N)
noncomputable def qBv:Code:=Tryz.f117.body.getD .skip
theorem qBL:FnF Tryz.prog 117 Tryz.f117 qBv:=⟨qk,by kernel_rfl,by kernel_rfl,by kernel_rfl⟩
def qAe:TH:={ live:=[(0,[0,1,2]),(1,[6])],dec:=[10] }
def qz_ (N:Nat):List Ent:=[]
theorem qwd (N:Nat):qS Tryz.prog (qz_ N):=trivial
def qAl (z:Bool):TV×THp:=(xb z,[])
def qiv (a0:Int) (a1:Int) (a2:Int):Tree (Bool):=
 .cond (decide (a1≤a0)) (
 .ret (decide (a0≤a2))) <|
 .ret false
def qbB (a0:Int) (a1:Int) (a2:Int):Option (Bool):=(qiv a0 a1 a2).run some
def qzG:List (Nat×qJ):=[]
def qqH:Ent:=smF ⟨117,[],[.x (.i .i64),.x (.i .i64),.x (.i .i64)],[],[]⟩ [(.i .i64),(.i .i64),(.i .i64)] (Bool) (fun x=>qbB x.1 x.2.1 x.2.2.1) cs1 fun _=>qAl
theorem qx_:zd Tryz.prog (qqH):=
 zc (H:=qAe) (L:=qQ (qzG)) (ts:=[(.i .i64),(.i .i64),(.i .i64)]) (T:=fun x=>qiv x.1 x.2.1 x.2.2.1) 0 qBL (qwd 0) (qw (by kernel_rfl) trivial) (rg0 (by kernel_rfl)) fun x=>by kernel_rfl
noncomputable def qFw:Code:=Tryz.f90.body.getD .skip
theorem qFM:FnF Tryz.prog 90 Tryz.f90 qFw:=⟨qk,by kernel_rfl,by kernel_rfl,by kernel_rfl⟩
def qxH:TH:={ live:=[(0,[1]),(1,[1,4]),(2,[2]),(3,[2])],dec:=[8,13,23] }
def qx4 (N:Nat):List Ent:=[qqH]
theorem qs4 (N:Nat):qS Tryz.prog (qx4 N):=⟨qx_,trivial⟩
def qxS (z:Bool):TV×THp:=(xb z,[])
def qfL (a0:qg):Tree (Bool):=
 .cond (qg.qbj a0) (
 .bind (qbB (qg.jw a0) 0 200) fun r1=>
 .cond r1 (
 .bind (qbB (qg.Len a0) 1 200) fun r2=>
 .cond r2 (
 .ret (decide ((qg.Lit a0)=[]))) <|
 .ret false) <|
 .ret false) <|
 .cond (eqE qG a0 (qg.mk false 0 0 (qg.Lit a0))) (
 .bind (qbB (((qg.Lit a0).length:Nat):Int) 1 200) fun r1=>
 .ret r1) <|
 .ret false
def qe5 (a0:qg):Option (Bool):=(qfL a0).run some
def qya:List (Nat×qJ):=[]
def qnz:Ent:=smF ⟨90,[],[.x qG],[],[]⟩ [qG] (Bool) (fun x=>qe5 x.1) cs1 fun _=>qxS
theorem quL:zd Tryz.prog (qnz):=
 zc (H:=qxH) (L:=qQ (qya)) (ts:=[qG]) (T:=fun x=>qfL x.1) 0 qFM (qs4 0) (qw (by kernel_rfl) trivial) (rg0 (by kernel_rfl)) fun x=>by kernel_rfl
noncomputable def qoA:Code:=Tryz.f62.body.getD .skip
theorem qGA:FnF Tryz.prog 62 Tryz.f62 qoA:=⟨qk,by kernel_rfl,by kernel_rfl,by kernel_rfl⟩
def qgy:TH:={ live:=[(0,[0]),(1,[0,3]),(2,[0,3,6,7,8]),(3,[0,3,6,7,8,9]),(4,[0,3,5,6,7,8]),(5,[0,3,5,6,7,8,14]),(6,[2]),(7,[0,3,6,7,8]),(8,[0,3,6,7,8]),(9,[2])],dec:=[27] }
def qnl (N:Nat):List Ent:=[qnz]
theorem qi4 (N:Nat):qS Tryz.prog (qnl N):=⟨quL,trivial⟩
abbrev YJ:=List qg×List qg×Int
abbrev Jw:=Unit⊕(Int×Int×Bool)
def V0 (f:YJ):Jw→Ex×TSt
 | .inl y=>(.ret,⟨0,31,[],[(2,.bc false)],[],false,[]⟩)
 | .inr y=>(.exit 0,⟨0,31,[],[(0,.tv (.sl 4 qG) f.1),(3,xi y.1),(6,.tv (.sl 4 qG) f.2.1),(7,xi f.2.2),(8,xi y.2.1),(9,xb y.2.2)],[],false,[]⟩)
def qrM (N:Nat):List (Nat×qJ):=[]
abbrev VF:=Int×Int
def qgH:SP:=⟨0,31,[],[(0,.x (.sl 4 qG)),(3,.x (.i .i64)),(6,.x (.sl 4 qG)),(7,.x (.i .i64)),(8,.x (.i .i64))],[],false,[]⟩
def qq5 (f:YJ) (v:VF):TSt:=jv qgH [dv (.sl 4 qG) f.1,dv (.i .i64) v.1,dv (.sl 4 qG) f.2.1,dv (.i .i64) f.2.2,dv (.i .i64) v.2]
def YI (N:Nat) (s0_3:List qg) (s6_3:List qg) (s7_3:Int) (v:VF):Tree (VF⊕Jw):=
 .cond (decide (v.2 < s7_3)) (
 .bind (zr s6_3 v.2) fun e1=>
 .bind (qe5 e1) fun r2=>
 .cond (!r2) (
 .ret (.inr (.inl ()))) <|
 .chk (qy ((qg.Len e1) + (((qg.Lit e1).length:Nat):Int))) <|
 .chk (qy (v.1 + ((qg.Len e1) + (((qg.Lit e1).length:Nat):Int)))) <|
 .chk (qy (v.2 + 1)) <|
 .ret (.inl (v.1 + ((qg.Len e1) + (((qg.Lit e1).length:Nat):Int)),v.2 + 1))) <|
 .ret (.inr (.inr ((v.1,v.2,decide (v.2 < s7_3)))))
def qhn (N n:Nat) (f:YJ) (v:VF):Option Jw:=q8 (YI N f.1 f.2.1 f.2.2) some n v
theorem qro (N:Nat) (f:YJ) (n:Nat) (v:VF) (y:Jw) (h:qhn N n f v=some y):LG Tryz.prog qgy 62 (ze qoA 3) (qq5 f v) (V0 f y):=
 jd qk (E:=qnl N) (L:=qQ (qrM N)) (st:=V0 f) (g:=some) (R:=V0 f) (qi4 N) (qw (by kernel_rfl) trivial) (rg0 (by kernel_rfl)) (fun v=>by kernel_rfl) (zn (st:=V0 f) fun y=>by rcases y with _ | _<;>rfl) (js0 rfl) n v y h
def qd_ (N:Nat) (s0_3:List qg) (s6_3:List qg) (s7_3:Int) (s3_3:Int) (s8_3:Int):Option Jw:=qhn N N (s0_3,s6_3,s7_3) (s3_3,s8_3)
def qg7 (N:Nat):qJ:=smL qgH [(.sl 4 qG),(.i .i64),(.sl 4 qG),(.i .i64),(.i .i64)] Jw (fun x=>qd_ N x.1 x.2.2.1 x.2.2.2.1 x.2.1 x.2.2.2.2.1) (csS cs1) fun x=>V0 (x.1,x.2.2.1,x.2.2.2.1)
theorem qpz (N:Nat):Ql Tryz.prog qgy 62 (ze qoA 3) (qg7 N):=jF fun x z h=>qro N (x.1,x.2.2.1,x.2.2.2.1) N (x.2.1,x.2.2.2.2.1) z h
def qnb (z:Bool):TV×THp:=(xb z,[])
def qgn (N:Nat) (a0:List qg):Tree (Bool):=
 .bind (qd_ N a0 a0 ((a0.length:Nat):Int) 0 0) fun z1=>
 .sum z1 (fun z2=>
 .ret false) fun z2=>
 .cond (decide (((a0.length:Nat):Int)≤((60:Int)))) (
 .ret (decide (z2.1≤200))) <|
 .ret false
def Jk (N:Nat) (a0:List qg):Option (Bool):=(qgn N a0).run some
def qw9 (N:Nat):List (Nat×qJ):=[(3,qg7 N)]
def qm6 (N:Nat):Ent:=smF ⟨62,[],[.x (.sl 4 qG)],[],[]⟩ [(.sl 4 qG)] (Bool) (fun x=>Jk N x.1) cs1 fun _=>qnb
theorem qi9 (N:Nat):qbX Tryz.prog ⟨62,[],[.x (.sl 4 qG)],[],[]⟩ [(.sl 4 qG)] (fun x=>qgn N x.1) (fun _=>qnb):=
 Kl (H:=qgy) (L:=qQ (qw9 N)) 0 qGA (qi4 N) (qw (by kernel_rfl) ⟨qpz N,trivial⟩) (rg0 (by kernel_rfl)) fun x=>by kernel_rfl
theorem qwD (N:Nat):zd Tryz.prog (qm6 N):=qcw (qi9 N)
end Go.Rx
end
set_option maxRecDepth 100000
noncomputable section
namespace Go.Rx
open Go.Proofs
def dg0:Vector UInt8 32:=#v[227,176,196,66,152,252,28,20,154,251,244,200,153,111,185,36,39,174,65,228,100,155,147,76,164,149,153,27,120,82,184,85]
theorem qIQ:qdM 300 []=some dg0:=by kernel_rfl
def qIu:List (List UInt8×Vector UInt8 32):=[([],dg0)]
theorem qHl:qAw (qdM 300) qIu:=⟨qIQ,trivial⟩
def qwi:Ent:=smF ⟨78,[],[.x .bl],[],[]⟩ [.bl] (Vector UInt8 32) (fun x=>quJ qIu x.1) cs1 fun _=>qkW
theorem qHO:zd Tryz.prog qwi:=qIx (qpk 300) fun x z h=>qyE qHl x.1 z h
end Go.Rx
end
set_option maxRecDepth 100000
noncomputable section
namespace Go.Rx
open Go.Proofs
def qG2:List (Nat×TH):=[(11,{ live:=[(1,[1]),(2,[1,2,3]),(3,[1,2,3,4,5,6]),(4,[1,2,3,4,5,6,7,8]),(5,[1,2,3,4,5,6,7,8,9]),(6,[1,2,3,4,5,6,7,8,9,10,11]),(7,[0])],dec:=[44,49,52,56,61,65,71,75,81,85],rd:=[(1,[1]),(3,[4]),(4,[7]),(5,[9]),(6,[10])] }),
 (13,{ live:=[(0,[1]),(1,[1,12]),(2,[2,3]),(3,[1,4]),(4,[1,6]),(5,[1,6,7]),(6,[1,6,7,32]),(7,[1,6,7,32,33]),(8,[6]),(9,[1,6,7,32,43]),(10,[6]),(11,[1,6,7,58]),(12,[1,6,7,8]),(13,[6]),(14,[2,3])],rd:=[(0,[1])] }),
 (15,{ live:=[(0,[0,2]),(1,[0,2,5]),(2,[0,2,5,6]),(3,[0,2,5,6,7,8,9]),(4,[0,2,5,6,7]),(5,[0,2,5,6]),(6,[0,2,5,6,41]),(7,[0,2,5,6]),(8,[0,2,5,6,46]),(9,[0,2,5,6,46,47]),(10,[0,2,5,6,10,11,12]),(11,[0,2,5,6,10]),(12,[0,2,5,6]),(13,[0,2,5,6,46,64]),(14,[0,2,5,6]),(15,[0,2,5,6,75]),(16,[0,2,5,6,13,14,15]),(17,[0,2,5,6,13]),(18,[0,2,5,6]),(19,[0,2,5,6,103]),(20,[2,3,4]),(21,[2,3,4])],dec:=[99],rd:=[(3,[7])] }),
 (19,{ live:=[(0,[1]),(1,[1,23]),(2,[2]),(3,[2])],dec:=[6,11,18,27,32,37,43] }),
 (20,{ live:=[(0,[2,3]),(1,[2,3,5]),(2,[4])],dec:=[11,18,25,33,40,47,54,61] }),
 (21,{ live:=[(0,[1]),(1,[3]),(2,[2])] }),
 (24,{ live:=[(0,[2,3,4]),(1,[2,3,4,17]),(2,[4,5]),(3,[2,3,4,6]),(4,[2,3,4,7]),(5,[2,3,4,7,25]),(6,[4,5]),(7,[2,3,4,8,9]),(8,[2,3,4,8,9,44]),(9,[4,5]),(10,[4,5])],dec:=[13,21],rd:=[(3,[6])] }),
 (27,{ live:=[(0,[2,3,4]),(1,[2,4,6]),(2,[2,4,6,12]),(3,[4,5]),(4,[4,5])] }),
 (28,{ live:=[(0,[2,3,4]),(1,[2,4,6]),(2,[2,4,6,12]),(3,[4,5]),(4,[4,5])] }),
 (29,{ live:=[(0,[0,2]),(1,[2])] }),
 (30,{ live:=[(0,[1]),(1,[1,6,7,8]),(2,[1,6,7,8,9]),(3,[1,3,4,6,7,8]),(4,[1,6,7,8,32]),(5,[2]),(6,[1,6,7,8]),(7,[2])],dec:=[16,19],rd:=[(3,[4])] }),
 (33,{ live:=[(0,[1]),(1,[1,6]),(2,[2,3]),(3,[2,3])],fresh:=[15],esc:=true }),
 (34,{ live:=[(0,[0]),(1,[0,3]),(2,[0,3,9,10,11]),(3,[0,3,9,10,11,12]),(4,[0,3,5,9,10,11]),(5,[0,3,9,10,11]),(6,[0,3,9,10,11,20]),(7,[0,3,9,10,11]),(8,[0,3,9,10,11]),(9,[0,6]),(10,[6,25,26,27]),(11,[6,25,26,27,28]),(12,[6,8,25,26,27]),(13,[6,25,26,27]),(14,[6,25,26,27]),(15,[2])],raw:=[85],fresh:=[24] }),
 (35,{ live:=[(0,[0]),(1,[2])],fresh:=[6],esc:=true }),
 (36,{ live:=[(0,[0]),(1,[0,9]),(2,[2,3]),(3,[0,4]),(4,[4,14,15,16]),(5,[4,14,15,16,17]),(6,[4,6,14,15,16]),(7,[4,6,14,15,16,21]),(8,[4,14,15,16]),(9,[4,14,15,16]),(10,[4,14,15,16]),(11,[2,3])],rd:=[(6,[6])] }),
 (42,{ live:=[(0,[0]),(1,[2])] }),
 (43,{ live:=[(0,[0,2]),(1,[2])] }),
 (44,{ live:=[(0,[0,2]),(1,[2,5,6,7]),(2,[2,6,7,8]),(3,[2,6,8,28]),(4,[2,3,4]),(5,[2,3,4])],dec:=[24],rd:=[(2,[8])] }),
 (45,{ live:=[(0,[0,1,2]),(1,[0,1]),(2,[0,1,31]),(3,[6]),(4,[0,1,7]),(5,[7]),(6,[6])],dec:=[13,17] }),
 (46,{ live:=[(0,[0,1]),(1,[0,1,7,8,9]),(2,[1,7,8,9,10]),(3,[7,8,10,33]),(4,[4,5,6]),(5,[4,5,6])],dec:=[21,25] }),
 (47,{ live:=[(0,[0,2]),(1,[2])] }),
 (48,{ live:=[(0,[0]),(1,[0,5,6,7]),(2,[0,5,6,23]),(3,[2,3,4]),(4,[0,5,6,8]),(5,[0,6,8,24,25]),(6,[0,6,8,24,25,26]),(7,[0,6,8,9,10,11,24,25]),(8,[0,6,8,9,10,24,25,36]),(9,[2,3,4]),(10,[0,6,8,10,24,25]),(11,[0,6,8,24,25]),(12,[0,6,8,24,25]),(13,[6,8,47]),(14,[2,3,4]),(15,[2,3,4])],dec:=[20],rd:=[(7,[9])] }),
 (59,{ live:=[(0,[1,2]),(1,[1,2,3]),(2,[1,2,3,12]),(3,[1,2,3,12,13]),(4,[2,3]),(5,[1,2,3,12,21]),(6,[2,3]),(7,[1,2,3,35]),(8,[2,3]),(9,[2])] }),
 (60,{ live:=[(0,[1]),(1,[2])],dec:=[6,10,15,20] }),
 (61,{ live:=[(0,[0]),(1,[2])],dec:=[5] }),
 (62,{ live:=[(0,[0]),(1,[0,3]),(2,[0,3,6,7,8]),(3,[0,3,6,7,8,9]),(4,[0,3,5,6,7,8]),(5,[0,3,5,6,7,8,14]),(6,[2]),(7,[0,3,6,7,8]),(8,[0,3,6,7,8]),(9,[2])],dec:=[27],rd:=[(4,[5])] }),
 (63,{ live:=[(0,[0,1]),(1,[4])] }),
 (65,{ live:=[(0,[1]),(1,[2,3])] }),
 (66,{ live:=[(0,[1]),(1,[2,3])] }),
 (67,{ live:=[(0,[1]),(1,[1,4,5]),(2,[1,4,5,20]),(3,[2,3]),(4,[1,6,7]),(5,[1,6,31]),(6,[2,3]),(7,[2,3])] }),
 (68,{ live:=[(0,[2,3,4]),(1,[2,3,4,6]),(2,[2,3,4,6,39]),(3,[4,5]),(4,[2,4,47,48,49]),(5,[2,4,47,48,49,50]),(6,[2,4,8,47,48,49]),(7,[2,4,8,47,48,49,54]),(8,[2,4,9,10,47,48,49]),(9,[2,4,9,10,47,48,49,64]),(10,[4,5]),(11,[2,4,47,48,49]),(12,[2,4,47,48,49]),(13,[4,5])],dec:=[19,23,29,34],rd:=[(1,[6]),(6,[8]),(8,[9])] }),
 (73,{ live:=[(0,[0,1]),(1,[0,1,7,8]),(2,[0,1,7,8,9]),(3,[0,1,5,7,8]),(4,[0,1,5,7,8,16]),(5,[4]),(6,[0,1,7,8]),(7,[4])] }),
 (74,{ live:=[(0,[1,2]),(1,[3])] }),
 (75,{ live:=[(0,[1,2]),(1,[1,2]),(2,[2])] }),
 (76,{ live:=[(0,[0,1]),(1,[0,1,7,8]),(2,[0,1,7,8,9]),(3,[0,1,5,7,8]),(4,[0,1,5,7,8,16]),(5,[4]),(6,[0,1,7,8]),(7,[4])] }),
 (77,{ live:=[(0,[1,2]),(1,[3])] }),
 (78,{ live:=[(0,[0,2]),(1,[0,2,3]),(2,[0,2,3,16]),(3,[0,2,3]),(4,[0,2,3,20]),(5,[0,2,3,20,21]),(6,[0,2,3,4,20]),(7,[0,2,3,20]),(8,[0,2,3,20]),(9,[2,3,5,6]),(10,[2,3,5,6,40]),(11,[2,3,5,6]),(12,[2,3,5,6]),(13,[2,5,7]),(14,[2,5,7,46]),(15,[2,5,7,46,47]),(16,[2,5,7,8,46]),(17,[2,5,7,46]),(18,[2,5,7,46]),(19,[2])],fresh:=[10] }),
 (79,{ live:=[(0,[1]),(1,[1,21]),(2,[2]),(3,[1,23,24,25]),(4,[1,23,24,25,26]),(5,[1,3,4,23,24,25]),(6,[1,4,5,23,24,25]),(7,[1,23,24,25,74]),(8,[2]),(9,[1,23,24,25]),(10,[2])],dec:=[10,15,32,37,40,55,60,66],rd:=[(5,[4])] }),
 (80,{ live:=[(0,[2,3]),(1,[4])],dec:=[8] }),
 (83,{ live:=[(0,[2,3,4]),(1,[2,3,4,22]),(2,[4,5]),(3,[2,3,4,6]),(4,[2,3,4,6,7]),(5,[4,6,7,30,31,32]),(6,[4,6,7,30,31,32,33]),(7,[4,6,7,9,30,31,32]),(8,[4,6,7,9,10,11,30,31,32]),(9,[4,6,7,9,10,30,31,32,44]),(10,[4,6,7,9,30,31,32]),(11,[4,6,7,30,31,32]),(12,[4,6,7,30,31,32]),(13,[4,6,7,30,31,32]),(14,[4,6,7,67]),(15,[4,5]),(16,[4,6,7]),(17,[4,6,7,12]),(18,[4,6,12,71,72,73]),(19,[4,6,12,71,72,73,74]),(20,[4,6,12,14,71,72,73]),(21,[4,6,12,71,72,73]),(22,[4,6,12,71,72,73]),(23,[4,5])],dec:=[18],rd:=[(7,[9]),(8,[10]),(20,[14])] }),
 (84,{ live:=[(0,[0]),(1,[0,3]),(2,[0,3,4]),(3,[0,3,4,10,11]),(4,[0,3,4,10,11,12]),(5,[0,3,4,5,10,11]),(6,[0,3,4,10,11]),(7,[0,3,4,10,11]),(8,[4]),(9,[2])],esc:=true }),
 (85,{ live:=[(0,[0,1]),(1,[0,1,6]),(2,[0,1]),(3,[0,1]),(4,[0,1,16]),(5,[0]),(6,[4])],esc:=true,nil:=[(5,[⟨.sl 0,900000850,.bl⟩])] }),
 (87,{ live:=[(0,[0]),(1,[0,5]),(2,[0,5,6]),(3,[5,6,9,10,11]),(4,[5,6,9,10,11,12]),(5,[5,6,7,8,9,10,11]),(6,[5,6,7,8,9,10,11,16]),(7,[5,6,7,8,9,10,11,16]),(8,[5,6,7,8,9,10,11,16]),(9,[5,6,7,8,9,10,11]),(10,[5,6,7,9,10,11,39]),(11,[5,6]),(12,[5,6,9,10,11]),(13,[5,6,44]),(14,[2,3,4]),(15,[2,3,4])],dec:=[21,28] }),
 (88,{ live:=[(0,[0,2]),(1,[0,2,5]),(2,[0,2,5,15]),(3,[2,3,4]),(4,[0,2,5,26]),(5,[2,6,7,8]),(6,[2,3,4]),(7,[0,2,5,9,10,11]),(8,[2,5,9,10,11,12,13,14]),(9,[2,5,9,10,12,13,72]),(10,[2,3,4]),(11,[2,3,4])],dec:=[19,61,65,69] }),
 (90,{ live:=[(0,[1]),(1,[1,4]),(2,[2]),(3,[2])],dec:=[8,13,23] }),
 (91,{ live:=[(0,[0,1]),(1,[0,1,10]),(2,[4]),(3,[0,1,12,13]),(4,[0,1,12,13,14]),(5,[0,1,5,12,13]),(6,[0,1,12,13,24]),(7,[4]),(8,[0,1,12,13]),(9,[4])] }),
 (92,{ live:=[(0,[1,2,3]),(1,[1,2,17]),(2,[6,7]),(3,[6,7])],dec:=[10] }),
 (93,{ live:=[(0,[2,3,4]),(1,[2,8]),(2,[10,11]),(3,[10,26]),(4,[6,7]),(5,[6,7])],rd:=[(1,[8]),(2,[10])] }),
 (94,{ live:=[(0,[0,1]),(1,[0,1,11]),(2,[4,5]),(3,[0,1,6]),(4,[0,6,12,13,14]),(5,[0,6,12,13,14,15]),(6,[0,6,8,12,13,14]),(7,[0,6,8,12,13,14,29]),(8,[4,5]),(9,[0,6,8,12,13,14]),(10,[0,6,8,12,13,14,34]),(11,[0,6,12,13,14]),(12,[0,6,12,13,14]),(13,[4,5])],dec:=[20],rd:=[(6,[8])] }),
 (95,{ live:=[(0,[1]),(1,[2])],dec:=[7] }),
 (103,{ live:=[(0,[0]),(1,[0,4]),(2,[2]),(3,[2])],vecs:=[5],esc:=true }),
 (104,{ live:=[(0,[0]),(1,[0,4]),(2,[2]),(3,[2])],vecs:=[5],esc:=true }),
 (105,{ live:=[(0,[0]),(1,[0])] }),
 (106,{ live:=[(0,[0]),(1,[0])] }),
 (107,{ live:=[(0,[0,2,6]),(1,[0,2,6,7]),(2,[0,2,6,7,19]),(3,[0,2,6,7,19,20]),(4,[0,2,6,7,8,19]),(5,[0,2,6,7,8,9,10,19]),(6,[0,2,6,7,9,11,19]),(7,[0,2,6,7,11,12,19]),(8,[0,2,6,7,11,12,19]),(9,[0,2,6,7,11,19]),(10,[0,2,6,7,19]),(11,[0,2,6,7,19]),(12,[0,7,95]),(13,[0,7,95,96]),(14,[0,7,13,95]),(15,[0,7,95]),(16,[0,7,95])],rd:=[(0,[6])] }),
 (108,{ live:=[(0,[1]),(1,[2])],dec:=[7,12] }),
 (109,{ live:=[(0,[2,3]),(1,[4])],dec:=[8] }),
 (110,{ live:=[(0,[0,1]),(1,[4])] }),
 (112,{ live:=[(0,[0]),(1,[0,3]),(2,[0,3,9,10,11]),(3,[0,3,9,10,11,12]),(4,[0,3,5,9,10,11]),(5,[0,3,9,10,11]),(6,[0,3,9,10,11,20]),(7,[0,3,9,10,11]),(8,[0,3,9,10,11]),(9,[0,6]),(10,[6,25,26,27]),(11,[6,25,26,27,28]),(12,[6,8,25,26,27]),(13,[6,25,26,27]),(14,[6,25,26,27]),(15,[2])],raw:=[129],fresh:=[24] }),
 (113,{ live:=[(0,[2,3,4]),(1,[2,3,4,23]),(2,[4,5]),(3,[2,3,4,6]),(4,[2,3,4,6]),(5,[2,3,4,6]),(6,[4,6,7]),(7,[4,7,43]),(8,[7,8]),(10,[4,5])],dec:=[12,17],fresh:=[43],rd:=[(8,[8])] }),
 (114,{ live:=[(0,[0,1,4])] }),
 (115,{ live:=[(0,[2,3]),(1,[4])] }),
 (116,{ live:=[(0,[0]),(1,[0,3]),(2,[0,3]),(3,[0,3,7]),(4,[0,3]),(5,[0,3]),(6,[2])] }),
 (117,{ live:=[(0,[0,1,2]),(1,[6])],dec:=[10] }),
 (118,{ live:=[(0,[0,1]),(1,[0,1]),(2,[1]),(3,[4,5])] }),
 (119,{ live:=[(0,[0]),(1,[2])] }),
 (124,{ live:=[(0,[0,2]),(1,[0,2,3]),(2,[0,2,3,7]),(3,[0,2,3,7,8]),(4,[0,2,3,4,7]),(5,[0,2,3,4,7,11]),(6,[0,2,3,7]),(7,[0,2,3,4,5,6,7]),(8,[0,2,3,7]),(9,[0,2,3,7]),(10,[2])] }),
 (125,{ live:=[(0,[0,1]),(1,[4])] }),
 (126,{ live:=[(0,[0]),(1,[0,3]),(2,[3,6,7,8]),(3,[3,6,7,8,9]),(4,[3,5,6,7,8]),(5,[3,5,6,7,8,14]),(6,[2]),(7,[3,6,7,8]),(8,[2])] }),
 (127,{ live:=[(0,[0,1]),(1,[0,1,5]),(2,[0,1,5,6]),(3,[0,1,6,11]),(4,[12]),(5,[4]),(6,[4]),(7,[0,1,13]),(8,[4]),(9,[0,1,16]),(10,[4]),(11,[19]),(12,[4]),(13,[4])] }),
 (129,{ live:=[(0,[0,1]),(1,[0,1,6]),(2,[0,1]),(3,[0,1]),(4,[0,1,16]),(5,[0]),(6,[4])],esc:=true,nil:=[(5,[⟨.sl 0,900001290,(.sl 19 (.ag [(.ba 16),(.ag [(.i .i64),(.i .i64)]),(.sl 4 (.ag [(.i .i64),(.ag [(.ag [(.i .i64),(.i .i64)]),.s])]))]))⟩])] }),
 (130,{ live:=[(0,[0,3]),(1,[0,9,10,11]),(2,[0,9,10,11,12]),(3,[0,5,9,10,11]),(4,[0,5,6,7,9,10,11]),(5,[0,5,6,9,10,11,22]),(6,[0,9,10,11]),(7,[0,9,10,11]),(8,[0,9,10,11])],rd:=[(3,[5]),(4,[6])] }),
 (131,{ live:=[(0,[2,3,4]),(1,[2,3,4,7]),(2,[4]),(3,[4])] }),
 (132,{ live:=[(0,[2,3]),(1,[4])],esc:=true }),
 (133,{ live:=[(0,[0,1,2,3,4,10]),(1,[0,1,2,3,4,10,11]),(2,[0,1,2,3,4,10,11,12]),(3,[0,1,2,3,4,10,11,12,25]),(5,[0,1,2,3,4,10,11,12,32]),(7,[0,1,2,3,4,10,11,12,39]),(8,[0,1,2,3,4,10,11,12]),(9,[0,1,2,3,4,10,11,12]),(10,[0,1,2,3,4,10,11,12,13,14]),(11,[0,1,2,3,4,10,11,12,13,14,56]),(12,[0,1,2,3,4,10,11,12,13]),(13,[0,1,2,3,4,10,11,12,13]),(14,[0,1,2,3,4,10,11,12,13,14]),(15,[0,1,2,3,4,10,11,12,13,75]),(16,[0,1,2,3,4,10,11,12,13,80]),(17,[0,1,2,3,4,10,11,12,13,97]),(18,[0,2,3,4,10,11,15]),(19,[0,1,2,3,4,10,11]),(20,[0,1,2,3,4,12,16,17]),(21,[0,1,2,3,4,11,12,16]),(22,[0,1,2,3,4,11,12,16,18,19]),(23,[0,1,2,3,4,11,16,18,19,20]),(24,[0,1,2,3,4,11,16,18,19,20,125]),(25,[0,1,2,3,4,10,11,16]),(26,[0,2,3,4,10,11,16]),(27,[0,1,2,3,4,10,11]),(28,[0,1,2,3,4,10,11,16]),(29,[0,1,3,4,10,11,16]),(30,[0,1,2,3,4,10,11])],dec:=[69,72,83] }),
 (134,{ live:=[(0,[0]),(1,[2]),(2,[2])] }),
 (135,{ live:=[(0,[0,6]),(2,[19])] }),
 (142,{ live:=[(0,[0,1]),(1,[0,5]),(2,[4])] }),
 (143,{ live:=[(0,[0]),(1,[2])] }),
 (144,{ live:=[(0,[2,3,4]),(1,[2,3,4,7]),(2,[4]),(3,[4])] }),
 (145,{ live:=[(0,[0,1,2,7]),(1,[0,1,2,7,8]),(2,[0,1,2,4,7]),(3,[0,1,2,4,5,6,7]),(4,[0,1,2,7,30]),(5,[0,1,2,7])],dec:=[17,23],rd:=[(3,[5])] }),
 (146,{ live:=[(0,[0,1,2,3,8]),(1,[0,1,2,3,8,14]),(2,[0,1,2,3,8]),(3,[0,1,2,3,8,9]),(4,[0,1,2,3,8,9,34]),(5,[0,1,2,3,8,9]),(6,[0,1,2,3,8,9])],dec:=[21] }),
 (147,{ live:=[(0,[0,1,2,3,8]),(1,[0,1,2,3,8,9]),(2,[0,3,8,9,10]),(3,[0,3,8,9,10,11]),(4,[0,3,8,9,10,11,21]),(5,[0,3,8,9,10,11]),(6,[0,3,8,9,10,11]),(7,[0,3,8,9,12]),(8,[0,3,8,9,12,33]),(9,[0,3,8,9,12]),(10,[0,3,8,9,12]),(11,[0,3,8,9,12])] }),
 (148,{ live:=[(0,[0,1,8]),(1,[0,1,8,17]),(2,[0,1,8,9]),(3,[0,1,8,9,10]),(4,[0,1,8,9,10,11]),(5,[0,1,8,9,10,11,35]),(6,[0,1,8,9,10,11]),(7,[0,1,8,9,10,11,12]),(8,[0,1,8,9,10,11,12,45]),(9,[0,1,8,9,10,11,12]),(10,[0,1,8,9,10,11])] }),
 (149,{ live:=[(0,[0,1,2,3]),(1,[0,1,3,10]),(2,[0,1,3,10,11]),(3,[0,1,3,10,11,12]),(4,[0,1,3,10,11,12,13]),(5,[0,3,10,11,12,13,14]),(6,[0,3,10,11,12,13,14,34]),(7,[0,3,11,12,13,14,36]),(8,[0,3,11,12,13,14]),(9,[0,3,11,12,13,14]),(10,[0,3,11,12,13,14]),(11,[11,13]),(12,[13,55]),(13,[8,9]),(14,[13,55,57]),(15,[8,9]),(16,[13,60]),(17,[8,9])] }),
 (150,{ live:=[(0,[0,2,8]),(1,[0,8,9]),(2,[0,8,9,15]),(3,[0,8,9]),(4,[0,8,9]),(5,[0,8,9])] }),
 (151,{ live:=[(0,[0,1,2,3]),(1,[0,1,2,3,9]),(2,[0,1,2,3,9,10]),(3,[0,1,2,3,9,10,16]),(4,[0,1,2,3,9,10]),(5,[0,1,2,3,9,10,36]),(6,[0,1,2,3,9,10]),(7,[0,1,2,3,9,10,41]),(8,[8]),(9,[0,1,2,3,9,10,45]),(10,[8]),(11,[0,1,2,3,9,10]),(12,[0,1,2,3,9,10,65]),(13,[0,1,2,3,9,10,11]),(14,[0,1,2,3,9,10,11,69]),(15,[0,1,2,3,9,10,11]),(16,[0,1,2,3,9,10,11,84]),(17,[0,1,2,3,9,10,11]),(18,[0,1,2,3,9,10,104]),(19,[0,1,2,3,9,10,12]),(20,[0,1,2,3,9,10,12,109]),(21,[0,1,2,3,9,10,12]),(22,[0,1,2,3,9,10,12,124]),(23,[0,1,2,3,9,10,12]),(24,[8])],dec:=[22] }),
 (152,{ live:=[(0,[0,1,2,3,4]),(1,[0,1,2,4]),(2,[0,1,4,11,12]),(3,[0,1,4,11,12,47]),(4,[0,1,4,11,12]),(5,[0,1,4,11,12,65]),(6,[0,1,4,11,12]),(7,[0,1,4,11,12,70]),(8,[0,1,4,11,12]),(9,[0,1,4,11,12]),(10,[0,1,4,11,12]),(11,[10])],dec:=[34,53] }),
 (153,{ live:=[(0,[0,1,2,3,4]),(1,[0,1,2,4]),(2,[0,1,4,12,13]),(3,[0,1,4,12,13,47]),(4,[0,1,4,12,13]),(5,[0,1,4,12,13,66]),(6,[0,1,4,12,13]),(7,[0,1,4,12,13,71]),(8,[13]),(9,[10,11]),(10,[0,1,4,12,13]),(11,[0,1,4,12,13]),(12,[0,1,4,12,13]),(13,[0,1,4,12,13,120]),(14,[0,1,4,12,13]),(15,[0,1,4,12,13,139]),(16,[0,1,4,12,13]),(17,[0,1,4,12,13,144]),(18,[0,1,4,12,13]),(19,[0,1,4,12,13]),(20,[0,1,4,12,13]),(21,[13]),(22,[10,11])],dec:=[35,53,108,126] }),
 (154,{ live:=[(0,[0,2]),(1,[0,2,4]),(2,[0]),(3,[0,2]),(4,[0,2,8]),(5,[0,2]),(6,[0,2]),(7,[2])] }),
 (155,{ live:=[(0,[0,2]),(1,[0,2,4]),(2,[0]),(3,[0,2]),(4,[0,2,8]),(5,[0,2]),(6,[0,2]),(7,[0,2,14]),(8,[0,2]),(9,[0,2]),(10,[2])] }),
 (159,{ live:=[(0,[2,3]),(1,[5]),(2,[13,14]),(3,[13,14,15]),(4,[7,13,14]),(5,[8,13,14]),(6,[8,13,14,20]),(7,[4]),(8,[13,14]),(9,[4])],rd:=[(1,[5])] }),
 (160,{ live:=[(0,[0,2,3,4,10]),(1,[0,2,3,4,10,11]),(2,[0,2,3,4,10,11,18]),(3,[0,2,3,4,10,11,40]),(4,[0,2,3,4,10,11]),(5,[0,2,3,4,10,11,58]),(6,[0,2,3,4,11]),(7,[0,2,3,4,10])],dec:=[23] }),
 (161,{ live:=[(0,[0]),(1,[2])] }),
 (162,{ live:=[(0,[0]),(1,[0]),(2,[0]),(3,[0]),(4,[2])] }),
 (163,{ live:=[(0,[0,1,2,3]),(1,[8])] }),
 (164,{ live:=[(0,[0,1,2,3,4,5]),(1,[0,1,2,3,4,5]),(2,[0,1,2,4,5]),(3,[2]),(4,[12])] }),
 (166,{ live:=[(0,[0,1]),(1,[2])] }),
 (167,{ live:=[(0,[2,3,4]),(1,[2,3,4,7]),(2,[6]),(3,[12]),(4,[6]),(5,[6])] }),
 (168,{ live:=[(0,[0,1]),(1,[2])] }),
 (169,{ live:=[(0,[2,3,4]),(1,[2,3,4,7]),(2,[6]),(3,[12]),(4,[6]),(5,[6])] }),
 (170,{ live:=[(0,[2,3]),(1,[4])],dec:=[8] }),
 (171,{ live:=[(0,[0,1]),(1,[2])] }),
 (172,{ live:=[(0,[0,1]),(1,[0,1,5]),(2,[0,1,5,6]),(3,[0,1,6,11]),(4,[12]),(5,[4]),(6,[4]),(7,[0,1,13]),(8,[4]),(9,[0,1,16]),(10,[4]),(11,[19]),(12,[4]),(13,[4])] }),
 (173,{ live:=[(0,[0,1,2,3,4]),(1,[1,2,3,22]),(2,[1,2]),(3,[10,11]),(4,[10,11])] }),
 (175,{ live:=[(0,[0]),(1,[2])] })]
def qHb (k:FuncId):TH:=(get qG2 k).getD {}
theorem qHz:qkq Tryz.prog [113]:=⟨qFp (fn:=Tryz.f113) (c:=Tryz.f113.body.getD .skip) (by kernel_rfl) (by kernel_rfl) (by kernel_rfl),trivial⟩
def qvw:Option Bool:=some true
theorem qzA:qz9 Tryz.prog qHb [113] [qwi,qqd] 400 30 11=some (.pv (.b true),[]):=by kernel_rfl
def quP:Ent:=smF ⟨11,[],[],[],[]⟩ [] Bool (fun _=>qvw) cs1 fun _ z=>(xb z,[])
theorem qDa:zd Tryz.prog quP:=qHx Tryz.prog (fun _=>rfl) qk (base:=[qwi,qqd]) ⟨qHO,qyF,trivial⟩ qHz qzA
end Go.Rx
end
noncomputable section
namespace Go.Rx
open Go.RowKit
variable {P:Program} {γ:Hm} {G:Gh} {w w':World}
theorem qyj {K : FuncId} {fn : Func} {c : Code} (hf : P.funcs[K]? = some fn) (hb : fn.body = some c) (hname : (fn.name == "runtime.NumGoroutine") = false) {args : List AV} {h h' : Ob} {r : AV}
    (hc:∀ γ G w vas,qA h γ G w→zg h γ G w args vas→Calls P K vas.toArray w fun e w''=>∃ v,e=.returned v∧∃ γ' G',qA h' γ' G' w''∧Trans h γ G w h' γ' G' w''∧qB h' γ' G' w'' r v) (l:Nat) :
    Valid P l (.fn (.func K) [] []) args h (.ret r) h':=by
 intro γ G w vf vas H hvf hva
 have h1:=q_ rfl rfl hvf
 simp only [qh] at h1
 obtain ⟨va,vc,h1,h2,h3⟩:=h1
 simp only [zg] at h2 h3
 subst h2; subst h3
 simp only [List.cons.injEq,and_true] at h1
 subst h1
 refine ⟨r,rfl,?_⟩
 unfold JK
 have hrun:(do let d ← Deferred.ofValue (.func (.func K) ([]:List Value).toArray ([]:List Value).toArray) vas.toArray; invoke d.target d.args:Sem Next).run P w=.ok (.enter K vas.toArray) w:=by
  simp only [Deferred.ofValue,Sem.run_bind,Sem.run_pure,Result.andThen_ok,invoke,callFunc,run_program,hf,hname,hb,Option.isNone_some,Bool.false_eq_true,if_false]
  simp
 rw [hrun]
 exact hc γ G w vas H hva
theorem qxg {K : FuncId} {fn : Func} {c : Code} (hf : P.funcs[K]? = some fn) (hb : fn.body = some c) (hname : (fn.name == "runtime.NumGoroutine") = false) {args : List AV} {h h' : Ob} {r : AV} {l : Nat} {vas : List Value}
    (hv:Valid P l (.fn (.func K) [] []) args h (.ret r) h') (H:qA h γ G w) (ha:zg h γ G w args vas) :
    Calls P K vas.toArray w fun e w''=>∃ v,e=.returned v∧∃ γ' G',qA h' γ' G' w''∧Trans h γ G w h' γ' G' w''∧qB h' γ' G' w'' r v:=by
 obtain ⟨r',e,hc⟩:=hv γ G w (.func (.func K) ([]:List Value).toArray ([]:List Value).toArray) vas H (zf rfl (by simp only [qh,zg]; exact ⟨[],[],rfl,rfl,rfl⟩)) ha
 cases e
 unfold JK at hc
 have hrun:(do let d ← Deferred.ofValue (.func (.func K) ([]:List Value).toArray ([]:List Value).toArray) vas.toArray; invoke d.target d.args:Sem Next).run P w=.ok (.enter K vas.toArray) w:=by
  simp only [Deferred.ofValue,Sem.run_bind,Sem.run_pure,Result.andThen_ok,invoke,callFunc,run_program,hf,hname,hb,Option.isNone_some,Bool.false_eq_true,if_false]
  simp
 rw [hrun] at hc
 exact hc
theorem qiq (H:qA [] γ G w) (hb:Below w.heap.size w w'):qA [] γ G w'∧Trans [] γ G w [] γ G w':=
 qgM H G w' hb.size (fun b h=>hb.block b h) (fun _ _ h=>h) (fun _ _ h h'=>absurd h h') ⟨hb.os,hb.output⟩
end Go.Rx
end
namespace Go.Proofs
open Go.Shelf Go.RowKit
set_option maxRecDepth 100000
set_option maxHeartbeats 2000000
theorem qyy:(Tryz.prog.info? 152).map (·.size)=some 2:=by kernel_rfl
theorem qGV:liesAt Tryz.prog Tryz.prog.depth 152 (2 / Tryz.prog.cellsOf 152) 0 152 1=true:=by kernel_rfl
theorem qFa (b : Nat) (w : World) (h0 : w.cell? ⟨b, 0, none⟩ = some (.pointer (some ⟨b, 0, none⟩))) :
    Calls Tryz.prog 135 #[.pointer (some ⟨b,0,none⟩)] w fun e w'=>e=.returned (.tuple #[])∧w'=w:=by
 obtain ⟨j,hj,_⟩:=Option.map_eq_some_iff.1 qyy
 go_enter Tryz.func135,Tryz.ntmps135
 go_wp2
 rw [Lib.run_neq_ptr_same w _ Tryz.underlying150 hj]
 go_wp2
 go_end0
 exact ⟨rfl,rfl⟩
theorem qBu (b : Nat) (w : World) (h0 : w.cell? ⟨b, 0, none⟩ = some (.pointer none)) (hsh : w.shape? b = some (152, 2)) (hfz : w.frozen? ⟨b, 0, none⟩ = false) :
    Calls Tryz.prog 135 #[.pointer (some ⟨b,0,none⟩)] w fun e w'=>e=.returned (.tuple #[])∧w'=w.setCell ⟨b,0,none⟩ (.pointer (some ⟨b,0,none⟩)):=by
 obtain ⟨j,hj,hjs⟩:=Option.map_eq_some_iff.1 qyy
 go_enter Tryz.func135,Tryz.ntmps135
 go_wp2
 rw [Lib.run_to_unsafe w ⟨b,0,none⟩ Tryz.underlying150 Tryz.underlying191 hj (by rw [hjs]; decide) hsh (Nat.zero_lt_succ 1)]
 simp only [Result.andThen]
 rw [Oper.upon_value]
 go_wp2
 rw [run_callFunc_extern Tryz.func156 (by kernel_rfl) (by kernel_rfl) (by kernel_rfl) (e:=Extern.AbiNoEscape.same) (by kernel_rfl)]
 rw [Lib.run_noEscape]
 simp only [Result.andThen]
 rw [Oper.upon_value]
 go_wp2
 rw [Lib.run_from_unsafe w ⟨b,0,none⟩ Tryz.underlying191 Tryz.underlying150 hj hsh qGV]
 simp only [Result.andThen]
 rw [Oper.upon_value]
 go_wp2
 go_end0
 exact ⟨rfl,rfl⟩
theorem qDp (B b : Nat) (bs : List Value) (w : World) (h : Lib.IsBuilderF 152 5 B b bs w) :
    Calls Tryz.prog 135 #[.pointer (some ⟨b,0,none⟩)] w fun e w'=>e=.returned (.tuple #[])∧(Lib.BuilderAtF 152 5 B b (.pointer (some ⟨b,0,none⟩)) bs w'∧Below B w w'∧Lib.OthersKept 5 (some b) w w'):=by
 rcases h with h | h
 ·refine (qBu b w h.cell0 h.shape h.frozen0).mono ?_
  rintro e w' ⟨rfl,rfl⟩
  exact ⟨rfl,h.used _,(Below.refl B w).setCell (p:=⟨b,0,none⟩) h.1 _,(Lib.OthersKept.refl _ _ w).setCell ⟨b,0,none⟩ rfl _⟩
 ·refine (qFa b w h.cell0).mono ?_
  rintro e w' ⟨rfl,rfl⟩
  exact ⟨rfl,h,Below.refl B _,Lib.OthersKept.refl _ _ _⟩
theorem infoByte:(Tryz.prog.info? 5).map (fun i=>(i.zero,i.size,i.bytes))=some (some (.int .u8 0),1,1):=by kernel_rfl
theorem qle (B b : Nat) (bs : List Value) (s : ByteArray) (w : World) (h : Lib.IsBuilderF 152 5 B b bs w) (hlen : bs.length + s.size ≤ 140737488355328) (hBw : B ≤ w.heap.size) :
    Calls Tryz.prog 118 #[.pointer (some ⟨b,0,none⟩),.string s] w fun e w'=>e=.returned (.tuple #[.int .i64 s.size,.nilIface])∧(Lib.BuilderAtF 152 5 B b (.pointer (some ⟨b,0,none⟩)) (bs++Lib.strCells s) w'∧Below B w w'∧Lib.OthersKept 5 (some b) w w'):=by
 obtain ⟨i0,hi,hz0,hz1,hz2⟩:=info_parts infoByte
 go_enter Tryz.func118,Tryz.ntmps118
 go_wp2_with (go_at_call 135; refine (qDp B b bs _ h).mono ?_)
 rintro e w1 ⟨rfl,h1,hb1,hk1⟩
 obtain ⟨hB,v,hbk,hown,hne⟩:=h1
 have c0:w1.cell? ⟨b,0,none⟩=some (.pointer (some ⟨b,0,none⟩)):=by rw [Lib.cell_of_heap hbk]; rfl
 have c1:w1.cell? ⟨b,1,none⟩=some v:=by rw [Lib.cell_of_heap hbk]; rfl
 go_wp2_with (at_builtin; refine Lib.wpList_append_own_stringF _ rfl _ _ 31 9 rfl B 5 i0 Tryz.underlying31 Tryz.underlying9 hi hz0 hz1 hz2 _ _ _ rfl hown s rfl ?c3 ?c4 ?c5 ?_)
 case c3=>unfold maxLen; omega
 case c4=>omega
 case c5=>have:=hb1.size; omega
 intro v' w2 hown' hgrow _
 have hlt:b < w1.heap.size:=by
  rcases Nat.lt_or_ge b w1.heap.size with h' | h'
  ·exact h'
  ·simp [Array.getElem?_eq_none h'] at hbk
 have hb2:w2.heap[b]?=some (.cells #[.pointer (some ⟨b,0,none⟩),v] 152 (0,0)):=by
  rw [hgrow.block b hlt (fun e=>hne e.symm)]
  exact hbk
 have d0:w2.cell? ⟨b,0,none⟩=some (.pointer (some ⟨b,0,none⟩)):=by rw [Lib.cell_of_heap hb2]; rfl
 have d1:w2.cell? ⟨b,1,none⟩=some v:=by rw [Lib.cell_of_heap hb2]; rfl
 have f1:w2.frozen? ⟨b,1,none⟩=false:=Lib.frozen_of_heap hb2 1
 obtain ⟨ao,n',cap,rfl⟩:∃ ao n' cap,v'=.slice ao n' cap:=by
  rcases hown'.2 with ⟨hv,_⟩ | ⟨g,cap,cur,fz,hv,_⟩
  ·exact ⟨_,_,_,hv⟩
  ·exact ⟨_,_,_,hv⟩
 go_wp2
 go_ret2
 refine ⟨rfl,?_,?_,(hk1.grown hgrow (Lib.ownsRowF_kind hown)).setCell ⟨b,1,none⟩ rfl _⟩
 ·exact Lib.BuilderAtF.put (T:=152) (e:=5) hB hb2 (bs':=bs++Lib.strCells s) (by simpa [Lib.strCells_length] using hown') (by decide)
 ·exact (hb1.grown hgrow (by have:=hb1.size; omega) (fun k hk=>(hown.lt k hk).1)).setCell (p:=⟨b,1,none⟩) hB _
def qCD:Go.Shelf.Ren:=⟨fun | 169=>119 | n=>n,fun | 70=>150 | 9=>9 | 0=>0 | 72=>152 | 37=>31 | 127=>176 | 3=>3 | 5=>5 | n=>n,fun | n=>n⟩
theorem qHG:Go.Proofs.Lays.n169 Tryz.prog qCD:={
 mixed:=by kernel_rfl
 f169:=Tryz.func119.trans (congrArg some (by kernel_rfl))
 t0:=Tryz.underlying0
 a0:=Tryz.isAgg0
 z0:=Tryz.sizeOf0
 v0:=Tryz.zeroValue0
 t3:=Tryz.underlying3
 a3:=Tryz.isAgg3
 z3:=Tryz.sizeOf3
 v3:=Tryz.zeroValue3
 t9:=Tryz.underlying9
 a9:=Tryz.isAgg9
 z9:=Tryz.sizeOf9
 v9:=Tryz.zeroValue9
 t37:=Tryz.underlying31
 a37:=Tryz.isAgg31
 z37:=Tryz.sizeOf31
 v37:=Tryz.zeroValue31
 t70:=Tryz.underlying150
 a70:=Tryz.isAgg150
 z70:=Tryz.sizeOf150
 v70:=Tryz.zeroValue150
 t72:=Tryz.underlying152
 a72:=Tryz.isAgg152
 z72:=Tryz.sizeOf152
 v72:=Tryz.zeroValue152
 t127:=Tryz.underlying176
 a127:=Tryz.isAgg176
 z127:=Tryz.sizeOf176
 v127:=Tryz.zeroValue176 }
theorem qF4:Builder.Extra Tryz.prog qCD:={
 sizeBuilder:=by kernel_rfl
 liesBuilder:=by kernel_rfl
 t5:=Tryz.underlying5
 a5:=Tryz.isAgg5
 z5:=Tryz.sizeOf5
 v5:=Tryz.zeroValue5
 infoByte:=by kernel_rfl
 cellsByte:=by kernel_rfl
 sizeByte:=by kernel_rfl
 neB5:=by decide }
theorem qAk (B b : Nat) (l : List UInt8) (w : World) (h : Lib.IsBuilderF 152 5 B b (Lib.byteCells l) w) (hBw : B ≤ w.heap.size) :
    Calls Tryz.prog 119 #[.pointer (some ⟨b,0,none⟩)] w fun e w'=>e=.returned (.string ⟨l.toArray⟩)∧(Lib.IsBuilderF 152 5 B b (Lib.byteCells l) w'∧Below B w w'∧Lib.OthersKept 5 (some b) w w'):=Any.Builder_String_any_k qHG qF4 B b l w h hBw
end Go.Proofs
set_option maxRecDepth 100000
noncomputable section
namespace Go.Rx
open Go.Proofs Go.RowKit
def qbm (a:List UInt8):List qg→List UInt8→Option (List UInt8×Bool)
 | [],acc=>some (acc,true)
 | p :: l, acc => bif qg.qbj p then
     chk (qy (((a.length:Nat):Int) - qg.jw p)) (bif decide (((a.length:Nat):Int) - qg.jw p < qg.Len p) then some ([],false) else
      chk (qy (qg.jw p + qg.Len p)∧(0≤qg.jw p∧qg.jw p≤qg.jw p + qg.Len p∧qg.jw p + qg.Len p≤((a.length:Nat):Int))∧acc.length + (qg.Lit p).length + a.length≤35184372088832)
       (qbm a l (acc++qg.Lit p++(a.take (qg.jw p + qg.Len p).toNat).drop (qg.jw p).toNat)))
  else chk (acc.length + (qg.Lit p).length≤35184372088832) (qbm a l (acc++qg.Lit p))
def qb0 (N:Nat) (a0:List UInt8) (a1:List qg):Option (List UInt8×Bool):=(Jk N a1).bind fun m=>bif m then chk (a1.length≤1000000000) (qbm a0 a1 []) else some ([],false)
theorem qr0 {γ : Hm} {G : Gh} {w : World} {N : Nat} {l : List qg} {m : Bool} (hm : Jk N l = some m) (H : qA [] γ G w) {v : Value} (hr : qv G w (qt (.sl 4 qG) l) [v]) :
    Calls Tryz.prog 62 #[v] w fun e w'=>e=.returned (.bool m)∧∃ γ' G',qA [] γ' G' w'∧Trans [] γ G w [] γ' G' w':=by
 have hv:=qi9 N (l,()) m hm 0
 refine (qxg (vas:=[v]) Tryz.func62 rfl (by kernel_rfl) hv H ?_).mono ?_
 ·exact ⟨[v],v,[],rfl,hr,rfl,rfl⟩
 ·rintro e w' ⟨u,rfl,γ',G',h1,h2,h3⟩
  refine ⟨?_,γ',G',h1,h2⟩
  have h3:qB [] γ' G' w' (.pv (.b m)) u:=h3
  rw [VY.1 h3]
def qrA (w:World) (b off:Nat) (l:List qg):Prop:=∀ k p,l[k]?=some p→w.cell? ⟨b,off + k * 4,none⟩=some (.bool (qg.qbj p))∧w.cell? ⟨b,off + k * 4 + 1,none⟩=some (.int .i64 (qg.jw p))∧
 w.cell? ⟨b,off + k * 4 + 2,none⟩=some (.int .i64 (qg.Len p))∧w.cell? ⟨b,off + k * 4 + 3,none⟩=some (.string ⟨(qg.Lit p).toArray⟩)
set_option maxHeartbeats 4000000 in
theorem qEy {γ : Hm} {G : Gh} {w : World} {N : Nat} {base : List UInt8} {l : List qg} (hm : Jk N l = some false) (H : qA [] γ G w) {v : Value} (hr : qv G w (qt (.sl 4 qG) l) [v]) :
    Calls Tryz.prog 94 #[.string ⟨base.toArray⟩,v] w fun e w'=>e=.returned (.tuple #[.string ⟨#[]⟩,.bool false])∧∃ γ' G',qA [] γ' G' w'∧Trans [] γ G w [] γ' G' w':=by
 go_enter Tryz.func94,Tryz.ntmps94
 go_wp2_with (go_at_call 62; refine (qr0 hm H hr).mono ?_)
 rintro e w1 ⟨rfl,γ',G',h1,h2⟩
 go_wp2
 go_ret2
 exact ⟨rfl,γ',G',h1,h2⟩
theorem qBI {t:Ty} (l:List (El t)):(l.map (qt t)).length=l.length∧(∀ (k:Nat) (p:El t),l[k]?=some p→(l.map (qt t))[k]?=some (qt t p))∧(l.map (qt t)=[]→l=[]):=
 ⟨List.length_map ..,fun k p h=>by rw [List.getElem?_map,h]; rfl,List.map_eq_nil_iff.1⟩
theorem qwZ {G : Gh} {w : World} {l : List qg} {v : Value} (hg : ∀ b o, G b o → b < w.heap.size) (hr : qv G w (qt (.sl 4 qG) l) [v]) :
    ∃ a cap,v=.slice a l.length cap∧(l=[]∨∃ b off,a=some ⟨b,off,none⟩∧b < w.heap.size∧qrA w b off l):=by
 obtain ⟨f1,f2,f3⟩:=qBI (t:=qG) l
 have hr:qv G w (.l 4 (List.map (qt qG) l)) [v]:=hr
 generalize List.map (qt qG) l=xs at f1 f2 f3 hr
 have f1:xs.length=l.length:=f1
 obtain ⟨a,cap,h1,_,h3,h4⟩:=hr
 rw [f1] at h1
 refine ⟨a,cap,(List.cons.inj h1).1,?_⟩
 rcases h4 with h4 | ⟨b,off,vs,rfl,hv,hc,hi⟩
 ·exact .inl (f3 h4)
 ·by_cases hl:l=[]
  ·exact .inl hl
  right
  have hlen:=q6.len _ _ hv
  have hsz:=PV.J5 4 xs h3
  rw [hsz,f1] at hlen
  have hpos:0 < l.length:=List.length_pos_iff.2 hl
  refine ⟨b,off,rfl,hg b (off + 0) (hi 0 (by omega)),fun k p hp=>?_⟩
  have hk:=(List.getElem?_eq_some_iff.1 hp).1
  obtain ⟨c,d,e,rfl,hd,hcl,_,_⟩:=q6.at hv (k:=k) (y:=qt qG p) (f2 k p hp)
  rw [PV.J5 4 _ (fun x hx=>h3 x (List.mem_of_mem_take hx)),List.length_take,f1,Nat.min_eq_left (by omega)] at hcl
  have hd:d=[.bool (qg.qbj p),.int .i64 (qg.jw p),.int .i64 (qg.Len p),.string ⟨(qg.Lit p).toArray⟩]:=by
   obtain ⟨d1,r1,rfl,e1,d2,r2,rfl,e2,d3,r3,rfl,e3,d4,r4,rfl,e4,rfl⟩:=hd
   have e1:d1=[.bool (qg.qbj p)]:=e1
   have e2:d2=[.int .i64 (qg.jw p)]:=e2
   have e3:d3=[.int .i64 (qg.Len p)]:=e3
   have e4:d4=[.string ⟨(qg.Lit p).toArray⟩]:=e4
   rw [e1,e2,e3,e4]; rfl
  subst hd
  have cell:∀ j,j < 4→w.cell? ⟨b,off + k * 4 + j,none⟩=([.bool (qg.qbj p),.int .i64 (qg.jw p),.int .i64 (qg.Len p),.string ⟨(qg.Lit p).toArray⟩]:List Value)[j]?:=fun j hj=>by
   rw [show off + k * 4 + j=off + (k * 4 + j) by omega,hc (k * 4 + j) (by simp only [List.length_append,List.length_cons,List.length_nil]; omega),List.append_assoc,List.getElem?_append_right (by omega),show k * 4 + j - c.length=j by omega,List.getElem?_append_left (by simpa using hj)]
  exact ⟨cell 0 (by omega),cell 1 (by omega),cell 2 (by omega),cell 3 (by omega)⟩
theorem qs0 {B:Nat} {w w':World} {b off:Nat} {l:List qg} (h:qrA w b off l) (hb:Below B w w') (ha:b < B):qrA w' b off l:=fun k p hp=>by
 have c:∀ j,w'.cell? ⟨b,j,none⟩=w.cell? ⟨b,j,none⟩:=fun j=>hb.cell (p:=⟨b,j,none⟩) ha
 rw [c,c,c,c]
 exact h k p hp
set_option maxHeartbeats 4000000 in
theorem qD8 {γ : Hm} {G : Gh} {w : World} {N : Nat} {base : List UInt8} {l : List qg} {z : List UInt8 × Bool} (hm : Jk N l = some true) (hl9 : l.length ≤ 1000000000) (hz : qbm base l [] = some z) (H : qA [] γ G w) {v : Value} (hr : qv G w (qt (.sl 4 qG) l) [v]) :
    Calls Tryz.prog 94 #[.string ⟨base.toArray⟩,v] w fun e w'=>e=.returned (.tuple #[.string ⟨z.1.toArray⟩,.bool z.2])∧∃ γ' G',qA [] γ' G' w'∧Trans [] γ G w [] γ' G' w':=by
 go_enter Tryz.func94,Tryz.ntmps94
 go_wp2_with (go_at_call 62; refine (qr0 hm H hr).mono ?_)
 rintro e w1 ⟨rfl,γ1,G1,h1,h2⟩
 obtain ⟨a,cap,rfl,hp⟩:=qwZ h1.gok (qv.mono h2.keeps _ _ hr)
 go_wp2
 go_loopw [14] (fun i wr=>∃ (k:Nat) (acc:List UInt8),k≤l.length∧i=.int .i64 k∧Lib.IsBuilderF 152 5 w1.heap.size w1.heap.size (Lib.byteCells acc) wr∧Below w1.heap.size w1 wr∧qbm base (l.drop k) acc=some z) (fun i _=>l.length - (intOf i).toNat)
 case atStart=>
  exact ⟨0,[],Nat.zero_le _,rfl,Lib.IsBuilderF.of (Lib.fresh_isBuilder 152 5 w1),(Below.refl _ w1).alloc (Nat.le_refl _) _,hz⟩
 case round=>
  obtain ⟨k,acc,hk,rfl,hI,hbw,hA⟩:=hrel
  by_cases hlt:k < l.length
  ·obtain ⟨b,off,rfl,hbl,hpa⟩:=hp.resolve_left (fun e=>by subst e; exact absurd hlt (Nat.not_lt_zero k))
   obtain ⟨p,hpk⟩:∃ p,l[k]?=some p:=⟨_,List.getElem?_eq_getElem hlt⟩
   obtain ⟨q0,q1,q2,q3⟩:=qs0 hpa hbw hbl k p hpk
   have hdr:l.drop k=p::l.drop (k + 1):=by
    rw [List.drop_eq_getElem_cons hlt]
    rw [List.getElem?_eq_getElem hlt] at hpk
    rw [Option.some.inj hpk]
   rw [hdr] at hA
   unfold qbm at hA
   cases hc:qg.qbj p with
   | false=>
    rw [hc] at hA q0
    replace hA:=W4 hA
    obtain ⟨hle,hA⟩:=hA
    generalize qg.jw p=pf at *
    generalize qg.Len p=pl at *
    generalize qg.Lit p=pt at *
    have hs1:w1.heap.size < wr.heap.size:=hI.elim (fun x=>x.lt) (fun x=>x.lt)
    have hsz:(Lib.byteCells acc).length + (⟨pt.toArray⟩:ByteArray).size≤140737488355328:=by rw [Lib.byteCells_length]; show acc.length + pt.toArray.size≤_; rw [List.size_toArray]; omega
    go_wp2_with (go_at_call 118; refine (qle w1.heap.size w1.heap.size _ ⟨pt.toArray⟩ _ (hI.alloc _) hsz (by simp; omega)).mono ?_)
    rintro e W1 ⟨rfl,b1,b2,k1⟩
    have hh:W1.heap[wr.heap.size]?=some (.cells #[Value.bool false,Value.int IntKind.i64 pf,Value.int IntKind.i64 pl,Value.string { data:=pt.toArray }] 67):=k1 _ _ (heap_alloc_new wr _) (fun e=>by have:=Option.some.inj e; omega) (by simp)
    have g0:W1.cell? ⟨wr.heap.size,0,none⟩=some (.bool false):=by rw [Lib.cell_of_heap hh]; rfl
    go_wp2
    go_roundw
    case rel=>
     refine ⟨k + 1,acc++pt,hlt,by go_num,?_,?_,hA⟩
     ·rw [Lib.byteCells_append]; exact Or.inr b1
     ·exact (hbw.alloc (Nat.le_of_lt hs1) _).trans b2
    case measure=>simp [intOf]; omega
   | true=>
    rw [hc] at hA q0
    replace hA:=W4 hA
    obtain ⟨hin,hA⟩:=hA
    unfold qy at hin
    generalize qg.jw p=pf at *
    generalize qg.Len p=pl at *
    generalize qg.Lit p=pt at *
    by_cases hs:((base.length:Nat):Int) - pf < pl
    ·rw [decide_eq_true hs] at hA
     have hA:z=([],false):=(Option.some.inj hA).symm
     subst hA
     go_wp2
     go_ret2
     have hb:=hbw.alloc hbw.size (.cells #[Value.bool true,Value.int IntKind.i64 pf,Value.int IntKind.i64 pl,Value.string { data:=pt.toArray }] 67)
     exact ⟨rfl,γ1,G1,(qiq h1 hb).1,h2.then (qiq h1 hb).2⟩
    ·rw [decide_eq_false hs] at hA
     replace hA:=W4 hA
     obtain ⟨⟨hin2,⟨hb1,hb2,hb3⟩,hle⟩,hA⟩:=hA
     unfold qy at hin2
     have hs1:w1.heap.size < wr.heap.size:=hI.elim (fun x=>x.lt) (fun x=>x.lt)
     have hsz:(Lib.byteCells acc).length + (⟨pt.toArray⟩:ByteArray).size≤140737488355328:=by rw [Lib.byteCells_length]; show acc.length + pt.toArray.size≤_; rw [List.size_toArray]; omega
     go_wp2_with (go_at_call 118; refine (qle w1.heap.size w1.heap.size _ ⟨pt.toArray⟩ _ (hI.alloc _) hsz (by simp; omega)).mono ?_)
     rintro e W1 rfl b1 b2 k1
     have hh:W1.heap[wr.heap.size]?=some (.cells #[Value.bool true,Value.int IntKind.i64 pf,Value.int IntKind.i64 pl,Value.string { data:=pt.toArray }] 67):=k1 _ _ (heap_alloc_new wr _) (fun e=>by have:=Option.some.inj e; omega) (by simp)
     have g0:W1.cell? ⟨wr.heap.size,0,none⟩=some (.bool true):=by rw [Lib.cell_of_heap hh]; rfl
     have g1:W1.cell? ⟨wr.heap.size,1,none⟩=some (.int .i64 pf):=by rw [Lib.cell_of_heap hh]; rfl
     have g2:W1.cell? ⟨wr.heap.size,2,none⟩=some (.int .i64 pl):=by rw [Lib.cell_of_heap hh]; rfl
     go_wp2_with (go_at_call 118; refine (qle w1.heap.size w1.heap.size _ _ _ (Or.inr b1) ?z1 ?z2).mono ?_)
     case z1=>
      rw [List.length_append,Lib.byteCells_length,Lib.strCells_eq,Lib.byteCells_length,qdu]
      show acc.length + pt.length + ((base.take (pf + pl).toNat).drop pf.toNat).toArray.size≤_
      rw [List.size_toArray,List.length_drop,List.length_take]; omega
     case z2=>have:=b2.size; simp at this; omega
     rintro e W2 ⟨rfl,c1,c2,k2⟩
     go_wp2
     go_roundw
     case rel=>
      refine ⟨k + 1,acc++pt++(base.take (pf + pl).toNat).drop pf.toNat,hlt,by go_num,?_,?_,hA⟩
      ·rw [qdu] at c1
       rw [Lib.byteCells_append,Lib.byteCells_append]
       exact Or.inr c1
      ·exact ((hbw.alloc hbw.size _).trans b2).trans c2
     case measure=>simp [intOf]; omega
  ·have hke:k=l.length:=by omega
   rw [hke,List.drop_length] at hA
   have hA:z=(acc,true):=(Option.some.inj hA).symm
   subst hA
   go_wp2_with (go_at_call 119; refine (qAk w1.heap.size w1.heap.size acc _ hI hbw.size).mono ?_)
   rintro e W1 ⟨rfl,_,b1,_⟩
   go_wp2
   go_ret2
   have hb:=hbw.trans b1
   exact ⟨rfl,γ1,G1,(qiq h1 hb).1,h2.then (qiq h1 hb).2⟩
def qjb (N:Nat):Ent:=smF ⟨94,[],[.x .s,.x (.sl 4 qG)],[],[]⟩ [.s,(.sl 4 qG)] (List UInt8×Bool) (fun x=>qb0 N x.1 x.2.1) cs1 fun _ z=>(.tup [.tv .s z.1,xb z.2],[])
theorem qqN (N:Nat):zd Tryz.prog (qjb N):=qcw fun x z h l=>by
 obtain ⟨a,ps,_⟩:=x
 have h:(Jk N ps).bind (fun m=>bif m then chk (ps.length≤1000000000) (qbm a ps []) else some ([],false))=some z:=h
 refine qyj (fn:=Tryz.f94) Tryz.func94 rfl (by kernel_rfl) (fun γ G w vas H ha=>?_) l
 have ha:zg [] γ G w [.pv (.s a),.pv (qt (.sl 4 qG) ps)] vas:=ha
 simp only [zg] at ha
 obtain ⟨c1,v1,r1,rfl,hc1,ho1,c2,v2,r2,rfl,hc2,ho2,rfl⟩:=ha
 have e2:c2=[v2]:=ho2
 have e1:c1=[v1]:=ho1
 subst e1; subst e2
 have hc1:[v1]=[.string ⟨a.toArray⟩]:=hc1
 obtain rfl:=(List.cons.inj hc1).1
 have hc2:qv G w (qt (.sl 4 qG) ps) [v2]:=hc2
 have fin:∀ {e:Ending} {w':World},(e=.returned (.tuple #[.string ⟨z.1.toArray⟩,.bool z.2])∧∃ γ' G',qA [] γ' G' w'∧Trans [] γ G w [] γ' G' w')→∃ v,e=.returned v∧∃ γ' G',qA [] γ' G' w'∧Trans [] γ G w [] γ' G' w'∧qB [] γ' G' w' (.tup [.pv (.s z.1),.pv (.b z.2)]) v:=by
  rintro e w' ⟨rfl,γ',G',h1,h2⟩
  exact ⟨_,rfl,γ',G',h1,h2,_,rfl,[.string ⟨z.1.toArray⟩],_,_,rfl,rfl,rfl,[.bool z.2],_,_,rfl,rfl,rfl,rfl⟩
 cases hm:Jk N ps with
 | none=>rw [hm] at h; cases h
 | some m=>
  rw [hm,Option.bind_some] at h
  cases m with
  | false=>
   have h:z=([],false):=(Option.some.inj h).symm
   subst h
   exact (qEy hm H hc2).mono fun e w' he=>fin he
  | true=>
   obtain ⟨hl,h⟩:=W4 h
   exact (qD8 hm hl h H hc2).mono fun e w' he=>fin he
end Go.Rx
end
set_option maxRecDepth 100000
noncomputable section
namespace Go.Rx
open Go.Proofs
def qlb:List UInt8:=[0,1,2,2,3,3,3,3,4,4,4,4,4,4,4,4,5,5,5,5,5,5,5,5,5,5,5,5,5,5,5,5,6,6,6,6,6,6,6,6,6,6,6,6,6,6,6,6,6,6,6,6,6,6,6,6,6,6,6,6,6,6,6,6,7,7,7,7,7,7,7,7,7,7,7,7,7,7,7,7,7,7,7,7,7,7,7,7,7,7,7,7,7,7,7,7,7,7,7,7,7,7,7,7,7,7,7,7,7,7,7,7,7,7,7,7,7,7,7,7,7,7,7,7,7,7,7,7,8,8,8,8,8,8,8,8,8,8,8,8,8,8,8,8,8,8,8,8,8,8,8,8,8,8,8,8,8,8,8,8,8,8,8,8,8,8,8,8,8,8,8,8,8,8,8,8,8,8,8,8,8,8,8,8,8,8,8,8,8,8,8,8,8,8,8,8,8,8,8,8,8,8,8,8,8,8,8,8,8,8,8,8,8,8,8,8,8,8,8,8,8,8,8,8,8,8,8,8,8,8,8,8,8,8,8,8,8,8,8,8,8,8,8,8,8,8,8,8,8,8,8,8,8,8,8,8]
noncomputable def qoc:Code:=Tryz.f64.body.getD .skip
theorem qEv:FnF Tryz.prog 64 Tryz.f64 qoc:=⟨qk,by kernel_rfl,by kernel_rfl,by kernel_rfl⟩
def WU:TH:={ live:=[(0,[1]),(1,[1,7]),(2,[2]),(3,[1,3]),(4,[1,3,12]),(5,[1,3]),(6,[1,3,23]),(7,[2]),(8,[2])] }
def qcb (N:Nat):List Ent:=[]
theorem qaD (N:Nat):qS Tryz.prog (qcb N):=trivial
abbrev ZL:=qa
abbrev vr:=Unit⊕(Int×Bool)
def Qo (f:ZL):vr→Ex×TSt
 | .inl y=>(.ret,⟨0,24,[],[(2,.bc false)],[],false,[]⟩)
 | .inr y=>(.exit 0,⟨0,24,[],[(1,.p 10 [] 0),(3,xi y.1),(12,xb y.2)],[(10,.cell false (.tv qj f))],false,[]⟩)
def qhs (N:Nat):List (Nat×qJ):=[]
abbrev Qr:=Int
def qab:SP:=⟨0,24,[],[(1,.k (.p 10 [] 0)),(3,.x (.i .i64))],[(10,.cell false (.x qj))],false,[]⟩
def qgC (f:ZL) (v:Qr):TSt:=jv qab [dv qj f,dv (.i .i64) v]
def ZF (N:Nat) (o_4:qa) (v:Qr):Tree (Qr⊕vr):=
 .cond (decide (v < (((qa.F o_4).length:Nat):Int))) (
 .bind (zr (qa.F o_4) v) fun e1=>
 .cond (decide (((300:Int)) < (((qc.V (qd.C e1)).length:Nat):Int))) (
 .ret (.inr (.inl ()))) <|
 .chk (qy (v + 1)) <|
 .ret (.inl (v + 1))) <|
 .ret (.inr (.inr ((v,decide (v < (((qa.F o_4).length:Nat):Int))))))
def qah (N n:Nat) (f:ZL) (v:Qr):Option vr:=q8 (ZF N f) some n v
theorem qg8 (N:Nat) (f:ZL) (n:Nat) (v:Qr) (y:vr) (h:qah N n f v=some y):LG Tryz.prog WU 64 (ze qoc 4) (qgC f v) (Qo f y):=
 jd qk (E:=qcb N) (L:=qQ (qhs N)) (st:=Qo f) (g:=some) (R:=Qo f) (qaD N) (qw (by kernel_rfl) trivial) (rg0 (by kernel_rfl)) (fun v=>by kernel_rfl) (zn (st:=Qo f) fun y=>by rcases y with _ | _<;>rfl) (js0 rfl) n v y h
def Wk (N:Nat) (o_4:qa) (s3_4:Int):Option vr:=qah N N o_4 s3_4
def qaa (N:Nat):qJ:=smL qab [qj,(.i .i64)] vr (fun x=>Wk N x.1 x.2.1) (csS cs1) fun x=>Qo x.1
theorem qf1 (N:Nat):Ql Tryz.prog WU 64 (ze qoc 4) (qaa N):=jF fun x z h=>qg8 N x.1 N x.2.1 z h
def qj9 (z:Bool):TV×THp:=(xb z,[])
def WD (N:Nat) (a0:qa):Tree (Bool):=
 .cond (decide (((12:Int)) < (((qa.F a0).length:Nat):Int))) (
 .ret false) <|
 .bind (Wk N a0 0) fun z1=>
 .sum z1 (fun z2=>
 .ret false) fun z2=>
 .ret true
def Qi (N:Nat) (a0:qa):Option (Bool):=(WD N a0).run some
def qkk (N:Nat):List (Nat×qJ):=[(4,qaa N)]
def qcy (N:Nat):Ent:=smF ⟨64,[],[.x qj],[],[]⟩ [qj] (Bool) (fun x=>Qi N x.1) cs1 fun _=>qj9
theorem qjN (N:Nat):zd Tryz.prog (qcy N):=
 zc (H:=WU) (L:=qQ (qkk N)) (ts:=[qj]) (T:=fun x=>WD N x.1) 0 qEv (qaD N) (qw (by kernel_rfl) ⟨qf1 N,trivial⟩) (rg0 (by kernel_rfl)) fun x=>by kernel_rfl
noncomputable def qoB:Code:=Tryz.f23.body.getD .skip
theorem qGv:FnF Tryz.prog 23 Tryz.f23 qoB:=⟨qk,by kernel_rfl,by kernel_rfl,by kernel_rfl⟩
def W6:TH:={ live:=[(0,[1]),(1,[1,8]),(2,[2]),(3,[1,3]),(4,[1,3,13]),(5,[1,3]),(6,[1,3,4]),(7,[1,3,23]),(8,[2]),(9,[2])] }
def qcv (N:Nat):List Ent:=[qcy N]
theorem qaL (N:Nat):qS Tryz.prog (qcv N):=⟨qjN N,trivial⟩
abbrev ZH:=qf
abbrev vw:=Unit⊕(Int×Bool)
def Qw (f:ZH):vw→Ex×TSt
 | .inl y=>(.ret,⟨0,24,[],[(2,.bc false)],[],false,[]⟩)
 | .inr y=>(.exit 0,⟨0,24,[],[(1,.p 10 [] 0),(3,xi y.1),(13,xb y.2)],[(10,.cell false (.tv qU f))],false,[]⟩)
def qhu (N:Nat):List (Nat×qJ):=[]
abbrev Qv:=Int
def qag:SP:=⟨0,24,[],[(1,.k (.p 10 [] 0)),(3,.x (.i .i64))],[(10,.cell false (.x qU))],false,[]⟩
def qhm (f:ZH) (v:Qv):TSt:=jv qag [dv qU f,dv (.i .i64) v]
def ZN (N:Nat) (o_4:qf) (v:Qv):Tree (Qv⊕vw):=
 .cond (decide (v < (((qf.R o_4).length:Nat):Int))) (
 .bind (zr (qf.R o_4) v) fun e1=>
 .bind (Qi N e1) fun r2=>
 .cond (!r2) (
 .ret (.inr (.inl ()))) <|
 .chk (qy (v + 1)) <|
 .ret (.inl (v + 1))) <|
 .ret (.inr (.inr ((v,decide (v < (((qf.R o_4).length:Nat):Int))))))
def qan (N n:Nat) (f:ZH) (v:Qv):Option vw:=q8 (ZN N f) some n v
theorem qg3 (N:Nat) (f:ZH) (n:Nat) (v:Qv) (y:vw) (h:qan N n f v=some y):LG Tryz.prog W6 23 (ze qoB 4) (qhm f v) (Qw f y):=
 jd qk (E:=qcv N) (L:=qQ (qhu N)) (st:=Qw f) (g:=some) (R:=Qw f) (qaL N) (qw (by kernel_rfl) trivial) (rg0 (by kernel_rfl)) (fun v=>by kernel_rfl) (zn (st:=Qw f) fun y=>by rcases y with _ | _<;>rfl) (js0 rfl) n v y h
def Wl (N:Nat) (o_4:qf) (s3_4:Int):Option vw:=qan N N o_4 s3_4
def qap (N:Nat):qJ:=smL qag [qU,(.i .i64)] vw (fun x=>Wl N x.1 x.2.1) (csS cs1) fun x=>Qw x.1
theorem qgr (N:Nat):Ql Tryz.prog W6 23 (ze qoB 4) (qap N):=jF fun x z h=>qg3 N x.1 N x.2.1 z h
def qlq (z:Bool):TV×THp:=(xb z,[])
def Ya (N:Nat) (a0:qf):Tree (Bool):=
 .cond (decide (((14:Int)) < (((qf.R a0).length:Nat):Int))) (
 .ret false) <|
 .bind (Wl N a0 0) fun z1=>
 .sum z1 (fun z2=>
 .ret false) fun z2=>
 .ret true
def XL (N:Nat) (a0:qf):Option (Bool):=(Ya N a0).run some
def qlB (N:Nat):List (Nat×qJ):=[(4,qap N)]
def qb9 (N:Nat):Ent:=smF ⟨23,[],[.x qU],[],[]⟩ [qU] (Bool) (fun x=>XL N x.1) cs1 fun _=>qlq
theorem qjC (N:Nat):zd Tryz.prog (qb9 N):=
 zc (H:=W6) (L:=qQ (qlB N)) (ts:=[qU]) (T:=fun x=>Ya N x.1) 0 qGv (qaL N) (qw (by kernel_rfl) ⟨qgr N,trivial⟩) (rg0 (by kernel_rfl)) fun x=>by kernel_rfl
noncomputable def qot:Code:=Tryz.f12.body.getD .skip
theorem qFR:FnF Tryz.prog 12 Tryz.f12 qot:=⟨qk,by kernel_rfl,by kernel_rfl,by kernel_rfl⟩
def WJ:TH:={ live:=[(0,[1]),(1,[1,13]),(2,[2]),(3,[1,3]),(4,[1,3,18]),(5,[1,3]),(6,[1,3,28]),(7,[2]),(8,[2])],dec:=[8] }
def qcD (N:Nat):List Ent:=[]
theorem qaA (N:Nat):qS Tryz.prog (qcD N):=trivial
abbrev ZP:=qb
abbrev vq:=Unit⊕(Int×Bool)
def Qx (f:ZP):vq→Ex×TSt
 | .inl y=>(.ret,⟨0,29,[],[(2,.bc false)],[],false,[]⟩)
 | .inr y=>(.exit 0,⟨0,29,[],[(1,.p 10 [] 0),(3,xi y.1),(18,xb y.2)],[(10,.cell false (.tv zN f))],false,[]⟩)
def qhp (N:Nat):List (Nat×qJ):=[]
abbrev Qm:=Int
def qal:SP:=⟨0,29,[],[(1,.k (.p 10 [] 0)),(3,.x (.i .i64))],[(10,.cell false (.x zN))],false,[]⟩
def qgP (f:ZP) (v:Qm):TSt:=jv qal [dv zN f,dv (.i .i64) v]
def ZV (N:Nat) (o_4:qb) (v:Qm):Tree (Qm⊕vq):=
 .cond (decide (v < (((qb.P o_4).length:Nat):Int))) (
 .bind (zr (qb.P o_4) v) fun e1=>
 .cond (decide (((300:Int)) < (((qg.Lit e1).length:Nat):Int))) (
 .ret (.inr (.inl ()))) <|
 .chk (qy (v + 1)) <|
 .ret (.inl (v + 1))) <|
 .ret (.inr (.inr ((v,decide (v < (((qb.P o_4).length:Nat):Int))))))
def qak (N n:Nat) (f:ZP) (v:Qm):Option vq:=q8 (ZV N f) some n v
theorem qgN (N:Nat) (f:ZP) (n:Nat) (v:Qm) (y:vq) (h:qak N n f v=some y):LG Tryz.prog WJ 12 (ze qot 4) (qgP f v) (Qx f y):=
 jd qk (E:=qcD N) (L:=qQ (qhp N)) (st:=Qx f) (g:=some) (R:=Qx f) (qaA N) (qw (by kernel_rfl) trivial) (rg0 (by kernel_rfl)) (fun v=>by kernel_rfl) (zn (st:=Qx f) fun y=>by rcases y with _ | _<;>rfl) (js0 rfl) n v y h
def Wr (N:Nat) (o_4:qb) (s3_4:Int):Option vq:=qak N N o_4 s3_4
def qav (N:Nat):qJ:=smL qal [zN,(.i .i64)] vq (fun x=>Wr N x.1 x.2.1) (csS cs1) fun x=>Qx x.1
theorem qgl (N:Nat):Ql Tryz.prog WJ 12 (ze qot 4) (qav N):=jF fun x z h=>qgN N x.1 N x.2.1 z h
def qlU (z:Bool):TV×THp:=(xb z,[])
def Zz (N:Nat) (a0:qb):Tree (Bool):=
 .cond (decide (((80:Int)) < (((qb.P a0).length:Nat):Int))) (
 .ret false) <|
 .cond (decide (((300:Int)) < (((qb.V a0).length:Nat):Int))) (
 .ret false) <|
 .bind (Wr N a0 0) fun z1=>
 .sum z1 (fun z2=>
 .ret false) fun z2=>
 .ret true
def Qj (N:Nat) (a0:qb):Option (Bool):=(Zz N a0).run some
def qjW (N:Nat):List (Nat×qJ):=[(4,qav N)]
def qcF (N:Nat):Ent:=smF ⟨12,[],[.x zN],[],[]⟩ [zN] (Bool) (fun x=>Qj N x.1) cs1 fun _=>qlU
theorem qjH (N:Nat):zd Tryz.prog (qcF N):=
 zc (H:=WJ) (L:=qQ (qjW N)) (ts:=[zN]) (T:=fun x=>Zz N x.1) 0 qFR (qaA N) (qw (by kernel_rfl) ⟨qgl N,trivial⟩) (rg0 (by kernel_rfl)) fun x=>by kernel_rfl
noncomputable def qEU:Code:=Tryz.f60.body.getD .skip
theorem qGD:FnF Tryz.prog 60 Tryz.f60 qEU:=⟨qk,by kernel_rfl,by kernel_rfl,by kernel_rfl⟩
def qxz:TH:={ live:=[(0,[1]),(1,[2])],dec:=[6,10,15,20] }
def qx6 (N:Nat):List Ent:=[]
theorem qtL (N:Nat):qS Tryz.prog (qx6 N):=trivial
def qx5 (z:Bool):TV×THp:=(xb z,[])
def qf7 (a0:qe):Tree (Bool):=
 .cond (eqE ql a0 (qe.mk 0 0)) (
 .ret true) <|
 .cond (decide (((0:Int)) < (qe.N a0))) (
 .cond (decide ((qe.N a0)≤((1099511627776:Int)))) (
 .cond (decide (((0:Int))≤(qe.Rep a0))) (
 .ret (decide ((qe.Rep a0) < ((8:Int))))) <|
 .ret false) <|
 .ret false) <|
 .ret false
def WN (a0:qe):Option (Bool):=(qf7 a0).run some
def qyi:List (Nat×qJ):=[]
def Kz:Ent:=smF ⟨60,[],[.x ql],[],[]⟩ [ql] (Bool) (fun x=>WN x.1) cs1 fun _=>qx5
theorem qaF:zd Tryz.prog (Kz):=
 zc (H:=qxz) (L:=qQ (qyi)) (ts:=[ql]) (T:=fun x=>qf7 x.1) 0 qGD (qtL 0) (qw (by kernel_rfl) trivial) (rg0 (by kernel_rfl)) fun x=>by kernel_rfl
noncomputable def qDi:Code:=Tryz.f108.body.getD .skip
theorem qBz:FnF Tryz.prog 108 Tryz.f108 qDi:=⟨qk,by kernel_rfl,by kernel_rfl,by kernel_rfl⟩
def qz6:TH:={ live:=[(0,[1]),(1,[2])],dec:=[7,12] }
def qzK (N:Nat):List Ent:=[Kz]
theorem qvG (N:Nat):qS Tryz.prog (qzK N):=⟨qaF,trivial⟩
def qA_ (z:Bool):TV×THp:=(xb z,[])
def qiW (a0:qc):Tree (Bool):=
 .cond (!(eqE ql (qc.S a0) (qe.mk 0 0))) (
 .bind (WN (qc.S a0)) fun r1=>
 .cond r1 (
 .ret (decide ((((qc.V a0).length:Nat):Int)≤((200:Int))))) <|
 .ret false) <|
 .ret false
def KR (a0:qc):Option (Bool):=(qiW a0).run some
def qBi:List (Nat×qJ):=[]
def qoZ:Ent:=smF ⟨108,[],[.x qp],[],[]⟩ [qp] (Bool) (fun x=>KR x.1) cs1 fun _=>qA_
theorem qxT:zd Tryz.prog (qoZ):=
 zc (H:=qz6) (L:=qQ (qBi)) (ts:=[qp]) (T:=fun x=>qiW x.1) 0 qBz (qvG 0) (qw (by kernel_rfl) trivial) (rg0 (by kernel_rfl)) fun x=>by kernel_rfl
noncomputable def qBr:Code:=Tryz.f143.body.getD .skip
theorem qDy:FnF Tryz.prog 143 Tryz.f143 qBr:=⟨qk,by kernel_rfl,by kernel_rfl,by kernel_rfl⟩
def qpV:TH:={ live:=[(0,[0]),(1,[2])] }
def qpt (N:Nat):List Ent:=[]
theorem qmz (N:Nat):qS Tryz.prog (qpt N):=trivial
def qpv (a0:Int) (z:Unit):TV×THp:=(xb (!decide (a0=a0)),[])
def qa6 (a0:Int):Tree (Unit):=
 .ret ()
def KM (a0:Int):Option (Unit):=(qa6 a0).run some
def qpL:List (Nat×qJ):=[]
def qeT:Ent:=smF ⟨143,[],[.x (.i .i64)],[],[]⟩ [(.i .i64)] (Unit) (fun x=>KM x.1) cs1 fun x=>qpv x.1
theorem qoH:zd Tryz.prog (qeT):=
 zc (H:=qpV) (L:=qQ (qpL)) (ts:=[(.i .i64)]) (T:=fun x=>qa6 x.1) 0 qDy (qmz 0) (qw (by kernel_rfl) trivial) (rg0 (by kernel_rfl)) fun x=>by kernel_rfl
noncomputable def qBB:Code:=Tryz.f127.body.getD .skip
theorem qBK:FnF Tryz.prog 127 Tryz.f127 qBB:=⟨qk,by kernel_rfl,by kernel_rfl,by kernel_rfl⟩
def qmx:TH:={ live:=[(0,[0,1]),(1,[0,1,5]),(2,[0,1,5,6]),(3,[0,1,6,11]),(4,[12]),(5,[4]),(6,[4]),(7,[0,1,13]),(8,[4]),(9,[0,1,16]),(10,[4]),(11,[19]),(12,[4]),(13,[4])] }
def qmG (N:Nat):List Ent:=[qeT]
theorem qjw (N:Nat):qS Tryz.prog (qmG N):=⟨qoH,trivial⟩
def qmI (z:Int):TV×THp:=(xi z,[])
def Y_ (a0:Int) (a1:Int):Tree (Int):=
 .bind (KM a0) fun r1=>
 .bind (KM a1) fun r2=>
 .cond (!decide (a0=a0)) (
 .cond (!decide (a1=a1)) (
 .ret 0) <|
 .ret (-1)) <|
 .cond (!decide (a1=a1)) (
 .ret 1) <|
 .cond (decide (a0 < a1)) (
 .ret (-1)) <|
 .cond (decide (a1 < a0)) (
 .ret 1) <|
 .ret 0
def J3 (a0:Int) (a1:Int):Option (Int):=(Y_ a0 a1).run some
def qmC:List (Nat×qJ):=[]
def qc8:Ent:=smF ⟨127,[],[.x (.i .i64),.x (.i .i64)],[],[]⟩ [(.i .i64),(.i .i64)] (Int) (fun x=>J3 x.1 x.2.1) cs1 fun _=>qmI
theorem qkA:zd Tryz.prog (qc8):=
 zc (H:=qmx) (L:=qQ (qmC)) (ts:=[(.i .i64),(.i .i64)]) (T:=fun x=>Y_ x.1 x.2.1) 0 qBK (qjw 0) (qw (by kernel_rfl) trivial) (rg0 (by kernel_rfl)) fun x=>by kernel_rfl
noncomputable def qkU:Code:=Tryz.f126.body.getD .skip
theorem qDL:FnF Tryz.prog 126 Tryz.f126 qkU:=⟨qk,by kernel_rfl,by kernel_rfl,by kernel_rfl⟩
def qer:TH:={ live:=[(0,[0]),(1,[0,3]),(2,[3,6,7,8]),(3,[3,6,7,8,9]),(4,[3,5,6,7,8]),(5,[3,5,6,7,8,14]),(6,[2]),(7,[3,6,7,8]),(8,[2])] }
def qlg (N:Nat):List Ent:=[]
theorem qg4 (N:Nat):qS Tryz.prog (qlg N):=trivial
abbrev WA:=List Int×Int
abbrev ZJ:=Int⊕(Int×Bool)
def J4 (f:WA):ZJ→Ex×TSt
 | .inl y=>(.ret,⟨0,18,[],[(2,xi y)],[],false,[]⟩)
 | .inr y=>(.exit 0,⟨0,18,[],[(3,.ic .i64 0),(6,.tv (.sl 1 (.i .i64)) f.1),(7,xi f.2),(8,xi y.1),(9,xb y.2)],[],false,[]⟩)
def qo0 (N:Nat):List (Nat×qJ):=[]
abbrev Va:=Int
def qeQ:SP:=⟨0,18,[],[(3,.k (.ic .i64 0)),(6,.x (.sl 1 (.i .i64))),(7,.x (.i .i64)),(8,.x (.i .i64))],[],false,[]⟩
def qqf (f:WA) (v:Va):TSt:=jv qeQ [dv (.sl 1 (.i .i64)) f.1,dv (.i .i64) f.2,dv (.i .i64) v]
def QM (N:Nat) (s6_3:List Int) (s7_3:Int) (v:Va):Tree (Va⊕ZJ):=
 .cond (decide (v < s7_3)) (
 .bind (zr s6_3 v) fun e1=>
 .cond (!decide (e1=((0:Int)))) (
 .ret (.inr (.inl e1))) <|
 .chk (qy (v + 1)) <|
 .ret (.inl (v + 1))) <|
 .ret (.inr (.inr ((v,decide (v < s7_3)))))
def qff (N n:Nat) (f:WA) (v:Va):Option ZJ:=q8 (QM N f.1 f.2) some n v
theorem qpm (N:Nat) (f:WA) (n:Nat) (v:Va) (y:ZJ) (h:qff N n f v=some y):LG Tryz.prog qer 126 (ze qkU 3) (qqf f v) (J4 f y):=
 jd qk (E:=qlg N) (L:=qQ (qo0 N)) (st:=J4 f) (g:=some) (R:=J4 f) (qg4 N) (qw (by kernel_rfl) trivial) (rg0 (by kernel_rfl)) (fun v=>by kernel_rfl) (zn (st:=J4 f) fun y=>by rcases y with _ | _<;>rfl) (js0 rfl) n v y h
def qcT (N:Nat) (s6_3:List Int) (s7_3:Int) (s8_3:Int):Option ZJ:=qff N N (s6_3,s7_3) s8_3
def qfh (N:Nat):qJ:=smL qeQ [(.sl 1 (.i .i64)),(.i .i64),(.i .i64)] ZJ (fun x=>qcT N x.1 x.2.1 x.2.2.1) (csS cs1) fun x=>J4 (x.1,x.2.1)
theorem qoE (N:Nat):Ql Tryz.prog qer 126 (ze qkU 3) (qfh N):=jF fun x z h=>qpm N (x.1,x.2.1) N x.2.2.1 z h
def quT (z:Int):TV×THp:=(xi z,[])
def qej (N:Nat) (a0:List Int):Tree (Int):=
 .bind (qcT N a0 ((a0.length:Nat):Int) 0) fun z1=>
 .sum z1 (fun z2=>
 .ret z2) fun z2=>
 .ret 0
def qaz (N:Nat) (a0:List Int):Option (Int):=(qej N a0).run some
def qvj (N:Nat):List (Nat×qJ):=[(3,qfh N)]
def qkE (N:Nat):Ent:=smF ⟨126,[],[.x (.sl 1 (.i .i64))],[],[]⟩ [(.sl 1 (.i .i64))] (Int) (fun x=>qaz N x.1) cs1 fun _=>quT
theorem qtE (N:Nat):zd Tryz.prog (qkE N):=
 zc (H:=qer) (L:=qQ (qvj N)) (ts:=[(.sl 1 (.i .i64))]) (T:=fun x=>qej N x.1) 0 qDL (qg4 N) (qw (by kernel_rfl) ⟨qoE N,trivial⟩) (rg0 (by kernel_rfl)) fun x=>by kernel_rfl
noncomputable def qCL:Code:=Tryz.f109.body.getD .skip
theorem qDk:FnF Tryz.prog 109 Tryz.f109 qCL:=⟨qk,by kernel_rfl,by kernel_rfl,by kernel_rfl⟩
def qvu:TH:={ live:=[(0,[2,3]),(1,[4])],dec:=[8] }
def qvW (N:Nat):List Ent:=[qc8,qkE N]
theorem qrJ (N:Nat):qS Tryz.prog (qvW N):=⟨qkA,qtE N,trivial⟩
def quW (z:Bool):TV×THp:=(xb z,[])
def qdS (N:Nat) (a0:qe) (a1:qe):Tree (Bool):=
 .cond (!(eqE ql a0 a1)) (
 .bind (J3 (qe.N a0) (qe.N a1)) fun r1=>
 .bind (J3 (qe.Rep a0) (qe.Rep a1)) fun r2=>
 .bind (qaz N [r1,r2]) fun r3=>
 .ret (decide (r3 < ((0:Int))))) <|
 .ret false
def QL (N:Nat) (a0:qe) (a1:qe):Option (Bool):=(qdS N a0 a1).run some
def qwP (N:Nat):List (Nat×qJ):=[]
def Yr (N:Nat):Ent:=smF ⟨109,[],[.x ql,.x ql],[],[]⟩ [ql,ql] (Bool) (fun x=>QL N x.1 x.2.1) cs1 fun _=>quW
theorem KF (N:Nat):zd Tryz.prog (Yr N):=
 zc (H:=qvu) (L:=qQ (qwP N)) (ts:=[ql,ql]) (T:=fun x=>qdS N x.1 x.2.1) 0 qDk (qrJ N) (qw (by kernel_rfl) trivial) (rg0 (by kernel_rfl)) fun x=>by kernel_rfl
noncomputable def qn9:Code:=Tryz.f79.body.getD .skip
theorem qE_:FnF Tryz.prog 79 Tryz.f79 qn9:=⟨qk,by kernel_rfl,by kernel_rfl,by kernel_rfl⟩
def qkP:TH:={ live:=[(0,[1]),(1,[1,21]),(2,[2]),(3,[1,23,24,25]),(4,[1,23,24,25,26]),(5,[1,3,4,23,24,25]),(6,[1,4,5,23,24,25]),(7,[1,23,24,25,74]),(8,[2]),(9,[1,23,24,25]),(10,[2])],dec:=[10,15,32,37,40,55,60,66] }
def qsJ (N:Nat):List Ent:=[Kz,qoZ,Yr N]
theorem qnf (N:Nat):qS Tryz.prog (qsJ N):=⟨qaF,qxT,KF N,trivial⟩
abbrev qaQ:=qa×List qd×Int
abbrev V4:=Unit⊕(Int×Bool)
def WK (f:qaQ):V4→Ex×TSt
 | .inl y=>(.ret,⟨0,76,[],[(2,.bc false)],[],false,[]⟩)
 | .inr y=>(.exit 0,⟨0,76,[],[(1,.p 10 [] 0),(23,.tv (.sl 4 qE) f.2.1),(24,xi f.2.2),(25,xi y.1),(26,xb y.2)],[(10,.cell false (.tv qj f.1))],false,[]⟩)
def qv1 (N:Nat):List (Nat×qJ):=[]
abbrev WZ:=Int
def qj_:SP:=⟨0,76,[],[(1,.k (.p 10 [] 0)),(23,.x (.sl 4 qE)),(24,.x (.i .i64)),(25,.x (.i .i64))],[(10,.cell false (.x qj))],false,[]⟩
def qu4 (f:qaQ) (v:WZ):TSt:=jv qj_ [dv qj f.1,dv (.sl 4 qE) f.2.1,dv (.i .i64) f.2.2,dv (.i .i64) v]
def qaK (N:Nat) (o_4:qa) (s23_4:List qd) (s24_4:Int) (v:WZ):Tree (WZ⊕V4):=
 .cond (decide (v < s24_4)) (
 .bind (zr s23_4 v) fun e1=>
 .cond (decide (v=((0:Int)))) (
 .cond (decide (((0:Int))≤(qd.No e1))) (
 .cond (decide (((8:Int))≤(qd.No e1))) (
 .ret (.inr (.inl ()))) <|
 .bind (KR (qd.C e1)) fun r2=>
 .cond (!r2) (
 .ret (.inr (.inl ()))) <|
 .bind (QL N (qa.zi o_4) (qc.S (qd.C e1))) fun r3=>
 .cond (!r3) (
 .ret (.inr (.inl ()))) <|
 .chk (qy (v + 1)) <|
 .ret (.inl (v + 1))) <|
 .cond (decide (((0:Int)) < v)) (
 .chk (qy (v - 1)) <|
 .bind (zr (qa.F o_4) (v - 1)) fun e2=>
 .cond (!(decide ((qd.No e2) < (qd.No e1)))) (
 .ret (.inr (.inl ()))) <|
 .cond (decide (((8:Int))≤(qd.No e1))) (
 .ret (.inr (.inl ()))) <|
 .bind (KR (qd.C e1)) fun r3=>
 .cond (!r3) (
 .ret (.inr (.inl ()))) <|
 .bind (QL N (qa.zi o_4) (qc.S (qd.C e1))) fun r4=>
 .cond (!r4) (
 .ret (.inr (.inl ()))) <|
 .chk (qy (v + 1)) <|
 .ret (.inl (v + 1))) <|
 .ret (.inr (.inl ()))) <|
 .cond (decide (((0:Int)) < v)) (
 .chk (qy (v - 1)) <|
 .bind (zr (qa.F o_4) (v - 1)) fun e2=>
 .cond (!(decide ((qd.No e2) < (qd.No e1)))) (
 .ret (.inr (.inl ()))) <|
 .cond (decide (((8:Int))≤(qd.No e1))) (
 .ret (.inr (.inl ()))) <|
 .bind (KR (qd.C e1)) fun r3=>
 .cond (!r3) (
 .ret (.inr (.inl ()))) <|
 .bind (QL N (qa.zi o_4) (qc.S (qd.C e1))) fun r4=>
 .cond (!r4) (
 .ret (.inr (.inl ()))) <|
 .chk (qy (v + 1)) <|
 .ret (.inl (v + 1))) <|
 .ret (.inr (.inl ()))) <|
 .ret (.inr (.inr ((v,decide (v < s24_4)))))
def qkp (N n:Nat) (f:qaQ) (v:WZ):Option V4:=q8 (qaK N f.1 f.2.1 f.2.2) some n v
theorem qwq (N:Nat) (f:qaQ) (n:Nat) (v:WZ) (y:V4) (h:qkp N n f v=some y):LG Tryz.prog qkP 79 (ze qn9 4) (qu4 f v) (WK f y):=
 jd qk (E:=qsJ N) (L:=qQ (qv1 N)) (st:=WK f) (g:=some) (R:=WK f) (qnf N) (qw (by kernel_rfl) trivial) (rg0 (by kernel_rfl)) (fun v=>by kernel_rfl) (zn (st:=WK f) fun y=>by rcases y with _ | _<;>rfl) (js0 rfl) n v y h
def qdp (N:Nat) (o_4:qa) (s23_4:List qd) (s24_4:Int) (s25_4:Int):Option V4:=qkp N N (o_4,s23_4,s24_4) s25_4
def qlG (N:Nat):qJ:=smL qj_ [qj,(.sl 4 qE),(.i .i64),(.i .i64)] V4 (fun x=>qdp N x.1 x.2.1 x.2.2.1 x.2.2.2.1) (csS cs1) fun x=>WK (x.1,x.2.1,x.2.2.1)
theorem qtb (N:Nat):Ql Tryz.prog qkP 79 (ze qn9 4) (qlG N):=jF fun x z h=>qwq N (x.1,x.2.1,x.2.2.1) N x.2.2.2.1 z h
def qCw (z:Bool):TV×THp:=(xb z,[])
def qlu (N:Nat) (a0:qa):Tree (Bool):=
 .bind (WN (qa.zi a0)) fun r1=>
 .cond (!r1) (
 .ret false) <|
 .cond (decide ((((qa.F a0).length:Nat):Int)=((0:Int)))) (
 .cond (eqE ql (qa.zi a0) (qe.mk 0 0)) (
 .ret false) <|
 .bind (qdp N a0 (qa.F a0) (((qa.F a0).length:Nat):Int) 0) fun z2=>
 .sum z2 (fun z3=>
 .ret false) fun z3=>
 .ret true) <|
 .bind (qdp N a0 (qa.F a0) (((qa.F a0).length:Nat):Int) 0) fun z2=>
 .sum z2 (fun z3=>
 .ret false) fun z3=>
 .ret true
def qbI (N:Nat) (a0:qa):Option (Bool):=(qlu N a0).run some
def qCp (N:Nat):List (Nat×qJ):=[(4,qlG N)]
def qe1 (N:Nat):Ent:=smF ⟨79,[],[.x qj],[],[]⟩ [qj] (Bool) (fun x=>qbI N x.1) cs1 fun _=>qCw
theorem qiV (N:Nat):zd Tryz.prog (qe1 N):=
 zc (H:=qkP) (L:=qQ (qCp N)) (ts:=[qj]) (T:=fun x=>qlu N x.1) 0 qE_ (qnf N) (qw (by kernel_rfl) ⟨qtb N,trivial⟩) (rg0 (by kernel_rfl)) fun x=>by kernel_rfl
noncomputable def qCO:Code:=Tryz.f110.body.getD .skip
theorem qCg:FnF Tryz.prog 110 Tryz.f110 qCO:=⟨qk,by kernel_rfl,by kernel_rfl,by kernel_rfl⟩
def qqy:TH:={ live:=[(0,[0,1]),(1,[4])] }
def qqK (N:Nat):List Ent:=[qqd]
theorem qmw (N:Nat):qS Tryz.prog (qqK N):=⟨qyF,trivial⟩
def qpg (z:Int):TV×THp:=(xi z,[])
def qaW (a0:List UInt8) (a1:List UInt8):Tree (Int):=
 .bind (qEZ a0 a1) fun r1=>
 .ret r1
def X2 (a0:List UInt8) (a1:List UInt8):Option (Int):=(qaW a0 a1).run some
def qqA:List (Nat×qJ):=[]
def WB:Ent:=smF ⟨110,[],[.x .bl,.x .bl],[],[]⟩ [.bl,.bl] (Int) (fun x=>X2 x.1 x.2.1) cs1 fun _=>qpg
theorem KY:zd Tryz.prog (WB):=
 zc (H:=qqy) (L:=qQ (qqA)) (ts:=[.bl,.bl]) (T:=fun x=>qaW x.1 x.2.1) 0 qCg (qmw 0) (qw (by kernel_rfl) trivial) (rg0 (by kernel_rfl)) fun x=>by kernel_rfl
noncomputable def qGc:Code:=Tryz.f80.body.getD .skip
theorem qEP:FnF Tryz.prog 80 Tryz.f80 qGc:=⟨qk,by kernel_rfl,by kernel_rfl,by kernel_rfl⟩
def qxy:TH:={ live:=[(0,[2,3]),(1,[4])],dec:=[8] }
def qyb (N:Nat):List Ent:=[WB]
theorem qtf (N:Nat):qS Tryz.prog (qyb N):=⟨KY,trivial⟩
def qxI (z:Bool):TV×THp:=(xb z,[])
def qfI (a0:Vector UInt8 16) (a1:Vector UInt8 16):Tree (Bool):=
 .cond (!(eqE (.ba 16) a0 a1)) (
 .bind (X2 a0.toList a1.toList) fun r1=>
 .ret (decide (r1 < ((0:Int))))) <|
 .ret false
def qeR (a0:Vector UInt8 16) (a1:Vector UInt8 16):Option (Bool):=(qfI a0 a1).run some
def qxh:List (Nat×qJ):=[]
def qno:Ent:=smF ⟨80,[],[.x (.ba 16),.x (.ba 16)],[],[]⟩ [(.ba 16),(.ba 16)] (Bool) (fun x=>qeR x.1 x.2.1) cs1 fun _=>qxI
theorem qwc:zd Tryz.prog (qno):=
 zc (H:=qxy) (L:=qQ (qxh)) (ts:=[(.ba 16),(.ba 16)]) (T:=fun x=>qfI x.1 x.2.1) 0 qEP (qtf 0) (qw (by kernel_rfl) trivial) (rg0 (by kernel_rfl)) fun x=>by kernel_rfl
noncomputable def qnO:Code:=Tryz.f30.body.getD .skip
theorem qF5:FnF Tryz.prog 30 Tryz.f30 qnO:=⟨qk,by kernel_rfl,by kernel_rfl,by kernel_rfl⟩
def qh8:TH:={ live:=[(0,[1]),(1,[1,6,7,8]),(2,[1,6,7,8,9]),(3,[1,3,4,6,7,8]),(4,[1,6,7,8,32]),(5,[2]),(6,[1,6,7,8]),(7,[2])],dec:=[16,19] }
def qp4 (N:Nat):List Ent:=[qe1 N,qno]
theorem qkb (N:Nat):qS Tryz.prog (qp4 N):=⟨qiV N,qwc,trivial⟩
abbrev KD:=qf×List qa×Int
abbrev JR:=Unit⊕(Int×Bool)
def X9 (f:KD):JR→Ex×TSt
 | .inl y=>(.ret,⟨0,38,[],[(2,.bc false)],[],false,[]⟩)
 | .inr y=>(.exit 0,⟨0,38,[],[(1,.p 10 [] 0),(6,.tv (.sl 19 qj) f.2.1),(7,xi f.2.2),(8,xi y.1),(9,xb y.2)],[(10,.cell false (.tv qU f.1))],false,[]⟩)
def qte (N:Nat):List (Nat×qJ):=[]
abbrev XX:=Int
def qjc:SP:=⟨0,38,[],[(1,.k (.p 10 [] 0)),(6,.x (.sl 19 qj)),(7,.x (.i .i64)),(8,.x (.i .i64))],[(10,.cell false (.x qU))],false,[]⟩
def qsZ (f:KD) (v:XX):TSt:=jv qjc [dv qU f.1,dv (.sl 19 qj) f.2.1,dv (.i .i64) f.2.2,dv (.i .i64) v]
def KH (N:Nat) (o_2:qf) (s6_2:List qa) (s7_2:Int) (v:XX):Tree (XX⊕JR):=
 .cond (decide (v < s7_2)) (
 .bind (zr s6_2 v) fun e1=>
 .bind (qbI N e1) fun r2=>
 .cond (!r2) (
 .ret (.inr (.inl ()))) <|
 .cond (decide (((0:Int)) < v)) (
 .chk (qy (v - 1)) <|
 .bind (zr (qf.R o_2) (v - 1)) fun e3=>
 .bind (qeR (qa.ID e3) (qa.ID e1)) fun r4=>
 .cond (!r4) (
 .ret (.inr (.inl ()))) <|
 .chk (qy (v + 1)) <|
 .ret (.inl (v + 1))) <|
 .chk (qy (v + 1)) <|
 .ret (.inl (v + 1))) <|
 .ret (.inr (.inr ((v,decide (v < s7_2)))))
def qi6 (N n:Nat) (f:KD) (v:XX):Option JR:=q8 (KH N f.1 f.2.1 f.2.2) some n v
theorem qtr (N:Nat) (f:KD) (n:Nat) (v:XX) (y:JR) (h:qi6 N n f v=some y):LG Tryz.prog qh8 30 (ze qnO 2) (qsZ f v) (X9 f y):=
 jd qk (E:=qp4 N) (L:=qQ (qte N)) (st:=X9 f) (g:=some) (R:=X9 f) (qkb N) (qw (by kernel_rfl) trivial) (rg0 (by kernel_rfl)) (fun v=>by kernel_rfl) (zn (st:=X9 f) fun y=>by rcases y with _ | _<;>rfl) (js0 rfl) n v y h
def qf4 (N:Nat) (o_2:qf) (s6_2:List qa) (s7_2:Int) (s8_2:Int):Option JR:=qi6 N N (o_2,s6_2,s7_2) s8_2
def qjn (N:Nat):qJ:=smL qjc [qU,(.sl 19 qj),(.i .i64),(.i .i64)] JR (fun x=>qf4 N x.1 x.2.1 x.2.2.1 x.2.2.2.1) (csS cs1) fun x=>X9 (x.1,x.2.1,x.2.2.1)
theorem qq9 (N:Nat):Ql Tryz.prog qh8 30 (ze qnO 2) (qjn N):=jF fun x z h=>qtr N (x.1,x.2.1,x.2.2.1) N x.2.2.2.1 z h
def qAS (z:Bool):TV×THp:=(xb z,[])
def qiR (N:Nat) (a0:qf):Tree (Bool):=
 .bind (qf4 N a0 (qf.R a0) (((qf.R a0).length:Nat):Int) 0) fun z1=>
 .sum z1 (fun z2=>
 .ret false) fun z2=>
 .ret (decide ((((qf.R a0).length:Nat):Int)≤((10:Int))))
def WI (N:Nat) (a0:qf):Option (Bool):=(qiR N a0).run some
def qzR (N:Nat):List (Nat×qJ):=[(2,qjn N)]
def qdA (N:Nat):Ent:=smF ⟨30,[],[.x qU],[],[]⟩ [qU] (Bool) (fun x=>WI N x.1) cs1 fun _=>qAS
theorem qgq (N:Nat):zd Tryz.prog (qdA N):=
 zc (H:=qh8) (L:=qQ (qzR N)) (ts:=[qU]) (T:=fun x=>qiR N x.1) 0 qF5 (qkb N) (qw (by kernel_rfl) ⟨qq9 N,trivial⟩) (rg0 (by kernel_rfl)) fun x=>by kernel_rfl
noncomputable def qEg:Code:=Tryz.f59.body.getD .skip
theorem qFe:FnF Tryz.prog 59 Tryz.f59 qEg:=⟨qk,by kernel_rfl,by kernel_rfl,by kernel_rfl⟩
def qCm:TH:={ live:=[(0,[1,2]),(1,[1,2,3]),(2,[1,2,3,12]),(3,[1,2,3,12,13]),(4,[2,3]),(5,[1,2,3,12,21]),(6,[2,3]),(7,[1,2,3,35]),(8,[2,3]),(9,[2])] }
def qCE (N:Nat):List Ent:=[]
theorem qxt (N:Nat):qS Tryz.prog (qCE N):=trivial
def qCH (z:qb):TV×THp:=(.tv zN z,[])
def qlD (a0:qb):Tree (qb):=
 .cond (decide ((qb.Kind a0)=((1:Int)))) (
 .ret (qb.mk (qb.Kind a0) (qb.ID a0) (qb.S a0) (qb.No a0) (qb.V a0) [] ((Vector.replicate 16 0)) 0 ((Vector.replicate 32 0)))) <|
 .cond (decide ((qb.Kind a0)=((2:Int)))) (
 .ret (qb.mk (qb.Kind a0) (qb.ID a0) (qb.S a0) (qb.No a0) [] [] (qb.jw a0) (qb.Zc a0) (qb.D a0))) <|
 .cond (decide ((qb.Kind a0)=((3:Int)))) (
 .ret (qb.mk (qb.Kind a0) (qb.ID a0) (qb.S a0) (qb.No a0) [] (qb.P a0) ((Vector.replicate 16 0)) 0 (qb.D a0))) <|
 .ret (qb.mk (qb.Kind a0) (qb.ID a0) (qb.S a0) 0 [] [] ((Vector.replicate 16 0)) 0 ((Vector.replicate 32 0)))
def ql7 (a0:qb):Option (qb):=(qlD a0).run some
def qBQ:List (Nat×qJ):=[]
def qsr:Ent:=smF ⟨59,[],[.x zN],[],[]⟩ [zN] (qb) (fun x=>ql7 x.1) cs1 fun _=>qCH
theorem qAr:zd Tryz.prog (qsr):=
 zc (H:=qCm) (L:=qQ (qBQ)) (ts:=[zN]) (T:=fun x=>qlD x.1) 0 qFe (qxt 0) (qw (by kernel_rfl) trivial) (rg0 (by kernel_rfl)) fun x=>by kernel_rfl
noncomputable def qn_:Code:=Tryz.f91.body.getD .skip
theorem qF_:FnF Tryz.prog 91 Tryz.f91 qn_:=⟨qk,by kernel_rfl,by kernel_rfl,by kernel_rfl⟩
def XN:TH:={ live:=[(0,[0,1]),(1,[0,1,10]),(2,[4]),(3,[0,1,12,13]),(4,[0,1,12,13,14]),(5,[0,1,5,12,13]),(6,[0,1,12,13,24]),(7,[4]),(8,[0,1,12,13]),(9,[4])] }
def qaS (N:Nat):List Ent:=[]
theorem Ku (N:Nat):qS Tryz.prog (qaS N):=trivial
abbrev Q6:=List qg×List qg×Int
abbrev jU:=Unit⊕(Int×Bool)
def vN (f:Q6):jU→Ex×TSt
 | .inl y=>(.ret,⟨0,26,[],[(4,.bc false)],[],false,[]⟩)
 | .inr y=>(.exit 0,⟨0,26,[],[(0,.tv (.sl 4 qG) f.1),(1,.tv (.sl 4 qG) f.2.1),(12,xi f.2.2),(13,xi y.1),(14,xb y.2)],[],false,[]⟩)
def qeL (N:Nat):List (Nat×qJ):=[]
abbrev vK:=Int
def Y3:SP:=⟨0,26,[],[(0,.x (.sl 4 qG)),(1,.x (.sl 4 qG)),(12,.x (.i .i64)),(13,.x (.i .i64))],[],false,[]⟩
def qeJ (f:Q6) (v:vK):TSt:=jv Y3 [dv (.sl 4 qG) f.1,dv (.sl 4 qG) f.2.1,dv (.i .i64) f.2.2,dv (.i .i64) v]
def Q4 (N:Nat) (s0_4:List qg) (s1_4:List qg) (s12_4:Int) (v:vK):Tree (vK⊕jU):=
 .cond (decide (v < s12_4)) (
 .bind (zr s0_4 v) fun e1=>
 .bind (zr s1_4 v) fun e2=>
 .cond (!(eqE qG e1 e2)) (
 .ret (.inr (.inl ()))) <|
 .chk (qy (v + 1)) <|
 .ret (.inl (v + 1))) <|
 .ret (.inr (.inr ((v,decide (v < s12_4)))))
def YZ (N n:Nat) (f:Q6) (v:vK):Option jU:=q8 (Q4 N f.1 f.2.1 f.2.2) some n v
theorem qeF (N:Nat) (f:Q6) (n:Nat) (v:vK) (y:jU) (h:YZ N n f v=some y):LG Tryz.prog XN 91 (ze qn_ 4) (qeJ f v) (vN f y):=
 jd qk (E:=qaS N) (L:=qQ (qeL N)) (st:=vN f) (g:=some) (R:=vN f) (Ku N) (qw (by kernel_rfl) trivial) (rg0 (by kernel_rfl)) (fun v=>by kernel_rfl) (zn (st:=vN f) fun y=>by rcases y with _ | _<;>rfl) (js0 rfl) n v y h
def Xa (N:Nat) (s0_4:List qg) (s1_4:List qg) (s12_4:Int) (s13_4:Int):Option jU:=YZ N N (s0_4,s1_4,s12_4) s13_4
def Y0 (N:Nat):qJ:=smL Y3 [(.sl 4 qG),(.sl 4 qG),(.i .i64),(.i .i64)] jU (fun x=>Xa N x.1 x.2.1 x.2.2.1 x.2.2.2.1) (csS cs1) fun x=>vN (x.1,x.2.1,x.2.2.1)
theorem qdP (N:Nat):Ql Tryz.prog XN 91 (ze qn_ 4) (Y0 N):=jF fun x z h=>qeF N (x.1,x.2.1,x.2.2.1) N x.2.2.2.1 z h
def qib (z:Bool):TV×THp:=(xb z,[])
def XO (N:Nat) (a0:List qg) (a1:List qg):Tree (Bool):=
 .cond (!decide (((a0.length:Nat):Int)=((a1.length:Nat):Int))) (
 .ret false) <|
 .bind (Xa N a0 a1 ((a0.length:Nat):Int) 0) fun z1=>
 .sum z1 (fun z2=>
 .ret false) fun z2=>
 .ret true
def J_ (N:Nat) (a0:List qg) (a1:List qg):Option (Bool):=(XO N a0 a1).run some
def qiE (N:Nat):List (Nat×qJ):=[(4,Y0 N)]
def qa_ (N:Nat):Ent:=smF ⟨91,[],[.x (.sl 4 qG),.x (.sl 4 qG)],[],[]⟩ [(.sl 4 qG),(.sl 4 qG)] (Bool) (fun x=>J_ N x.1 x.2.1) cs1 fun _=>qib
theorem qgK (N:Nat):zd Tryz.prog (qa_ N):=
 zc (H:=XN) (L:=qQ (qiE N)) (ts:=[(.sl 4 qG),(.sl 4 qG)]) (T:=fun x=>XO N x.1 x.2.1) 0 qF_ (Ku N) (qw (by kernel_rfl) ⟨qdP N,trivial⟩) (rg0 (by kernel_rfl)) fun x=>by kernel_rfl
noncomputable def qGe:Code:=Tryz.f63.body.getD .skip
theorem qEu:FnF Tryz.prog 63 Tryz.f63 qGe:=⟨qk,by kernel_rfl,by kernel_rfl,by kernel_rfl⟩
def qug:TH:={ live:=[(0,[0,1]),(1,[4])] }
def qvF (N:Nat):List Ent:=[qa_ N]
theorem qrv (N:Nat):qS Tryz.prog (qvF N):=⟨qgK N,trivial⟩
def qwV (z:Bool):TV×THp:=(xb z,[])
def qeD (N:Nat) (a0:List qg) (a1:List qg):Tree (Bool):=
 .bind (J_ N a0 a1) fun r1=>
 .ret r1
def qdj (N:Nat) (a0:List qg) (a1:List qg):Option (Bool):=(qeD N a0 a1).run some
def qv3 (N:Nat):List (Nat×qJ):=[]
def qlN (N:Nat):Ent:=smF ⟨63,[],[.x (.sl 4 qG),.x (.sl 4 qG)],[],[]⟩ [(.sl 4 qG),(.sl 4 qG)] (Bool) (fun x=>qdj N x.1 x.2.1) cs1 fun _=>qwV
theorem qts (N:Nat):zd Tryz.prog (qlN N):=
 zc (H:=qug) (L:=qQ (qv3 N)) (ts:=[(.sl 4 qG),(.sl 4 qG)]) (T:=fun x=>qeD N x.1 x.2.1) 0 qEu (qrv N) (qw (by kernel_rfl) trivial) (rg0 (by kernel_rfl)) fun x=>by kernel_rfl
noncomputable def qFL:Code:=Tryz.f20.body.getD .skip
theorem qFB:FnF Tryz.prog 20 Tryz.f20 qFL:=⟨qk,by kernel_rfl,by kernel_rfl,by kernel_rfl⟩
def qCq:TH:={ live:=[(0,[2,3]),(1,[2,3,5]),(2,[4])],dec:=[11,18,25,33,40,47,54,61] }
def qBm (N:Nat):List Ent:=[qlN N]
theorem qxm (N:Nat):qS Tryz.prog (qBm N):=⟨qts N,trivial⟩
def qCZ (z:Bool):TV×THp:=(xb z,[])
def qlt (N:Nat) (a0:qb) (a1:qb):Tree (Bool):=
 .cond (eqE (.ba 16) (qb.ID a0) (qb.ID a1)) (
 .cond (eqE (.ba 16) (qb.jw a0) (qb.jw a1)) (
 .cond (decide ((qb.No a0)=(qb.No a1))) (
 .cond (decide ((qb.Zc a0)=(qb.Zc a1))) (
 .cond (decide ((qb.Kind a0)=(qb.Kind a1))) (
 .cond (eqE ql (qb.S a0) (qb.S a1)) (
 .cond (decide ((qb.V a0)=(qb.V a1))) (
 .cond (eqE (.ba 32) (qb.D a0) (qb.D a1)) (
 .bind (qdj N (qb.P a0) (qb.P a1)) fun r1=>
 .ret r1) <|
 .ret false) <|
 .ret false) <|
 .ret false) <|
 .ret false) <|
 .ret false) <|
 .ret false) <|
 .ret false) <|
 .ret false
def qmm (N:Nat) (a0:qb) (a1:qb):Option (Bool):=(qlt N a0 a1).run some
def qD2 (N:Nat):List (Nat×qJ):=[]
def qr_ (N:Nat):Ent:=smF ⟨20,[],[.x zN,.x zN],[],[]⟩ [zN,zN] (Bool) (fun x=>qmm N x.1 x.2.1) cs1 fun _=>qCZ
theorem qAK (N:Nat):zd Tryz.prog (qr_ N):=
 zc (H:=qCq) (L:=qQ (qD2 N)) (ts:=[zN,zN]) (T:=fun x=>qlt N x.1 x.2.1) 0 qFB (qxm N) (qw (by kernel_rfl) trivial) (rg0 (by kernel_rfl)) fun x=>by kernel_rfl
noncomputable def qE3:Code:=Tryz.f61.body.getD .skip
theorem qE2:FnF Tryz.prog 61 Tryz.f61 qE3:=⟨qk,by kernel_rfl,by kernel_rfl,by kernel_rfl⟩
def qyg:TH:={ live:=[(0,[0]),(1,[2])],dec:=[5] }
def qx1 (N:Nat):List Ent:=[]
theorem qtg (N:Nat):qS Tryz.prog (qx1 N):=trivial
def qx3 (z:Bool):TV×THp:=(xb z,[])
def qfW (a0:Int):Tree (Bool):=
 .cond (decide (((0:Int))≤a0)) (
 .ret (decide (a0 < ((8:Int))))) <|
 .ret false
def qb_ (a0:Int):Option (Bool):=(qfW a0).run some
def qw4:List (Nat×qJ):=[]
def qnc:Ent:=smF ⟨61,[],[.x (.i .i64)],[],[]⟩ [(.i .i64)] (Bool) (fun x=>qb_ x.1) cs1 fun _=>qx3
theorem qvQ:zd Tryz.prog (qnc):=
 zc (H:=qyg) (L:=qQ (qw4)) (ts:=[(.i .i64)]) (T:=fun x=>qfW x.1) 0 qE2 (qtg 0) (qw (by kernel_rfl) trivial) (rg0 (by kernel_rfl)) fun x=>by kernel_rfl
noncomputable def qEn:Code:=Tryz.f19.body.getD .skip
theorem qGB:FnF Tryz.prog 19 Tryz.f19 qEn:=⟨qk,by kernel_rfl,by kernel_rfl,by kernel_rfl⟩
def qGt:TH:={ live:=[(0,[1]),(1,[1,23]),(2,[2]),(3,[2])],dec:=[6,11,18,27,32,37,43] }
def qGa (N:Nat):List Ent:=[qsr,qr_ N,Kz,qnc,qm6 N]
theorem qAb (N:Nat):qS Tryz.prog (qGa N):=⟨qAr,qAK N,qaF,qvQ,qwD N,trivial⟩
def qGF (z:Bool):TV×THp:=(xb z,[])
def qnS (N:Nat) (a0:qb):Tree (Bool):=
 .cond (decide ((qb.Kind a0) < ((0:Int)))) (
 .ret false) <|
 .cond (decide (((4:Int))≤(qb.Kind a0))) (
 .ret false) <|
 .bind (ql7 a0) fun r1=>
 .bind (qmm N a0 r1) fun r2=>
 .cond (!r2) (
 .ret false) <|
 .cond (eqE ql (qb.S a0) (qe.mk 0 0)) (
 .ret false) <|
 .bind (WN (qb.S a0)) fun r3=>
 .cond r3 (
 .bind (qb_ (qb.No a0)) fun r4=>
 .cond r4 (
 .bind (qb_ (qb.Zc a0)) fun r5=>
 .cond r5 (
 .cond (decide ((((qb.V a0).length:Nat):Int)≤((200:Int)))) (
 .bind (Jk N (qb.P a0)) fun r6=>
 .ret r6) <|
 .ret false) <|
 .ret false) <|
 .ret false) <|
 .ret false
def qqu (N:Nat) (a0:qb):Option (Bool):=(qnS N a0).run some
def qFG (N:Nat):List (Nat×qJ):=[]
def qwS (N:Nat):Ent:=smF ⟨19,[],[.x zN],[],[]⟩ [zN] (Bool) (fun x=>qqu N x.1) cs1 fun _=>qGF
theorem qD_ (N:Nat):zd Tryz.prog (qwS N):=
 zc (H:=qGt) (L:=qQ (qFG N)) (ts:=[zN]) (T:=fun x=>qnS N x.1) 0 qGB (qAb N) (qw (by kernel_rfl) trivial) (rg0 (by kernel_rfl)) fun x=>by kernel_rfl
noncomputable def qGh:Code:=Tryz.f95.body.getD .skip
theorem qEb:FnF Tryz.prog 95 Tryz.f95 qGh:=⟨qk,by kernel_rfl,by kernel_rfl,by kernel_rfl⟩
def qwf:TH:={ live:=[(0,[1]),(1,[2])],dec:=[7] }
def quz (N:Nat):List Ent:=[]
theorem qri (N:Nat):qS Tryz.prog (quz N):=trivial
def que (z:Bool):TV×THp:=(xb z,[])
def qa3 (a0:qa):Tree (Bool):=
 .cond (eqE ql (qa.zi a0) (qe.mk 0 0)) (
 .ret (decide ((((qa.F a0).length:Nat):Int)=((0:Int))))) <|
 .ret false
def XQ (a0:qa):Option (Bool):=(qa3 a0).run some
def qwn:List (Nat×qJ):=[]
def qjT:Ent:=smF ⟨95,[],[.x qj],[],[]⟩ [qj] (Bool) (fun x=>XQ x.1) cs1 fun _=>que
theorem qtQ:zd Tryz.prog (qjT):=
 zc (H:=qwf) (L:=qQ (qwn)) (ts:=[qj]) (T:=fun x=>qa3 x.1) 0 qEb (qri 0) (qw (by kernel_rfl) trivial) (rg0 (by kernel_rfl)) fun x=>by kernel_rfl
noncomputable def qBp:Code:=Tryz.f129.body.getD .skip
theorem qCt:FnF Tryz.prog 129 Tryz.f129 qBp:=⟨qk,by kernel_rfl,by kernel_rfl,by kernel_rfl⟩
def qmM:TH:={ live:=[(0,[0,1]),(1,[0,1,6]),(2,[0,1]),(3,[0,1]),(4,[0,1,16]),(5,[0]),(6,[4])],esc:=true,nil:=[(5,[⟨.sl 0,900001290,(.sl 19 qj)⟩])] }
def qmE (N:Nat):List Ent:=[]
theorem qjA (N:Nat):qS Tryz.prog (qmE N):=trivial
def qmT:Unit⊕Unit→TV×THp
 | .inl z=>(.v 900001290 0,[(900001290,.vec false 19 (.sl 19 qj) ([]:List qa))])
 | .inr z=>(.nils,[])
def VB (a0:Int):Tree (Unit⊕Unit):=
 .cond (decide (a0 < ((0:Int)))) (
 .no) <|
 .chk (qy a0) <|
 .cond (decide (((0:Int)) < a0)) (
 .chk (0 < a0∧a0.toNat * 56≤zh) <|
 .ret (.inl ())) <|
 .ret (.inr ())
def ZM (a0:Int):Option (Unit⊕Unit):=(VB a0).run some
def qmR:List (Nat×qJ):=[]
def qc7:Ent:=smF ⟨129,[],[.k .nils,.x (.i .i64)],[],[]⟩ [(.i .i64)] (Unit⊕Unit) (fun x=>ZM x.1) (csS cs1) fun _=>qmT
theorem qli:zd Tryz.prog (qc7):=
 zc (H:=qmM) (L:=qQ (qmR)) (ts:=[(.i .i64)]) (T:=fun x=>VB x.1) 0 qCt (qjA 0) (qw (by kernel_rfl) trivial) (rg0 (by kernel_rfl)) fun x=>by kernel_rfl
noncomputable def qcG:Code:=Tryz.f112.body.getD .skip
theorem qDm:FnF Tryz.prog 112 Tryz.f112 qcG:=⟨qk,by kernel_rfl,by kernel_rfl,by kernel_rfl⟩
def Q_:TH:={ live:=[(0,[0]),(1,[0,3]),(2,[0,3,9,10,11]),(3,[0,3,9,10,11,12]),(4,[0,3,5,9,10,11]),(5,[0,3,9,10,11]),(6,[0,3,9,10,11,20]),(7,[0,3,9,10,11]),(8,[0,3,9,10,11]),(9,[0,6]),(10,[6,25,26,27]),(11,[6,25,26,27,28]),(12,[6,8,25,26,27]),(13,[6,25,26,27]),(14,[6,25,26,27]),(15,[2])],raw:=[129],fresh:=[24],nil:=[(9,[⟨.sl 6,900001290,(.sl 19 qj)⟩])] }
def Wh (N:Nat):List Ent:=[qc7]
theorem V8 (N:Nat):qS Tryz.prog (Wh N):=⟨qli,trivial⟩
abbrev Zx:=List (List qa)×List (List qa)×Int
abbrev ve:=Int×Int×Bool
def v7 (f:Zx) (y:ve):Ex×TSt:=(.exit 0,⟨0,36,[],[(0,.tv (.sl 1 (.sl 19 qj)) f.1),(3,xi y.1),(9,.tv (.sl 1 (.sl 19 qj)) f.2.1),(10,xi f.2.2),(11,xi y.2.1),(12,xb y.2.2)],[],false,[]⟩)
def qf0 (N:Nat):List (Nat×qJ):=[]
abbrev Qa:=Int×Int
def Kw:SP:=⟨0,36,[],[(0,.x (.sl 1 (.sl 19 qj))),(3,.x (.i .i64)),(9,.x (.sl 1 (.sl 19 qj))),(10,.x (.i .i64)),(11,.x (.i .i64))],[],false,[]⟩
def qgB (f:Zx) (v:Qa):TSt:=jv Kw [dv (.sl 1 (.sl 19 qj)) f.1,dv (.i .i64) v.1,dv (.sl 1 (.sl 19 qj)) f.2.1,dv (.i .i64) f.2.2,dv (.i .i64) v.2]
def Zt (N:Nat) (s0_3:List (List qa)) (s9_3:List (List qa)) (s10_3:Int) (v:Qa):Tree (Qa⊕ve):=
 .cond (decide (v.2 < s10_3)) (
 .bind (zr s9_3 v.2) fun e1=>
 .chk (qy (v.1 + ((e1.length:Nat):Int))) <|
 .cond (decide ((v.1 + ((e1.length:Nat):Int)) < 0)) (
 .no) <|
 .chk (qy (v.2 + 1)) <|
 .ret (.inl (v.1 + ((e1.length:Nat):Int),v.2 + 1))) <|
 .ret (.inr (v.1,v.2,decide (v.2 < s10_3)))
def Kv (N n:Nat) (f:Zx) (v:Qa):Option ve:=q8 (Zt N f.1 f.2.1 f.2.2) some n v
theorem qfG (N:Nat) (f:Zx) (n:Nat) (v:Qa) (y:ve) (h:Kv N n f v=some y):LG Tryz.prog Q_ 112 (ze qcG 3) (qgB f v) (v7 f y):=
 jd qk (E:=Wh N) (L:=qQ (qf0 N)) (st:=v7 f) (g:=some) (R:=v7 f) (V8 N) (qw (by kernel_rfl) trivial) (rg0 (by kernel_rfl)) (fun v=>by kernel_rfl) (zn (st:=v7 f) fun y=>by rfl) (js0 rfl) n v y h
def XE (N:Nat) (s0_3:List (List qa)) (s9_3:List (List qa)) (s10_3:Int) (s3_3:Int) (s11_3:Int):Option ve:=Kv N N (s0_3,s9_3,s10_3) (s3_3,s11_3)
def Ko (N:Nat):qJ:=smL Kw [(.sl 1 (.sl 19 qj)),(.i .i64),(.sl 1 (.sl 19 qj)),(.i .i64),(.i .i64)] ve (fun x=>XE N x.1 x.2.2.1 x.2.2.2.1 x.2.1 x.2.2.2.2.1) cs1 fun x=>v7 (x.1,x.2.2.1,x.2.2.2.1)
theorem qeI (N:Nat):Ql Tryz.prog Q_ 112 (ze qcG 3) (Ko N):=jF fun x z h=>qfG N (x.1,x.2.2.1,x.2.2.2.1) N (x.2.1,x.2.2.2.2.1) z h
abbrev Q8:=List (List qa)×Int
abbrev jT:=List qa×Int×Bool
def vO (f:Q8) (y:jT):Ex×TSt:=(.exit 2,⟨0,36,[],[(6,.v 900001290 y.1.length),(25,.tv (.sl 1 (.sl 19 qj)) f.1),(26,xi f.2),(27,xi y.2.1),(28,xb y.2.2)],[(900001290,.vec false 19 (.sl 19 qj) (y.1:List qa))],false,[]⟩)
def qeN (N:Nat):List (Nat×qJ):=[]
abbrev vM:=List qa×Int
def YX:SP:=⟨0,36,[],[(6,.vs 900001290),(25,.x (.sl 1 (.sl 19 qj))),(26,.x (.i .i64)),(27,.x (.i .i64))],[(900001290,.vec false 19)],false,[]⟩
def qeH (f:Q8) (v:vM):TSt:=jv YX [dv (.sl 19 qj) v.1,dv (.sl 1 (.sl 19 qj)) f.1,dv (.i .i64) f.2,dv (.i .i64) v.2]
def Q9 (N:Nat) (s25_11:List (List qa)) (s26_11:Int) (v:vM):Tree (vM⊕jT):=
 .cond (decide (v.2 < s26_11)) (
 .bind (zr s25_11 v.2) fun e1=>
 .chk (Vh v.1.length v.1.length ((v.1++e1).length) 56) <|
 .chk (qy (v.2 + 1)) <|
 .ret (.inl (v.1++e1,v.2 + 1))) <|
 .ret (.inr (v.1,v.2,decide (v.2 < s26_11)))
def Y1 (N n:Nat) (f:Q8) (v:vM):Option jT:=q8 (Q9 N f.1 f.2) some n v
theorem qeG (N:Nat) (f:Q8) (n:Nat) (v:vM) (y:jT) (h:Y1 N n f v=some y):LG Tryz.prog Q_ 112 (ze qcG 11) (qeH f v) (vO f y):=
 jd qk (E:=Wh N) (L:=qQ (qeN N)) (st:=vO f) (g:=some) (R:=vO f) (V8 N) (qw (by kernel_rfl) trivial) (rg0 (by kernel_rfl)) (fun v=>by kernel_rfl) (zn (st:=vO f) fun y=>by rfl) (js0 rfl) n v y h
def ZW (N:Nat) (s25_11:List (List qa)) (s26_11:Int) (o_11:List qa) (s27_11:Int):Option jT:=Y1 N N (s25_11,s26_11) (o_11,s27_11)
def Y2 (N:Nat):qJ:=smL YX [(.sl 19 qj),(.sl 1 (.sl 19 qj)),(.i .i64),(.i .i64)] jT (fun x=>ZW N x.2.1 x.2.2.1 x.1 x.2.2.2.1) cs1 fun x=>vO (x.2.1,x.2.2.1)
theorem qem (N:Nat):Ql Tryz.prog Q_ 112 (ze qcG 11) (Y2 N):=jF fun x z h=>qeG N (x.2.1,x.2.2.1) N (x.1,x.2.2.2.1) z h
def qjL (z:List qa):TV×THp:=(.tv (.sl 19 qj) z,[])
def Wn (N:Nat) (a0:List (List qa)):Tree (List qa):=
 .bind (XE N a0 a0 ((a0.length:Nat):Int) 0 0) fun z1=>
 .bind (ZM z1.1) fun r2=>
 .sum r2 (fun r3=>
 .bind (j8 [(([]:List qa).length,0)] (ZW N a0 ((a0.length:Nat):Int) [] 0)) fun z4=>
 .chk (z4.1.length=z4.1.length) <|
 .ret z4.1) fun r3=>
 .bind (j8 [(([]:List qa).length,0)] (ZW N a0 ((a0.length:Nat):Int) [] 0)) fun z4=>
 .chk (z4.1.length=z4.1.length) <|
 .ret z4.1
def VA (N:Nat) (a0:List (List qa)):Option (List qa):=(Wn N a0).run some
def qjO (N:Nat):List (Nat×qJ):=[(3,Ko N),(11,Y2 N)]
def qbr (N:Nat):Ent:=smF ⟨112,[],[.x (.sl 1 (.sl 19 qj))],[],[]⟩ [(.sl 1 (.sl 19 qj))] (List qa) (fun x=>VA N x.1) cs1 fun _=>qjL
theorem qio (N:Nat):zd Tryz.prog (qbr N):=
 zc (H:=Q_) (L:=qQ (qjO N)) (ts:=[(.sl 1 (.sl 19 qj))]) (T:=fun x=>Wn N x.1) 0 qDm (V8 N) (qw (by kernel_rfl) ⟨qeI N,qem N,trivial⟩) (rg0 (by kernel_rfl)) fun x=>by kernel_rfl
noncomputable def qB1:Code:=Tryz.f103.body.getD .skip
theorem qj6:FnF Tryz.prog 103 Tryz.f103 qB1:=⟨qk,by kernel_rfl,by kernel_rfl,by kernel_rfl⟩
def qiO:TH:={ live:=[(0,[0]),(1,[0,4]),(2,[2]),(3,[2])],vecs:=[5] }
def qhZ (N:Nat):List Ent:=[]
theorem qf6 (N:Nat):qS Tryz.prog (qhZ N):=trivial
def qa5 (a0:List qd) (z:Unit):TV×THp:=(.tv (.sl 4 qE) ((([]:List qd))++a0:List qd),[])
def Xx (a0:List qd):Tree (Unit):=
 .chk (List.isEmpty a0=false) <|
 .chk (Vh ((([]:List qd)).length) 0 (((([]:List qd))++a0).length) 40) <|
 .chk (((([]:List qd))++a0).length=((([]:List qd))++a0).length) <|
 .ret ()
def WV (a0:List qd):Option (Unit):=(Xx a0).run some
def qhG:List (Nat×qJ):=[]
theorem qgo:qbX Tryz.prog ⟨103,[],[.x (.sl 4 qE)],[],[]⟩ [(.sl 4 qE)] (fun x=>Xx x.1) (fun x=>qa5 x.1):=
 Kl (H:=qiO) (L:=qQ (qhG)) 0 qj6 (qf6 0) (qw (by kernel_rfl) trivial) (rg0 (by kernel_rfl)) fun x=>by kernel_rfl
def qgw:TH:={ live:=[(0,[0]),(1,[0,4]),(2,[2]),(3,[2])],vecs:=[5] }
def qge (N:Nat):List Ent:=[]
theorem qd2 (N:Nat):qS Tryz.prog (qge N):=trivial
def qgc (z:Unit):TV×THp:=(.tv (.sl 4 qE) ([]:List qd),[])
def Kt:Tree (Unit):=
 .chk (0=0) <|
 .chk (0=0) <|
 .ret ()
def qh7:Option (Unit):=(Kt).run some
def qfC:List (Nat×qJ):=[]
theorem qdW:qbX Tryz.prog ⟨103,[],[.k (.es 0)],[],[]⟩ [] (fun x=>Kt) (fun _=>qgc):=
 Kl (H:=qgw) (L:=qQ (qfC)) 0 qj6 (qd2 0) (qw (by kernel_rfl) trivial) (rg0 (by kernel_rfl)) fun x=>by kernel_rfl
def qfN:TH:={ live:=[(0,[0]),(1,[0,4]),(2,[2]),(3,[2])],vecs:=[5] }
def qfz (N:Nat):List Ent:=[]
theorem qev (N:Nat):qS Tryz.prog (qfz N):=trivial
def qf_ (z:Unit):TV×THp:=(.tv (.sl 4 qE) ([]:List qd),[])
def Ke:Tree (Unit):=
 .ret ()
def qik:Option (Unit):=(Ke).run some
def qf8:List (Nat×qJ):=[]
theorem qex:qbX Tryz.prog ⟨103,[],[.k (.es 1)],[],[]⟩ [] (fun x=>Ke) (fun _=>qf_):=
 Kl (H:=qfN) (L:=qQ (qf8)) 0 qj6 (qev 0) (qw (by kernel_rfl) trivial) (rg0 (by kernel_rfl)) fun x=>by kernel_rfl
def Kr (z:Unit):Unit:=()
def qgA (z:Unit):Unit:=()
def vW (a0:List qd):Option (Unit):=
 bif a0.isEmpty then
  (qh7).bind fun z0=>(qik).bind fun z1=>chk (Kr z0=qgA z1) (some (Kr z0))
 else WV a0
def qar:Ent:=smF ⟨103,[],[.x (.sl 4 qE)],[],[]⟩ [(.sl 4 qE)] (Unit) (fun x=>vW x.1) cs1 fun x=>qa5 x.1
theorem qgu:zd Tryz.prog (qar):=qcw fun x z h l=>by
 obtain ⟨a0,_⟩:=x
 replace h:vW a0=some z:=h
 unfold vW at h
 rcases qk_ h with ⟨e,h2⟩ | ⟨_,h2⟩<;>clear h
 ·have e:=List.isEmpty_iff.1 e
  subst e
  obtain ⟨z0,c0,h2⟩:=bind_some h2
  obtain ⟨z1,c1,h2⟩:=bind_some h2
  obtain ⟨hE,h2⟩:=W4 h2
  obtain rfl:=Option.some.inj h2
  refine qlp (t:=(.sl 4 qE)) (x:=[]) rfl (TV.ers []) (TV.ers []) (by exact qdW (()) _ c0 l) ?_
  rw [hE]
  exact (by exact qex (()) _ c1 l)
 ·exact qgo (a0,()) z h2 l
noncomputable def qEl:Code:=Tryz.f75.body.getD .skip
theorem qGq:FnF Tryz.prog 75 Tryz.f75 qEl:=⟨qk,by kernel_rfl,by kernel_rfl,by kernel_rfl⟩
def qA6:TH:={ live:=[(0,[1,2]),(1,[1,2]),(2,[2])],nil:=[(0,[⟨.ob 20 [2],25,(.sl 4 qE)⟩])] }
def qAC (N:Nat):List Ent:=[qar]
theorem qv_ (N:Nat):qS Tryz.prog (qAC N):=⟨qgu,trivial⟩
def qzP (a0:qa) (z:Unit):TV×THp:=(.tv qj (qa.mk (qa.ID a0) (qa.zi a0) ((([]:List qd))++(qa.F a0))),[])
def qdm (a0:qa):Tree (Unit):=
 .bind (vW (qa.F a0)) fun r1=>
 .ret ()
def KW (a0:qa):Option (Unit):=(qdm a0).run some
def qAA:List (Nat×qJ):=[]
def qiJ:Ent:=smF ⟨75,[],[.x qj],[],[]⟩ [qj] (Unit) (fun x=>KW x.1) cs1 fun x=>qzP x.1
theorem qm7:zd Tryz.prog (qiJ):=
 zc (H:=qA6) (L:=qQ (qAA)) (ts:=[qj]) (T:=fun x=>qdm x.1) 0 qGq (qv_ 0) (qw (by kernel_rfl) trivial) (rg0 (by kernel_rfl)) fun x=>by kernel_rfl
noncomputable def qB5:Code:=Tryz.f167.body.getD .skip
theorem qCe:FnF Tryz.prog 167 Tryz.f167 qB5:=⟨qk,by kernel_rfl,by kernel_rfl,by kernel_rfl⟩
def qkv:TH:={ live:=[(0,[2,3,4]),(1,[2,3,4,7]),(2,[6]),(3,[12]),(4,[6]),(5,[6])] }
def qlJ (N:Nat):List Ent:=[Yr N]
theorem qiC (N:Nat):qS Tryz.prog (qlJ N):=⟨KF N,trivial⟩
def qjY (z:Int):TV×THp:=(xi z,[])
def WR (N:Nat) (a0:qe) (a1:qe):Tree (Int):=
 .bind (QL N a0 a1) fun r1=>
 .cond r1 (
 .ret (-1)) <|
 .bind (QL N a1 a0) fun r2=>
 .cond r2 (
 .ret 1) <|
 .ret 0
def Xu (N:Nat) (a0:qe) (a1:qe):Option (Int):=(WR N a0 a1).run some
def qkR (N:Nat):List (Nat×qJ):=[]
def qcs (N:Nat):Ent:=smF ⟨167,[],[.x ql,.x ql,.fn 109 [] []],[],[]⟩ [ql,ql] (Int) (fun x=>Xu N x.1 x.2.1) cs1 fun _=>qjY
theorem qju (N:Nat):zd Tryz.prog (qcs N):=
 zc (H:=qkv) (L:=qQ (qkR N)) (ts:=[ql,ql]) (T:=fun x=>WR N x.1 x.2.1) 0 qCe (qiC N) (qw (by kernel_rfl) trivial) (rg0 (by kernel_rfl)) fun x=>by kernel_rfl
noncomputable def qC_:Code:=Tryz.f166.body.getD .skip
theorem qDZ:FnF Tryz.prog 166 Tryz.f166 qC_:=⟨qk,by kernel_rfl,by kernel_rfl,by kernel_rfl⟩
def qtN:TH:={ live:=[(0,[0,1]),(1,[2])] }
def qsW (N:Nat):List Ent:=[qcs N]
theorem qpl (N:Nat):qS Tryz.prog (qsW N):=⟨qju N,trivial⟩
def qtd (a0:qc) (a1:qc) (z:Int):TV×THp:=(xi z,[(20,.cell false (.tv qp a0)),(30,.cell false (.tv qp a1))])
def qcY (N:Nat) (a0:qc) (a1:qc):Tree (Int):=
 .bind (Xu N (qc.S a0) (qc.S a1)) fun r1=>
 .ret r1
def qb7 (N:Nat) (a0:qc) (a1:qc):Option (Int):=(qcY N a0 a1).run some
def qs9 (N:Nat):List (Nat×qJ):=[]
def qjr (N:Nat):Ent:=smF ⟨166,[],[],[.k (.p 20 [] 0),.k (.p 30 [] 0)],[(20,.cell false (.x qp)),(30,.cell false (.x qp))]⟩ [qp,qp] (Int) (fun x=>qb7 N x.1 x.2.1) cs1 fun x=>qtd x.1 x.2.1
theorem qrs (N:Nat):zd Tryz.prog (qjr N):=
 zc (H:=qtN) (L:=qQ (qs9 N)) (ts:=[qp,qp]) (T:=fun x=>qcY N x.1 x.2.1) 0 qDZ (qpl N) (qw (by kernel_rfl) trivial) (rg0 (by kernel_rfl)) fun x=>by kernel_rfl
noncomputable def qF0:Code:=Tryz.f29.body.getD .skip
theorem qER:FnF Tryz.prog 29 Tryz.f29 qF0:=⟨qk,by kernel_rfl,by kernel_rfl,by kernel_rfl⟩
def qGy:TH:={ live:=[(0,[0,2]),(1,[2])] }
def qFU (N:Nat):List Ent:=[qsQ N]
theorem qAz (N:Nat):qS Tryz.prog (qFU N):=⟨qpk N,trivial⟩
def qEA (z:Vector UInt8 32):TV×THp:=(.tv (.ba 32) z,[])
def qog (N:Nat) (a0:List UInt8):Tree (Vector UInt8 32):=
 .chk (qmk (a0:List UInt8).length) <|
 .bind (qdM N a0) fun r1=>
 .ret r1
def QN (N:Nat) (a0:List UInt8):Option (Vector UInt8 32):=(qog N a0).run some
def qEd (N:Nat):List (Nat×qJ):=[]
def qhJ (N:Nat):Ent:=smF ⟨29,[],[.x .s],[],[]⟩ [.s] (Vector UInt8 32) (fun x=>QN N x.1) cs1 fun _=>qEA
theorem qkl (N:Nat):zd Tryz.prog (qhJ N):=
 zc (H:=qGy) (L:=qQ (qEd N)) (ts:=[.s]) (T:=fun x=>qog N x.1) 0 qER (qAz N) (qw (by kernel_rfl) trivial) (rg0 (by kernel_rfl)) fun x=>by kernel_rfl
noncomputable def qCa:Code:=Tryz.f170.body.getD .skip
theorem qD4:FnF Tryz.prog 170 Tryz.f170 qCa:=⟨qk,by kernel_rfl,by kernel_rfl,by kernel_rfl⟩
def qA3:TH:={ live:=[(0,[2,3]),(1,[4])],dec:=[8] }
def qAq (N:Nat):List Ent:=[WB]
theorem qwG (N:Nat):qS Tryz.prog (qAq N):=⟨KY,trivial⟩
def qz5 (z:Bool):TV×THp:=(xb z,[])
def qh3 (a0:Vector UInt8 32) (a1:Vector UInt8 32):Tree (Bool):=
 .cond (!(eqE (.ba 32) a0 a1)) (
 .bind (X2 a0.toList a1.toList) fun r1=>
 .ret (decide (r1 < ((0:Int))))) <|
 .ret false
def qdY (a0:Vector UInt8 32) (a1:Vector UInt8 32):Option (Bool):=(qh3 a0 a1).run some
def qzI:List (Nat×qJ):=[]
def qph:Ent:=smF ⟨170,[],[.x (.ba 32),.x (.ba 32)],[],[]⟩ [(.ba 32),(.ba 32)] (Bool) (fun x=>qdY x.1 x.2.1) cs1 fun _=>qz5
theorem qxU:zd Tryz.prog (qph):=
 zc (H:=qA3) (L:=qQ (qzI)) (ts:=[(.ba 32),(.ba 32)]) (T:=fun x=>qh3 x.1 x.2.1) 0 qD4 (qwG 0) (qw (by kernel_rfl) trivial) (rg0 (by kernel_rfl)) fun x=>by kernel_rfl
noncomputable def qC9:Code:=Tryz.f169.body.getD .skip
theorem qDf:FnF Tryz.prog 169 Tryz.f169 qC9:=⟨qk,by kernel_rfl,by kernel_rfl,by kernel_rfl⟩
def qjx:TH:={ live:=[(0,[2,3,4]),(1,[2,3,4,7]),(2,[6]),(3,[12]),(4,[6]),(5,[6])] }
def qjD (N:Nat):List Ent:=[qph]
theorem qgS (N:Nat):qS Tryz.prog (qjD N):=⟨qxU,trivial⟩
def qjM (z:Int):TV×THp:=(xi z,[])
def Wp (a0:Vector UInt8 32) (a1:Vector UInt8 32):Tree (Int):=
 .bind (qdY a0 a1) fun r1=>
 .cond r1 (
 .ret (-1)) <|
 .bind (qdY a1 a0) fun r2=>
 .cond r2 (
 .ret 1) <|
 .ret 0
def Vz (a0:Vector UInt8 32) (a1:Vector UInt8 32):Option (Int):=(Wp a0 a1).run some
def qjP:List (Nat×qJ):=[]
def qbv:Ent:=smF ⟨169,[],[.x (.ba 32),.x (.ba 32),.fn 170 [] []],[],[]⟩ [(.ba 32),(.ba 32)] (Int) (fun x=>Vz x.1 x.2.1) cs1 fun _=>qjM
theorem qhO:zd Tryz.prog (qbv):=
 zc (H:=qjx) (L:=qQ (qjP)) (ts:=[(.ba 32),(.ba 32)]) (T:=fun x=>Wp x.1 x.2.1) 0 qDf (qgS 0) (qw (by kernel_rfl) trivial) (rg0 (by kernel_rfl)) fun x=>by kernel_rfl
noncomputable def qCi:Code:=Tryz.f168.body.getD .skip
theorem qCA:FnF Tryz.prog 168 Tryz.f168 qCi:=⟨qk,by kernel_rfl,by kernel_rfl,by kernel_rfl⟩
def qtO:TH:={ live:=[(0,[0,1]),(1,[2])] }
def qs7 (N:Nat):List Ent:=[qhJ N,qbv]
theorem qqk (N:Nat):qS Tryz.prog (qs7 N):=⟨qkl N,qhO,trivial⟩
def qti (a0:qc) (a1:qc) (z:Int):TV×THp:=(xi z,[(20,.cell false (.tv qp a0)),(30,.cell false (.tv qp a1))])
def qcU (N:Nat) (a0:qc) (a1:qc):Tree (Int):=
 .bind (QN N (qc.V a0)) fun r1=>
 .bind (QN N (qc.V a1)) fun r2=>
 .bind (Vz r1 r2) fun r3=>
 .ret r3
def qbZ (N:Nat) (a0:qc) (a1:qc):Option (Int):=(qcU N a0 a1).run some
def qtk (N:Nat):List (Nat×qJ):=[]
def qjg (N:Nat):Ent:=smF ⟨168,[],[],[.k (.p 20 [] 0),.k (.p 30 [] 0)],[(20,.cell false (.x qp)),(30,.cell false (.x qp))]⟩ [qp,qp] (Int) (fun x=>qbZ N x.1 x.2.1) cs1 fun x=>qti x.1 x.2.1
theorem qra (N:Nat):zd Tryz.prog (qjg N):=
 zc (H:=qtO) (L:=qQ (qtk N)) (ts:=[qp,qp]) (T:=fun x=>qcU N x.1 x.2.1) 0 qCA (qqk N) (qw (by kernel_rfl) trivial) (rg0 (by kernel_rfl)) fun x=>by kernel_rfl
noncomputable def qBR:Code:=Tryz.f175.body.getD .skip
theorem qC8:FnF Tryz.prog 175 Tryz.f175 qBR:=⟨qk,by kernel_rfl,by kernel_rfl,by kernel_rfl⟩
def qkK:TH:={ live:=[(0,[0]),(1,[2])] }
def qlf (N:Nat):List Ent:=[]
theorem qiU (N:Nat):qS Tryz.prog (qlf N):=trivial
def qlm (a0:List UInt8) (z:Unit):TV×THp:=(xb (!decide (a0=a0)),[])
def qcd (a0:List UInt8):Tree (Unit):=
 .ret ()
def XH (a0:List UInt8):Option (Unit):=(qcd a0).run some
def qkN:List (Nat×qJ):=[]
def qcC:Ent:=smF ⟨175,[],[.x .s],[],[]⟩ [.s] (Unit) (fun x=>XH x.1) cs1 fun x=>qlm x.1
theorem qjE:zd Tryz.prog (qcC):=
 zc (H:=qkK) (L:=qQ (qkN)) (ts:=[.s]) (T:=fun x=>qcd x.1) 0 qC8 (qiU 0) (qw (by kernel_rfl) trivial) (rg0 (by kernel_rfl)) fun x=>by kernel_rfl
noncomputable def qB8:Code:=Tryz.f172.body.getD .skip
theorem qBx:FnF Tryz.prog 172 Tryz.f172 qB8:=⟨qk,by kernel_rfl,by kernel_rfl,by kernel_rfl⟩
def qiZ:TH:={ live:=[(0,[0,1]),(1,[0,1,5]),(2,[0,1,5,6]),(3,[0,1,6,11]),(4,[12]),(5,[4]),(6,[4]),(7,[0,1,13]),(8,[4]),(9,[0,1,16]),(10,[4]),(11,[19]),(12,[4]),(13,[4])] }
def qiu (N:Nat):List Ent:=[qcC]
theorem qfx (N:Nat):qS Tryz.prog (qiu N):=⟨qjE,trivial⟩
def qiL (z:Int):TV×THp:=(xi z,[])
def Xo (a0:List UInt8) (a1:List UInt8):Tree (Int):=
 .bind (XH a0) fun r1=>
 .bind (XH a1) fun r2=>
 .cond (!decide (a0=a0)) (
 .cond (!decide (a1=a1)) (
 .ret 0) <|
 .ret (-1)) <|
 .cond (!decide (a1=a1)) (
 .ret 1) <|
 .cond (Op.bytesLess a0 a1) (
 .ret (-1)) <|
 .cond (!(Op.bytesLess a0 a1||decide (a0=a1))) (
 .ret 1) <|
 .ret 0
def J2 (a0:List UInt8) (a1:List UInt8):Option (Int):=(Xo a0 a1).run some
def qif:List (Nat×qJ):=[]
def qbk:Ent:=smF ⟨172,[],[.x .s,.x .s],[],[]⟩ [.s,.s] (Int) (fun x=>J2 x.1 x.2.1) cs1 fun _=>qiL
theorem qg_:zd Tryz.prog (qbk):=
 zc (H:=qiZ) (L:=qQ (qif)) (ts:=[.s,.s]) (T:=fun x=>Xo x.1 x.2.1) 0 qBx (qfx 0) (qw (by kernel_rfl) trivial) (rg0 (by kernel_rfl)) fun x=>by kernel_rfl
noncomputable def qCk:Code:=Tryz.f171.body.getD .skip
theorem qCS:FnF Tryz.prog 171 Tryz.f171 qCk:=⟨qk,by kernel_rfl,by kernel_rfl,by kernel_rfl⟩
def qtq:TH:={ live:=[(0,[0,1]),(1,[2])] }
def qtv (N:Nat):List Ent:=[qbk]
theorem qpI (N:Nat):qS Tryz.prog (qtv N):=⟨qg_,trivial⟩
def qs_ (a0:qc) (a1:qc) (z:Int):TV×THp:=(xi z,[(20,.cell false (.tv qp a0)),(30,.cell false (.tv qp a1))])
def qcR (a0:qc) (a1:qc):Tree (Int):=
 .bind (J2 (qc.V a0) (qc.V a1)) fun r1=>
 .ret r1
def qb1 (a0:qc) (a1:qc):Option (Int):=(qcR a0 a1).run some
def qtG:List (Nat×qJ):=[]
def qjo:Ent:=smF ⟨171,[],[],[.k (.p 20 [] 0),.k (.p 30 [] 0)],[(20,.cell false (.x qp)),(30,.cell false (.x qp))]⟩ [qp,qp] (Int) (fun x=>qb1 x.1 x.2.1) cs1 fun x=>qs_ x.1 x.2.1
theorem qqY:zd Tryz.prog (qjo):=
 zc (H:=qtq) (L:=qQ (qtG)) (ts:=[qp,qp]) (T:=fun x=>qcR x.1 x.2.1) 0 qCS (qpI 0) (qw (by kernel_rfl) trivial) (rg0 (by kernel_rfl)) fun x=>by kernel_rfl
noncomputable def qat:Code:=Tryz.f159.body.getD .skip
theorem qDl:FnF Tryz.prog 159 Tryz.f159 qat:=⟨qk,by kernel_rfl,by kernel_rfl,by kernel_rfl⟩
def Wg:TH:={ live:=[(0,[2,3]),(1,[5]),(2,[13,14]),(3,[13,14,15]),(4,[7,13,14]),(5,[8,13,14]),(6,[8,13,14,20]),(7,[4]),(8,[13,14]),(9,[4])] }
def Kd (N:Nat):List Ent:=[qjr N,qjg N,qjo]
theorem X3 (N:Nat):qS Tryz.prog (Kd N):=⟨qrs N,qra N,qqY,trivial⟩
abbrev zt:=qc×qc
abbrev zx:=Bool⊕Unit
def zy (f:zt):zx→Ex×TSt
 | .inl y=>(.ret,⟨0,24,[],[(4,xb y)],[],false,[]⟩)
 | .inr y=>(.exit 0,⟨0,24,[],[(13,.ag [.fn (.func 166) [] [.p 20 [] 0,.p 30 [] 0],.fn (.func 168) [] [.p 20 [] 0,.p 30 [] 0],.fn (.func 171) [] [.p 20 [] 0,.p 30 [] 0]]),(14,.ic .i64 3),(15,.bc false)],[(20,.cell false (.tv qp f.1)),(30,.cell false (.tv qp f.2))],false,[]⟩)
def YQ (N:Nat):List (Nat×qJ):=[]
abbrev Q1:=Unit
def qmu:SP:=⟨0,24,[],[(13,.ag [.fn 166 [] [.k (.p 20 [] 0),.k (.p 30 [] 0)],.fn 168 [] [.k (.p 20 [] 0),.k (.p 30 [] 0)],.fn 171 [] [.k (.p 20 [] 0),.k (.p 30 [] 0)]]),(14,.k (.ic .i64 3))],[(20,.cell false (.x qp)),(30,.cell false (.x qp))],false,[]⟩
def qdh (f:zt) (v:Q1):TSt:=jv qmu [dv qp f.1,dv qp f.2]
def Z6 (N:Nat) (o_3:qc) (o_3_2:qc) (v:Q1):Tree (Q1⊕zx):=
 .ret (.inr (.inr ()))
def qde (N n:Nat) (f:zt) (v:Q1):Option zx:=q8 (Z6 N f.1 f.2) some n v
theorem qmV (N:Nat) (f:zt) (n:Nat) (v:Q1) (y:zx) (h:qde N n f v=some y):LG Tryz.prog Wg 159 (ze qat 3) (qdh f v) (zy f y):=
 jd qk (E:=Kd N) (L:=qQ (YQ N)) (st:=zy f) (g:=some) (R:=zy f) (X3 N) (qw (by kernel_rfl) trivial) (rg0 (by kernel_rfl)) (fun v=>by kernel_rfl) (zn (st:=zy f) fun y=>by rcases y with _ | _<;>rfl) (js0 rfl) n v y h
abbrev QZ:=Unit
def qmX:SP:=⟨0,24,[],[(13,.ag [.fn 166 [] [.k (.p 20 [] 0),.k (.p 30 [] 0)],.fn 168 [] [.k (.p 20 [] 0),.k (.p 30 [] 0)],.fn 171 [] [.k (.p 20 [] 0),.k (.p 30 [] 0)]]),(14,.k (.ic .i64 2))],[(20,.cell false (.x qp)),(30,.cell false (.x qp))],false,[]⟩
def qc_ (f:zt) (v:QZ):TSt:=jv qmX [dv qp f.1,dv qp f.2]
abbrev Kb:=Q1⊕zx
def QX (N:Nat) (o_3:qc) (o_3_2:qc) (v:QZ):Tree (QZ⊕Kb):=
 .chk (0≤(2:Int)∧(2:Int) < ((3:Nat):Int)) <|
 .bind (qb1 o_3 o_3_2) fun r1=>
 .cond (!decide (r1=((0:Int)))) (
 .ret (.inr (.inr ((.inl (decide (r1 < ((0:Int))))))))) <|
 .ret (.inr (.inl ()))
def Ja (N n:Nat) (f:zt):Kb→Option zx
 | .inl w=>qde N n f w
 | .inr w=>some w
def qmy (f:zt):Kb→Ex×TSt
 | .inl w=>(.normal,qdh f w)
 | .inr w=>zy f w
def qdb (N n:Nat) (f:zt) (v:QZ):Option zx:=q8 (QX N f.1 f.2) (Ja N n f) n v
theorem qmA (N:Nat) (f:zt) (n:Nat) (v:QZ) (y:zx) (h:qdb N n f v=some y):LG Tryz.prog Wg 159 (ze qat 3) (qc_ f v) (zy f y):=
 jd qk (E:=Kd N) (L:=qQ (YQ N)) (st:=qmy f) (g:=(Ja N n f)) (R:=zy f) (X3 N) (qw (by kernel_rfl) trivial) (rg0 (by kernel_rfl)) (fun v=>by kernel_rfl) (fun w y h=>by
 rcases w with w | w
 ·exact qmV N f n w y h
 ·exact zn (st:=zy f) (fun y=>by rcases y with _ | _<;>rfl) w y h
) (js0 rfl) n v y h
abbrev QV:=Unit
def qmP:SP:=⟨0,24,[],[(13,.ag [.fn 166 [] [.k (.p 20 [] 0),.k (.p 30 [] 0)],.fn 168 [] [.k (.p 20 [] 0),.k (.p 30 [] 0)],.fn 171 [] [.k (.p 20 [] 0),.k (.p 30 [] 0)]]),(14,.k (.ic .i64 1))],[(20,.cell false (.x qp)),(30,.cell false (.x qp))],false,[]⟩
def qdg (f:zt) (v:QV):TSt:=jv qmP [dv qp f.1,dv qp f.2]
abbrev Y8:=QZ⊕zx
def QU (N:Nat) (o_3:qc) (o_3_2:qc) (v:QV):Tree (QV⊕Y8):=
 .chk (0≤(1:Int)∧(1:Int) < ((3:Nat):Int)) <|
 .bind (qbZ N o_3 o_3_2) fun r1=>
 .cond (!decide (r1=((0:Int)))) (
 .ret (.inr (.inr ((.inl (decide (r1 < ((0:Int))))))))) <|
 .ret (.inr (.inl ()))
def Z7 (N n:Nat) (f:zt):Y8→Option zx
 | .inl w=>qdb N n f w
 | .inr w=>some w
def qmK (f:zt):Y8→Ex×TSt
 | .inl w=>(.normal,qc_ f w)
 | .inr w=>zy f w
def qdf (N n:Nat) (f:zt) (v:QV):Option zx:=q8 (QU N f.1 f.2) (Z7 N n f) n v
theorem qmN (N:Nat) (f:zt) (n:Nat) (v:QV) (y:zx) (h:qdf N n f v=some y):LG Tryz.prog Wg 159 (ze qat 3) (qdg f v) (zy f y):=
 jd qk (E:=Kd N) (L:=qQ (YQ N)) (st:=qmK f) (g:=(Z7 N n f)) (R:=zy f) (X3 N) (qw (by kernel_rfl) trivial) (rg0 (by kernel_rfl)) (fun v=>by kernel_rfl) (fun w y h=>by
 rcases w with w | w
 ·exact qmA N f n w y h
 ·exact zn (st:=zy f) (fun y=>by rcases y with _ | _<;>rfl) w y h
) (js0 rfl) n v y h
abbrev VI:=Unit
def qgW:SP:=⟨0,24,[],[(13,.ag [.fn 166 [] [.k (.p 20 [] 0),.k (.p 30 [] 0)],.fn 168 [] [.k (.p 20 [] 0),.k (.p 30 [] 0)],.fn 171 [] [.k (.p 20 [] 0),.k (.p 30 [] 0)]]),(14,.k (.ic .i64 0))],[(20,.cell false (.x qp)),(30,.cell false (.x qp))],false,[]⟩
def qq1 (f:zt) (v:VI):TSt:=jv qgW [dv qp f.1,dv qp f.2]
abbrev qbC:=QV⊕zx
def Yw (N:Nat) (o_3:qc) (o_3_2:qc) (v:VI):Tree (VI⊕qbC):=
 .chk (0≤(0:Int)∧(0:Int) < ((3:Nat):Int)) <|
 .bind (qb7 N o_3 o_3_2) fun r1=>
 .cond (!decide (r1=((0:Int)))) (
 .ret (.inr (.inr ((.inl (decide (r1 < ((0:Int))))))))) <|
 .ret (.inr (.inl ()))
def qbE (N n:Nat) (f:zt):qbC→Option zx
 | .inl w=>qdf N n f w
 | .inr w=>some w
def qrR (f:zt):qbC→Ex×TSt
 | .inl w=>(.normal,qdg f w)
 | .inr w=>zy f w
def qgV (N n:Nat) (f:zt) (v:VI):Option zx:=q8 (Yw N f.1 f.2) (qbE N n f) n v
theorem qrL (N:Nat) (f:zt) (n:Nat) (v:VI) (y:zx) (h:qgV N n f v=some y):LG Tryz.prog Wg 159 (ze qat 3) (qq1 f v) (zy f y):=
 jd qk (E:=Kd N) (L:=qQ (YQ N)) (st:=qrR f) (g:=(qbE N n f)) (R:=zy f) (X3 N) (qw (by kernel_rfl) trivial) (rg0 (by kernel_rfl)) (fun v=>by kernel_rfl) (fun w y h=>by
 rcases w with w | w
 ·exact qmN N f n w y h
 ·exact zn (st:=zy f) (fun y=>by rcases y with _ | _<;>rfl) w y h
) (js0 rfl) n v y h
def qa7 (N:Nat) (o_3:qc) (o_3_2:qc):Option zx:=qgV N N (o_3,o_3_2) ()
def qgD (N:Nat):qJ:=smL qgW [qp,qp] zx (fun x=>qa7 N x.1 x.2.1) (csS cs1) fun x=>zy (x.1,x.2.1)
theorem qpp (N:Nat):Ql Tryz.prog Wg 159 (ze qat 3) (qgD N):=jF fun x z h=>qrL N (x.1,x.2.1) N () z h
def qx0 (z:Bool):TV×THp:=(xb z,[])
def qfu (N:Nat) (a0:qc) (a1:qc):Tree (Bool):=
 .bind (qa7 N a0 a1) fun z1=>
 .sum z1 (fun z2=>
 .ret z2) fun z2=>
 .ret false
def qe0 (N:Nat) (a0:qc) (a1:qc):Option (Bool):=(qfu N a0 a1).run some
def qxB (N:Nat):List (Nat×qJ):=[(3,qgD N)]
def qm_ (N:Nat):Ent:=smF ⟨159,[],[.x qp,.x qp],[],[]⟩ [qp,qp] (Bool) (fun x=>qe0 N x.1 x.2.1) cs1 fun _=>qx0
theorem quE (N:Nat):zd Tryz.prog (qm_ N):=
 zc (H:=Wg) (L:=qQ (qxB N)) (ts:=[qp,qp]) (T:=fun x=>qfu N x.1 x.2.1) 0 qDl (X3 N) (qw (by kernel_rfl) ⟨qpp N,trivial⟩) (rg0 (by kernel_rfl)) fun x=>by kernel_rfl
noncomputable def qCP:Code:=Tryz.f144.body.getD .skip
theorem qCU:FnF Tryz.prog 144 Tryz.f144 qCP:=⟨qk,by kernel_rfl,by kernel_rfl,by kernel_rfl⟩
def qyk:TH:={ live:=[(0,[2,3,4]),(1,[2,3,4,7]),(2,[4]),(3,[4])] }
def qxN (N:Nat):List Ent:=[qm_ N]
theorem qta (N:Nat):qS Tryz.prog (qxN N):=⟨quE N,trivial⟩
def qxi (z:qc):TV×THp:=(.tv qp z,[])
def qgd (N:Nat) (a0:qc) (a1:qc):Tree (qc):=
 .bind (qe0 N a0 a1) fun r1=>
 .cond r1 (
 .ret a1) <|
 .ret a0
def qfj (N:Nat) (a0:qc) (a1:qc):Option (qc):=(qgd N a0 a1).run some
def qxL (N:Nat):List (Nat×qJ):=[]
def qm9 (N:Nat):Ent:=smF ⟨144,[],[.x qp,.x qp],[],[]⟩ [qp,qp] (qc) (fun x=>qfj N x.1 x.2.1) cs1 fun _=>qxi
theorem qu0 (N:Nat):zd Tryz.prog (qm9 N):=
 zc (H:=qyk) (L:=qQ (qxL N)) (ts:=[qp,qp]) (T:=fun x=>qgd N x.1 x.2.1) 0 qCU (qta N) (qw (by kernel_rfl) trivial) (rg0 (by kernel_rfl)) fun x=>by kernel_rfl
noncomputable def qkt:Code:=Tryz.f130.body.getD .skip
theorem qBo:FnF Tryz.prog 130 Tryz.f130 qkt:=⟨qk,by kernel_rfl,by kernel_rfl,by kernel_rfl⟩
def WE:TH:={ live:=[(0,[0,3]),(1,[0,9,10,11]),(2,[0,9,10,11,12]),(3,[0,5,9,10,11]),(4,[0,5,6,7,9,10,11]),(5,[0,5,6,9,10,11,22]),(6,[0,9,10,11]),(7,[0,9,10,11]),(8,[0,9,10,11])] }
def qcl (N:Nat):List Ent:=[qm9 N]
theorem qbb (N:Nat):qS Tryz.prog (qcl N):=⟨qu0 N,trivial⟩
abbrev ZO:=List qd×Int
abbrev vu:=Nat×List (Int×qc×Nat)×Int×Bool
def Qz (f:ZO) (y:vu):Ex×TSt:=(.exit 0,⟨1,36,[250],[(0,.m 250),(9,.tv (.sl 4 qE) f.1),(10,xi f.2),(11,xi y.2.2.1),(12,xb y.2.2.2)],[(250,.map y.1 (.i .i64) qp (y.2.1:List (Int×qc×Nat)))],false,[]⟩)
def qhb (N:Nat):List (Nat×qJ):=[]
abbrev Qy:=Nat×List (Int×qc×Nat)×Int
def qaw:SP:=⟨1,36,[250],[(0,.k (.m 250)),(9,.x (.sl 4 qE)),(10,.x (.i .i64)),(11,.x (.i .i64))],[(250,.map (.i .i64) qp)],false,[]⟩
def qgL (f:ZO) (v:Qy):TSt:=jv qaw [dv .nat v.1,dv (Xj (.i .i64) qp) v.2.1,dv (.sl 4 qE) f.1,dv (.i .i64) f.2,dv (.i .i64) v.2.2]
def Qu (N:Nat) (s9_2:List qd) (s10_2:Int) (v:Qy):Tree (Qy⊕vu):=
 .cond (decide (v.2.2 < s10_2)) (
 .bind (zr s9_2 v.2.2) fun e1=>
 .opt (fnd (β:=qc) (.i .i64) (qd.No e1) v.2.1) (
 .chk (qy (v.2.2 + 1)) <|
 .ret (.inl ((QE (.i .i64) (qd.No e1) (qd.C e1) v.1 v.2.1).1,(QE (.i .i64) (qd.No e1) (qd.C e1) v.1 v.2.1).2,v.2.2 + 1))) fun e2=>
 .bind (qfj N e2.1 (qd.C e1)) fun r3=>
 .chk (qy (v.2.2 + 1)) <|
 .ret (.inl ((QE (.i .i64) (qd.No e1) r3 v.1 v.2.1).1,(QE (.i .i64) (qd.No e1) r3 v.1 v.2.1).2,v.2.2 + 1))) <|
 .ret (.inr (v.1,v.2.1,v.2.2,decide (v.2.2 < s10_2)))
def qau (N n:Nat) (f:ZO) (v:Qy):Option vu:=q8 (Qu N f.1 f.2) some n v
theorem qha (N:Nat) (f:ZO) (n:Nat) (v:Qy) (y:vu) (h:qau N n f v=some y):LG Tryz.prog WE 130 (ze qkt 2) (qgL f v) (Qz f y):=
 jd qk (E:=qcl N) (L:=qQ (qhb N)) (st:=Qz f) (g:=some) (R:=Qz f) (qbb N) (qw (by kernel_rfl) trivial) (rg0 (by kernel_rfl)) (fun v=>by kernel_rfl) (zn (st:=Qz f) fun y=>by rfl) (js0 rfl) n v y h
def Wo (N:Nat) (s9_2:List qd) (s10_2:Int) (o_2:Nat) (o_2_2:List (Int×qc×Nat)) (s11_2:Int):Option vu:=qau N N (s9_2,s10_2) (o_2,o_2_2,s11_2)
def K_ (N:Nat):qJ:=smL qaw [.nat,(Xj (.i .i64) qp),(.sl 4 qE),(.i .i64),(.i .i64)] vu (fun x=>Wo N x.2.2.1 x.2.2.2.1 x.1 x.2.1 x.2.2.2.2.1) cs1 fun x=>Qz (x.2.2.1,x.2.2.2.1)
theorem qfO (N:Nat):Ql Tryz.prog WE 130 (ze qkt 2) (K_ N):=jF fun x z h=>qha N (x.2.2.1,x.2.2.2.1) N (x.1,x.2.1,x.2.2.2.2.1) z h
def qlS (z:Nat×List (Int×qc×Nat)):TV×THp:=(.tup [],[(250,.map z.1 (.i .i64) qp (z.2:List (Int×qc×Nat)))])
def Yn (N:Nat) (a0:Nat) (a1:List (Int×qc×Nat)) (a2:qa):Tree (Nat×List (Int×qc×Nat)):=
 .bind (Wo N (qa.F a2) (((qa.F a2).length:Nat):Int) a0 a1 0) fun z1=>
 .ret (z1.1,z1.2.1)
def Jy (N:Nat) (a0:Nat) (a1:List (Int×qc×Nat)) (a2:qa):Option (Nat×List (Int×qc×Nat)):=(Yn N a0 a1 a2).run some
def qjZ (N:Nat):List (Nat×qJ):=[(2,K_ N)]
def qcp (N:Nat):Ent:=smF ⟨130,[],[.k (.m 250),.x qj],[],[(250,.map (.i .i64) qp)]⟩ [.nat,(Xj (.i .i64) qp),qj] (Nat×List (Int×qc×Nat)) (fun x=>Jy N x.1 x.2.1 x.2.2.1) cs1 fun _=>qlS
theorem qjJ (N:Nat):zd Tryz.prog (qcp N):=
 zc (H:=WE) (L:=qQ (qjZ N)) (ts:=[.nat,(Xj (.i .i64) qp),qj]) (T:=fun x=>Yn N x.1 x.2.1 x.2.2.1) 0 qBo (qbb N) (qw (by kernel_rfl) ⟨qfO N,trivial⟩) (rg0 (by kernel_rfl)) fun x=>by kernel_rfl
noncomputable def qCo:Code:=Tryz.f131.body.getD .skip
theorem qBW:FnF Tryz.prog 131 Tryz.f131 qCo:=⟨qk,by kernel_rfl,by kernel_rfl,by kernel_rfl⟩
def qxW:TH:={ live:=[(0,[2,3,4]),(1,[2,3,4,7]),(2,[4]),(3,[4])] }
def qxr (N:Nat):List Ent:=[Yr N]
theorem qtx (N:Nat):qS Tryz.prog (qxr N):=⟨KF N,trivial⟩
def qxq (z:qe):TV×THp:=(.tv ql z,[])
def qfZ (N:Nat) (a0:qe) (a1:qe):Tree (qe):=
 .bind (QL N a0 a1) fun r1=>
 .cond r1 (
 .ret a1) <|
 .ret a0
def qfn (N:Nat) (a0:qe) (a1:qe):Option (qe):=(qfZ N a0 a1).run some
def qw7 (N:Nat):List (Nat×qJ):=[]
def qm4 (N:Nat):Ent:=smF ⟨131,[],[.x ql,.x ql],[],[]⟩ [ql,ql] (qe) (fun x=>qfn N x.1 x.2.1) cs1 fun _=>qxq
theorem qum (N:Nat):zd Tryz.prog (qm4 N):=
 zc (H:=qxW) (L:=qQ (qw7 N)) (ts:=[ql,ql]) (T:=fun x=>qfZ N x.1 x.2.1) 0 qBW (qtx N) (qw (by kernel_rfl) trivial) (rg0 (by kernel_rfl)) fun x=>by kernel_rfl
noncomputable def qDU:Code:=Tryz.f132.body.getD .skip
theorem qDJ:FnF Tryz.prog 132 Tryz.f132 qDU:=⟨qk,by kernel_rfl,by kernel_rfl,by kernel_rfl⟩
def qhc:TH:={ live:=[(0,[2,3]),(1,[4])],esc:=true }
def qhd (N:Nat):List Ent:=[]
theorem qeP (N:Nat):qS Tryz.prog (qhd N):=trivial
def qgX (a0:Nat) (a1:List (Int×qc×Nat)) (a2:qe) (z:Unit):TV×THp:=(.fn (.func 145) [] [.p 100020 [] 0,.p 100030 [] 0],[(250,.map a0 (.i .i64) qp a1),(100020,.cell false (.m 250)),(100030,.cell false (.tv ql a2))])
def qac (a0:Nat) (a1:List (Int×qc×Nat)) (a2:qe):Tree (Unit):=
 .ret ()
def qbu (a0:Nat) (a1:List (Int×qc×Nat)) (a2:qe):Option (Unit):=(qac a0 a1 a2).run some
def qhq:List (Nat×qJ):=[]
def K8:Ent:=smF ⟨132,[],[.k (.m 250),.x ql],[],[(250,.map (.i .i64) qp)]⟩ [.nat,(Xj (.i .i64) qp),ql] (Unit) (fun x=>qbu x.1 x.2.1 x.2.2.1) cs1 fun x=>qgX x.1 x.2.1 x.2.2.1
theorem qgg:zd Tryz.prog (K8):=
 zc (H:=qhc) (L:=qQ (qhq)) (ts:=[.nat,(Xj (.i .i64) qp),ql]) (T:=fun x=>qac x.1 x.2.1 x.2.2.1) 0 qDJ (qeP 0) (qw (by kernel_rfl) trivial) (rg0 (by kernel_rfl)) fun x=>by kernel_rfl
def qkX:TH:={ live:=[(0,[2,3,4]),(1,[2,3,4,23]),(2,[4,5]),(3,[2,3,4,6]),(4,[2,3,4,6]),(5,[2,3,4,6]),(6,[4,6,7]),(7,[4,7,43]),(8,[7,8]),(10,[4,5])],dec:=[12,17],fresh:=[43] }
def qlx (N:Nat):List Ent:=[]
theorem qh5 (N:Nat):qS Tryz.prog (qlx N):=trivial
def qll (a0:List qd) (a1:List qd) (a2:Nat) (a3:List (Int×qc×Nat)) (a4:Vector UInt8 16) (a5:qe) (a6:Vector UInt8 16) (a7:qe) (a8:qe) (a9:qd) (z:Unit):TV×THp:=(.bc true,[(40,.cell false (.ag [.tv (.ba 16) a4,.tv ql a5,.v 45 a0.length])),(45,.vec false 4 (.sl 4 qE) a0),(70,.cell false (.ag [.tv (.ba 16) a6,.tv ql a7,.v 75 ((a1++[a9]).length)])),(75,.vec false 4 (.sl 4 qE) (a1++[a9]:List qd)),(250,.map a2 (.i .i64) qp a3),(50080,.loop [44] 52 [(4,.p 40 [] 0),(7,.p 70 [] 0),(43,.fn (.func 145) [] [.p 100020 [] 0,.p 100030 [] 0])] 11300008 113 .ready none 50081),(50081,.dfr true),(100020,.cell false (.m 250)),(100030,.cell false (.tv ql a8))])
def Yl (a0:List qd) (a1:List qd) (a2:Nat) (a3:List (Int×qc×Nat)) (a4:Vector UInt8 16) (a5:qe) (a6:Vector UInt8 16) (a7:qe) (a8:qe) (a9:qd):Tree (Unit):=
 .chk (Vh a1.length a1.length ((a1++[a9]).length) 40) <|
 .ret ()
def Xn (a0:List qd) (a1:List qd) (a2:Nat) (a3:List (Int×qc×Nat)) (a4:Vector UInt8 16) (a5:qe) (a6:Vector UInt8 16) (a7:qe) (a8:qe) (a9:qd):Option (Unit):=(Yl a0 a1 a2 a3 a4 a5 a6 a7 a8 a9).run some
def qj8:List (Nat×qJ):=[]
def qcq:Ent:=smR 50080 [.x qE] [(40,.cell false (.ag [.x (.ba 16),.x ql,.vs 45])),(45,.vec false 4),(70,.cell false (.ag [.x (.ba 16),.x ql,.vs 75])),(75,.vec false 4),(250,.map (.i .i64) qp),(50080,.loop [44] 52 [(4,.k (.p 40 [] 0)),(7,.k (.p 70 [] 0)),(43,.fn 145 [] [.k (.p 100020 [] 0),.k (.p 100030 [] 0)])] 11300008 113 .ready none 50081),(50081,.dfr true),(100020,.cell false (.k (.m 250))),(100030,.cell false (.x ql))] [(.sl 4 qE),(.sl 4 qE),.nat,(Xj (.i .i64) qp),(.ba 16),ql,(.ba 16),ql,ql,qE] (Unit) (fun x=>Xn x.1 x.2.1 x.2.2.1 x.2.2.2.1 x.2.2.2.2.1 x.2.2.2.2.2.1 x.2.2.2.2.2.2.1 x.2.2.2.2.2.2.2.1 x.2.2.2.2.2.2.2.2.1 x.2.2.2.2.2.2.2.2.2.1) cs1 fun x=>qll x.1 x.2.1 x.2.2.1 x.2.2.2.1 x.2.2.2.2.1 x.2.2.2.2.2.1 x.2.2.2.2.2.2.1 x.2.2.2.2.2.2.2.1 x.2.2.2.2.2.2.2.2.1 x.2.2.2.2.2.2.2.2.2.1
theorem qjI:zd Tryz.prog (qcq):=
 qI2 (H:=qkX) (L:=qQ (qj8)) (ts:=[(.sl 4 qE),(.sl 4 qE),.nat,(Xj (.i .i64) qp),(.ba 16),ql,(.ba 16),ql,ql,qE]) (T:=fun x=>Yl x.1 x.2.1 x.2.2.1 x.2.2.2.1 x.2.2.2.2.1 x.2.2.2.2.2.1 x.2.2.2.2.2.2.1 x.2.2.2.2.2.2.2.1 x.2.2.2.2.2.2.2.2.1 x.2.2.2.2.2.2.2.2.2.1) (K:=113) (cid:=11300008) 2 qk (qh5 0) (by kernel_rfl) (qw (by kernel_rfl) trivial) (rg0 (by kernel_rfl)) (rg0 (by kernel_rfl)) (fun x=>by kernel_rfl) fun x=>by kernel_rfl
noncomputable def qjU:Code:=Tryz.f145.body.getD .skip
theorem qCz:FnF Tryz.prog 145 Tryz.f145 qjU:=⟨qk,by kernel_rfl,by kernel_rfl,by kernel_rfl⟩
def JO:TH:={ live:=[(0,[0,1,2,7]),(1,[0,1,2,7,8]),(2,[0,1,2,4,7]),(3,[0,1,2,4,5,6,7]),(4,[0,1,2,7,30]),(5,[0,1,2,7])],dec:=[17,23] }
def YY (N:Nat):List Ent:=[Yr N,qcq]
theorem Wt (N:Nat):qS Tryz.prog (YY N):=⟨KF N,qjI,trivial⟩
abbrev Qf:=List qd×Nat×List (Int×qc×Nat)×Vector UInt8 16×qe×Vector UInt8 16×qe×qe
abbrev ju:=List qd×Int×Bool
def jY (f:Qf) (y:ju):Ex×TSt:=(.exit 0,⟨2,32,[40,45,70,75,250,50080,50081,100020,100030],[(0,.yl 50080),(1,.p 100020 [] 0),(2,.p 100030 [] 0),(7,xi y.2.1),(8,xb y.2.2)],[(40,.cell false (.ag [.tv (.ba 16) f.2.2.2.1,.tv ql f.2.2.2.2.1,.v 45 f.1.length])),(45,.vec false 4 (.sl 4 qE) f.1),(70,.cell false (.ag [.tv (.ba 16) f.2.2.2.2.2.1,.tv ql f.2.2.2.2.2.2.1,.v 75 y.1.length])),(75,.vec false 4 (.sl 4 qE) (y.1:List qd)),(250,.map f.2.1 (.i .i64) qp f.2.2.1),(50080,.loop [44] 52 [(4,.p 40 [] 0),(7,.p 70 [] 0),(43,.fn (.func 145) [] [.p 100020 [] 0,.p 100030 [] 0])] 11300008 113 .ready none 50081),(50081,.dfr true),(100020,.cell false (.m 250)),(100030,.cell false (.tv ql f.2.2.2.2.2.2.2))],false,[]⟩)
def qcP (N:Nat):List (Nat×qJ):=[]
abbrev jZ:=List qd×Int
def X7:SP:=⟨2,32,[40,45,70,75,250,50080,50081,100020,100030],[(0,.k (.yl 50080)),(1,.k (.p 100020 [] 0)),(2,.k (.p 100030 [] 0)),(7,.x (.i .i64))],[(40,.cell false (.ag [.x (.ba 16),.x ql,.vs 45])),(45,.vec false 4),(70,.cell false (.ag [.x (.ba 16),.x ql,.vs 75])),(75,.vec false 4),(250,.map (.i .i64) qp),(50080,.loop [44] 52 [(4,.k (.p 40 [] 0)),(7,.k (.p 70 [] 0)),(43,.fn 145 [] [.k (.p 100020 [] 0),.k (.p 100030 [] 0)])] 11300008 113 .ready none 50081),(50081,.dfr true),(100020,.cell false (.k (.m 250))),(100030,.cell false (.x ql))],false,[]⟩
def qcM (f:Qf) (v:jZ):TSt:=jv X7 [dv (.sl 4 qE) f.1,dv (.sl 4 qE) v.1,dv .nat f.2.1,dv (Xj (.i .i64) qp) f.2.2.1,dv (.ba 16) f.2.2.2.1,dv ql f.2.2.2.2.1,dv (.ba 16) f.2.2.2.2.2.1,dv ql f.2.2.2.2.2.2.1,dv ql f.2.2.2.2.2.2.2,dv (.i .i64) v.2]
def Qg (N:Nat) (o_1:List qd) (o_1_3:Nat) (o_1_4:List (Int×qc×Nat)) (o_1_5:Vector UInt8 16) (o_1_6:qe) (o_1_7:Vector UInt8 16) (o_1_8:qe) (o_1_9:qe) (v:jZ):Tree (jZ⊕ju):=
 .cond (decide (v.2 < ((8:Int)))) (
 .opt (fnd (β:=qc) (.i .i64) v.2 o_1_4) (
 .chk (qy (v.2 + 1)) <|
 .ret (.inl (v.1,v.2 + 1))) fun e1=>
 .bind (QL N o_1_9 (qc.S e1.1)) fun r2=>
 .cond r2 (
 .bind (j8 [(o_1.length,o_1.length),(v.1.length,v.1.length)] (Xn o_1 v.1 o_1_3 o_1_4 o_1_5 o_1_6 o_1_7 o_1_8 o_1_9 (qd.mk v.2 e1.1))) fun r3=>
 .chk (qy (v.2 + 1)) <|
 .ret (.inl (v.1++[qd.mk v.2 e1.1],v.2 + 1))) <|
 .chk (qy (v.2 + 1)) <|
 .ret (.inl (v.1,v.2 + 1))) <|
 .ret (.inr (v.1,v.2,decide (v.2 < ((8:Int)))))
def XY (N n:Nat) (f:Qf) (v:jZ):Option ju:=q8 (Qg N f.1 f.2.1 f.2.2.1 f.2.2.2.1 f.2.2.2.2.1 f.2.2.2.2.2.1 f.2.2.2.2.2.2.1 f.2.2.2.2.2.2.2) some n v
theorem qc0 (N:Nat) (f:Qf) (n:Nat) (v:jZ) (y:ju) (h:XY N n f v=some y):LG Tryz.prog JO 145 (ze qjU 1) (qcM f v) (jY f y):=
 jd qk (E:=YY N) (L:=qQ (qcP N)) (st:=jY f) (g:=some) (R:=jY f) (Wt N) (qw (by kernel_rfl) trivial) (rg0 (by kernel_rfl)) (fun v=>by kernel_rfl) (zn (st:=jY f) fun y=>by rfl) (js0 rfl) n v y h
def JH (N:Nat) (o_1:List qd) (o_1_3:Nat) (o_1_4:List (Int×qc×Nat)) (o_1_5:Vector UInt8 16) (o_1_6:qe) (o_1_7:Vector UInt8 16) (o_1_8:qe) (o_1_9:qe) (o_1_2:List qd) (s7_1:Int):Option ju:=XY N N (o_1,o_1_3,o_1_4,o_1_5,o_1_6,o_1_7,o_1_8,o_1_9) (o_1_2,s7_1)
def X0 (N:Nat):qJ:=smL X7 [(.sl 4 qE),(.sl 4 qE),.nat,(Xj (.i .i64) qp),(.ba 16),ql,(.ba 16),ql,ql,(.i .i64)] ju (fun x=>JH N x.1 x.2.2.1 x.2.2.2.1 x.2.2.2.2.1 x.2.2.2.2.2.1 x.2.2.2.2.2.2.1 x.2.2.2.2.2.2.2.1 x.2.2.2.2.2.2.2.2.1 x.2.1 x.2.2.2.2.2.2.2.2.2.1) cs1 fun x=>jY (x.1,x.2.2.1,x.2.2.2.1,x.2.2.2.2.1,x.2.2.2.2.2.1,x.2.2.2.2.2.2.1,x.2.2.2.2.2.2.2.1,x.2.2.2.2.2.2.2.2.1)
theorem qcz (N:Nat):Ql Tryz.prog JO 145 (ze qjU 1) (X0 N):=jF fun x z h=>qc0 N (x.1,x.2.2.1,x.2.2.2.1,x.2.2.2.2.1,x.2.2.2.2.2.1,x.2.2.2.2.2.2.1,x.2.2.2.2.2.2.2.1,x.2.2.2.2.2.2.2.2.1) N (x.2.1,x.2.2.2.2.2.2.2.2.2.1) z h
def qeM (a0:List qd) (a2:Nat) (a3:List (Int×qc×Nat)) (a4:Vector UInt8 16) (a5:qe) (a6:Vector UInt8 16) (a7:qe) (a8:qe) (z:List qd):TV×THp:=(.tup [],[(40,.cell false (.ag [.tv (.ba 16) a4,.tv ql a5,.v 45 a0.length])),(45,.vec false 4 (.sl 4 qE) a0),(70,.cell false (.ag [.tv (.ba 16) a6,.tv ql a7,.v 75 z.length])),(75,.vec false 4 (.sl 4 qE) z),(250,.map a2 (.i .i64) qp a3),(50080,.loop [44] 52 [(4,.p 40 [] 0),(7,.p 70 [] 0),(43,.fn (.func 145) [] [.p 100020 [] 0,.p 100030 [] 0])] 11300008 113 .ready none 50081),(50081,.dfr true),(100020,.cell false (.m 250)),(100030,.cell false (.tv ql a8))])
def JN (N:Nat) (a0:List qd) (a1:List qd) (a2:Nat) (a3:List (Int×qc×Nat)) (a4:Vector UInt8 16) (a5:qe) (a6:Vector UInt8 16) (a7:qe) (a8:qe):Tree (List qd):=
 .bind (j8 [(a0.length,a0.length),(a1.length,a1.length)] (JH N a0 a2 a3 a4 a5 a6 a7 a8 a1 0)) fun z1=>
 .ret z1.1
def ZR (N:Nat) (a0:List qd) (a1:List qd) (a2:Nat) (a3:List (Int×qc×Nat)) (a4:Vector UInt8 16) (a5:qe) (a6:Vector UInt8 16) (a7:qe) (a8:qe):Option (List qd):=(JN N a0 a1 a2 a3 a4 a5 a6 a7 a8).run some
def qeK (N:Nat):List (Nat×qJ):=[(1,X0 N)]
def Y4 (N:Nat):Ent:=smF ⟨145,[],[.k (.yl 50080)],[.k (.p 100020 [] 0),.k (.p 100030 [] 0)],[(40,.cell false (.ag [.x (.ba 16),.x ql,.vs 45])),(45,.vec false 4),(70,.cell false (.ag [.x (.ba 16),.x ql,.vs 75])),(75,.vec false 4),(250,.map (.i .i64) qp),(50080,.loop [44] 52 [(4,.k (.p 40 [] 0)),(7,.k (.p 70 [] 0)),(43,.fn 145 [] [.k (.p 100020 [] 0),.k (.p 100030 [] 0)])] 11300008 113 .ready none 50081),(50081,.dfr true),(100020,.cell false (.k (.m 250))),(100030,.cell false (.x ql))]⟩ [(.sl 4 qE),(.sl 4 qE),.nat,(Xj (.i .i64) qp),(.ba 16),ql,(.ba 16),ql,ql] (List qd) (fun x=>ZR N x.1 x.2.1 x.2.2.1 x.2.2.2.1 x.2.2.2.2.1 x.2.2.2.2.2.1 x.2.2.2.2.2.2.1 x.2.2.2.2.2.2.2.1 x.2.2.2.2.2.2.2.2.1) cs1 fun x=>qeM x.1 x.2.2.1 x.2.2.2.1 x.2.2.2.2.1 x.2.2.2.2.2.1 x.2.2.2.2.2.2.1 x.2.2.2.2.2.2.2.1 x.2.2.2.2.2.2.2.2.1
theorem qel (N:Nat):zd Tryz.prog (Y4 N):=
 zc (H:=JO) (L:=qQ (qeK N)) (ts:=[(.sl 4 qE),(.sl 4 qE),.nat,(Xj (.i .i64) qp),(.ba 16),ql,(.ba 16),ql,ql]) (T:=fun x=>JN N x.1 x.2.1 x.2.2.1 x.2.2.2.1 x.2.2.2.2.1 x.2.2.2.2.2.1 x.2.2.2.2.2.2.1 x.2.2.2.2.2.2.2.1 x.2.2.2.2.2.2.2.2.1) 1 qCz (Wt N) (qw (by kernel_rfl) ⟨qcz N,trivial⟩) (rg0 (by kernel_rfl)) fun x=>by kernel_rfl
noncomputable def qCv:Code:=Tryz.f113.body.getD .skip
theorem qCG:FnF Tryz.prog 113 Tryz.f113 qCv:=⟨qk,by kernel_rfl,by kernel_rfl,by kernel_rfl⟩
def qBd:TH:={ live:=[(0,[2,3,4]),(1,[2,3,4,23]),(2,[4,5]),(3,[2,3,4,6]),(4,[2,3,4,6]),(5,[2,3,4,6]),(6,[4,6,7]),(7,[4,7,43]),(8,[7,8]),(10,[4,5])],dec:=[12,17],fresh:=[43],nil:=[(0,[⟨.ob 40 [2],45,(.sl 4 qE)⟩]),(2,[⟨.ob 40 [2],45,(.sl 4 qE)⟩]),(6,[⟨.ob 70 [2],75,(.sl 4 qE)⟩])] }
def qzx (N:Nat):List Ent:=[qe1 N,qcp N,qm4 N,K8,Y4 N]
theorem qvt (N:Nat):qS Tryz.prog (qzx N):=⟨qiV N,qjJ N,qum N,qgg,qel N,trivial⟩
def qzC (z:qa×Bool):TV×THp:=(.tup [.tv qj (z.1:qa),xb z.2],[])
def qi0 (N:Nat) (a0:qa) (a1:qa):Tree (qa×Bool):=
 .bind (qbI N a0) fun r1=>
 .cond (!r1) (
 .chk (0=0) <|
 .ret (qa.mk ((Vector.replicate 16 0)) (qe.mk 0 0) [],false)) <|
 .bind (qbI N a1) fun r2=>
 .cond (!r2) (
 .chk (0=0) <|
 .ret (qa.mk ((Vector.replicate 16 0)) (qe.mk 0 0) [],false)) <|
 .cond (!(eqE (.ba 16) (qa.ID a0) (qa.ID a1))) (
 .chk (0=0) <|
 .ret (qa.mk ((Vector.replicate 16 0)) (qe.mk 0 0) [],false)) <|
 .bind (Jy N 0 [] a0) fun r3=>
 .bind (Jy N r3.1 r3.2 a1) fun r4=>
 .bind (qfn N (qa.zi a0) (qa.zi a1)) fun r5=>
 .bind (qbu r4.1 r4.2 r5) fun r6=>
 .bind (j8 [(([]:List qd).length,0),(([]:List qd).length,0)] (ZR N [] [] r4.1 r4.2 ((Vector.replicate 16 0)) (qe.mk 0 0) (qa.ID a0) r5 r5)) fun r7=>
 .chk (r7.length=r7.length) <|
 .ret (qa.mk (qa.ID a0) r5 r7,true)
def qiH (N:Nat) (a0:qa) (a1:qa):Option (qa×Bool):=(qi0 N a0 a1).run some
def qBl (N:Nat):List (Nat×qJ):=[]
def qo6 (N:Nat):Ent:=smF ⟨113,[],[.x qj,.x qj],[],[]⟩ [qj,qj] (qa×Bool) (fun x=>qiH N x.1 x.2.1) cs1 fun _=>qzC
theorem qxA (N:Nat):zd Tryz.prog (qo6 N):=
 zc (H:=qBd) (L:=qQ (qBl N)) (ts:=[qj,qj]) (T:=fun x=>qi0 N x.1 x.2.1) 0 qCG (qvt N) (qw (by kernel_rfl) trivial) (rgs (by kernel_rfl)) fun x=>by kernel_rfl
noncomputable def qD9:Code:=Tryz.f155.body.getD .skip
theorem qB6:FnF Tryz.prog 155 Tryz.f155 qD9:=⟨qk,by kernel_rfl,by kernel_rfl,by kernel_rfl⟩
def qm0:TH:={ live:=[(0,[0,2]),(1,[0,2,4]),(2,[0]),(3,[0,2]),(4,[0,2,8]),(5,[0,2]),(6,[0,2]),(7,[0,2,14]),(8,[0,2]),(9,[0,2]),(10,[2])] }
def qmL (N:Nat):List Ent:=[]
theorem qjz (N:Nat):qS Tryz.prog (qmL N):=trivial
def qmH (z:Int):TV×THp:=(xi z,[])
def qc6 (a0:Int):Tree (Int):=
 .cond (decide (((4294967296:Int))≤a0)) (
 .chk (0≤(32:Int)) <|
 .cond (decide (65536≤(ZA a0 32))) (
 .chk (0≤(16:Int)) <|
 .cond (decide (256≤(ZA (ZA a0 32) 16))) (
 .chk (0≤(8:Int)) <|
 let w1:Int:=IntKind.u8.wrap (ZA (ZA (ZA a0 32) 16) 8)
 .bind (zr qlb w1) fun e2=>
 .chk (qy ((e2.toNat:Nat):Int)) <|
 .chk (qy (((56:Int)) + ((e2.toNat:Nat):Int))) <|
 .ret (((56:Int)) + ((e2.toNat:Nat):Int))) <|
 .bind (zr qlb (IntKind.u8.wrap (ZA (ZA a0 32) 16))) fun e1=>
 .chk (qy ((e1.toNat:Nat):Int)) <|
 .chk (qy (((48:Int)) + ((e1.toNat:Nat):Int))) <|
 .ret (((48:Int)) + ((e1.toNat:Nat):Int))) <|
 .cond (decide (256≤(ZA a0 32))) (
 .chk (0≤(8:Int)) <|
 .bind (zr qlb (IntKind.u8.wrap (ZA (ZA a0 32) 8))) fun e1=>
 .chk (qy ((e1.toNat:Nat):Int)) <|
 .chk (qy (((40:Int)) + ((e1.toNat:Nat):Int))) <|
 .ret (((40:Int)) + ((e1.toNat:Nat):Int))) <|
 .bind (zr qlb (IntKind.u8.wrap (ZA a0 32))) fun e1=>
 .chk (qy ((e1.toNat:Nat):Int)) <|
 .chk (qy (((32:Int)) + ((e1.toNat:Nat):Int))) <|
 .ret (((32:Int)) + ((e1.toNat:Nat):Int))) <|
 .cond (decide (((65536:Int))≤a0)) (
 .chk (0≤(16:Int)) <|
 .cond (decide (256≤(ZA a0 16))) (
 .chk (0≤(8:Int)) <|
 .bind (zr qlb (IntKind.u8.wrap (ZA (ZA a0 16) 8))) fun e1=>
 .chk (qy ((e1.toNat:Nat):Int)) <|
 .chk (qy (((24:Int)) + ((e1.toNat:Nat):Int))) <|
 .ret (((24:Int)) + ((e1.toNat:Nat):Int))) <|
 .bind (zr qlb (IntKind.u8.wrap (ZA a0 16))) fun e1=>
 .chk (qy ((e1.toNat:Nat):Int)) <|
 .chk (qy (((16:Int)) + ((e1.toNat:Nat):Int))) <|
 .ret (((16:Int)) + ((e1.toNat:Nat):Int))) <|
 .cond (decide (((256:Int))≤a0)) (
 .chk (0≤(8:Int)) <|
 .bind (zr qlb (IntKind.u8.wrap (ZA a0 8))) fun e1=>
 .chk (qy ((e1.toNat:Nat):Int)) <|
 .chk (qy (((8:Int)) + ((e1.toNat:Nat):Int))) <|
 .ret (((8:Int)) + ((e1.toNat:Nat):Int))) <|
 .bind (zr qlb (IntKind.u8.wrap a0)) fun e1=>
 .chk (qy ((e1.toNat:Nat):Int)) <|
 .chk (qy (((0:Int)) + ((e1.toNat:Nat):Int))) <|
 .ret (((0:Int)) + ((e1.toNat:Nat):Int))
def qeV (a0:Int):Option (Int):=(qc6 a0).run some
def qmO:List (Nat×qJ):=[]
def qc5:Ent:=smF ⟨155,[],[.x (.i .u64)],[],[]⟩ [(.i .u64)] (Int) (fun x=>qeV x.1) cs1 fun _=>qmH
theorem qkf:zd Tryz.prog (qc5):=
 zc (H:=qm0) (L:=qQ (qmO)) (ts:=[(.i .u64)]) (T:=fun x=>qc6 x.1) 0 qB6 (qjz 0) (qw (by kernel_rfl) trivial) (rg0 (by kernel_rfl)) fun x=>by kernel_rfl
noncomputable def qCJ:Code:=Tryz.f134.body.getD .skip
theorem qB4:FnF Tryz.prog 134 Tryz.f134 qCJ:=⟨qk,by kernel_rfl,by kernel_rfl,by kernel_rfl⟩
def qo3:TH:={ live:=[(0,[0]),(1,[2]),(2,[2])] }
def qpS (N:Nat):List Ent:=[qc5]
theorem qmQ (N:Nat):qS Tryz.prog (qpS N):=⟨qkf,trivial⟩
def qqi (z:Int):TV×THp:=(xi z,[])
def qeS (a0:Int):Tree (Int):=
 .bind (qeV a0) fun r1=>
 .ret r1
def KA (a0:Int):Option (Int):=(qeS a0).run some
def qp_:List (Nat×qJ):=[]
def qfq:Ent:=smF ⟨134,[],[.x (.i .u64)],[],[]⟩ [(.i .u64)] (Int) (fun x=>KA x.1) cs1 fun _=>qqi
theorem qox:zd Tryz.prog (qfq):=
 zc (H:=qo3) (L:=qQ (qp_)) (ts:=[(.i .u64)]) (T:=fun x=>qeS x.1) 0 qB4 (qmQ 0) (qw (by kernel_rfl) trivial) (rg0 (by kernel_rfl)) fun x=>by kernel_rfl
noncomputable def qCN:Code:=Tryz.f115.body.getD .skip
theorem qBU:FnF Tryz.prog 115 Tryz.f115 qCN:=⟨qk,by kernel_rfl,by kernel_rfl,by kernel_rfl⟩
def qqV:TH:={ live:=[(0,[2,3]),(1,[4])] }
def qrg (N:Nat):List Ent:=[WB]
theorem qn1 (N:Nat):qS Tryz.prog (qrg N):=⟨KY,trivial⟩
def qrw (z:Int):TV×THp:=(xi z,[])
def qgR (a0:Vector UInt8 16) (a1:Vector UInt8 16):Tree (Int):=
 .bind (X2 a0.toList a1.toList) fun r1=>
 .ret r1
def qef (a0:Vector UInt8 16) (a1:Vector UInt8 16):Option (Int):=(qgR a0 a1).run some
def qrH:List (Nat×qJ):=[]
def qgI:Ent:=smF ⟨115,[],[.x (.ba 16),.x (.ba 16)],[],[]⟩ [(.ba 16),(.ba 16)] (Int) (fun x=>qef x.1 x.2.1) cs1 fun _=>qrw
theorem qqo:zd Tryz.prog (qgI):=
 zc (H:=qqV) (L:=qQ (qrH)) (ts:=[(.ba 16),(.ba 16)]) (T:=fun x=>qgR x.1 x.2.1) 0 qBU (qn1 0) (qw (by kernel_rfl) trivial) (rg0 (by kernel_rfl)) fun x=>by kernel_rfl
noncomputable def qcA:Code:=Tryz.f146.body.getD .skip
theorem qCQ:FnF Tryz.prog 146 Tryz.f146 qcA:=⟨qk,by kernel_rfl,by kernel_rfl,by kernel_rfl⟩
def jk:TH:={ live:=[(0,[0,1,2,3,8]),(1,[0,1,2,3,8,14]),(2,[0,1,2,3,8]),(3,[0,1,2,3,8,9]),(4,[0,1,2,3,8,9,34]),(5,[0,1,2,3,8,9]),(6,[0,1,2,3,8,9])],dec:=[21] }
def Qk (N:Nat):List Ent:=[qgI]
theorem vP (N:Nat):qS Tryz.prog (Qk N):=⟨qqo,trivial⟩
abbrev jx:=Nat×Int×Int×Int
abbrev zC:=List (Vector UInt8 16)×Int×Bool
def zZ (f:jx) (y:zC):Ex×TSt:=(.exit 2,⟨1,53,[75],[(0,.v 75 f.1),(1,xi f.2.1),(2,xi f.2.2.1),(3,.fn (.func 115) [] []),(8,xi f.2.2.2),(9,xi y.2.1),(34,xb y.2.2)],[(75,.vec false 16 (.sl 16 (.ba 16)) (y.1:List (Vector UInt8 16)))],false,[]⟩)
def Yu (N:Nat):List (Nat×qJ):=[]
abbrev zY:=List (Vector UInt8 16)×Int
def ZG:SP:=⟨1,53,[75],[(0,.v 75),(1,.x (.i .i64)),(2,.x (.i .i64)),(3,.fn 115 [] []),(8,.x (.i .i64)),(9,.x (.i .i64))],[(75,.vec false 16)],false,[]⟩
def YW (f:jx) (v:zY):TSt:=jv ZG [dv (.sl 16 (.ba 16)) v.1,dv .nat f.1,dv (.i .i64) f.2.1,dv (.i .i64) f.2.2.1,dv (.i .i64) f.2.2.2,dv (.i .i64) v.2]
def ja (N:Nat) (s0_4:Nat) (s1_4:Int) (s2_4:Int) (s8_4:Int) (v:zY):Tree (zY⊕zC):=
 .cond (decide (s1_4 < v.2)) (
 .chk (0≤v.2∧v.2 < ((s0_4:Nat):Int)) <|
 .bind (Ka v.1 s0_4 v.2.toNat) fun e1=>
 .chk (qy (v.2 - 1)) <|
 .chk (0≤(v.2 - 1)∧(v.2 - 1) < ((s0_4:Nat):Int)) <|
 .bind (Ka v.1 s0_4 ((v.2 - 1).toNat)) fun e2=>
 .bind (qef e1 e2) fun r3=>
 .cond (decide (r3 < ((0:Int)))) (
 .chk (qy (v.2 - 1)) <|
 .chk (qy (v.2 - 1)) <|
 .chk (0≤(v.2 - 1)∧(v.2 - 1) < ((s0_4:Nat):Int)) <|
 .bind (Ka v.1 s0_4 ((v.2 - 1).toNat)) fun e4=>
 .chk (0≤v.2∧v.2 < ((s0_4:Nat):Int)) <|
 .bind (Ka v.1 s0_4 v.2.toNat) fun e5=>
 .chk (0≤v.2∧v.2 < ((s0_4:Nat):Int)) <|
 .chk (qft v.1.length s0_4 v.2.toNat) <|
 .chk (0≤(v.2 - 1)∧(v.2 - 1) < ((s0_4:Nat):Int)) <|
 .chk (qft ((v.1.set v.2.toNat e4).length) s0_4 ((v.2 - 1).toNat)) <|
 .chk (qy (v.2 - 1)) <|
 .ret (.inl ((v.1.set v.2.toNat e4).set ((v.2 - 1).toNat) e5,v.2 - 1))) <|
 .ret (.inr (v.1,v.2,decide (r3 < ((0:Int)))))) <|
 .ret (.inr (v.1,v.2,false))
def ZI (N n:Nat) (f:jx) (v:zY):Option zC:=q8 (ja N f.1 f.2.1 f.2.2.1 f.2.2.2) some n v
theorem YV (N:Nat) (f:jx) (n:Nat) (v:zY) (y:zC) (h:ZI N n f v=some y):LG Tryz.prog jk 146 (ze (ze qcA 1) 4) (YW f v) (zZ f y):=
 jd qk (E:=Qk N) (L:=qQ (Yu N)) (st:=zZ f) (g:=some) (R:=zZ f) (vP N) (qw (by kernel_rfl) trivial) (rg0 (by kernel_rfl)) (fun v=>by kernel_rfl) (zn (st:=zZ f) fun y=>by rfl) (js0 rfl) n v y h
def Jn (N:Nat) (s0_4:Nat) (s1_4:Int) (s2_4:Int) (s8_4:Int) (o_4:List (Vector UInt8 16)) (s9_4:Int):Option zC:=ZI N N (s0_4,s1_4,s2_4,s8_4) (o_4,s9_4)
def ZS (N:Nat):qJ:=smL ZG [(.sl 16 (.ba 16)),.nat,(.i .i64),(.i .i64),(.i .i64),(.i .i64)] zC (fun x=>Jn N x.2.1 x.2.2.1 x.2.2.2.1 x.2.2.2.2.1 x.1 x.2.2.2.2.2.1) cs1 fun x=>zZ (x.2.1,x.2.2.1,x.2.2.2.1,x.2.2.2.2.1)
theorem WX (N:Nat):Ql Tryz.prog jk 146 (ze (ze qcA 1) 4) (ZS N):=jF fun x z h=>YV N (x.2.1,x.2.2.1,x.2.2.2.1,x.2.2.2.2.1) N (x.1,x.2.2.2.2.2.1) z h
abbrev jz:=Nat×Int×Int
abbrev zB:=List (Vector UInt8 16)×Int×Bool
def jc (f:jz) (y:zB):Ex×TSt:=(.exit 0,⟨1,53,[75],[(0,.v 75 f.1),(1,xi f.2.1),(2,xi f.2.2),(3,.fn (.func 115) [] []),(8,xi y.2.1),(14,xb y.2.2)],[(75,.vec false 16 (.sl 16 (.ba 16)) (y.1:List (Vector UInt8 16)))],false,[]⟩)
def YE (N:Nat):List (Nat×qJ):=[(4,ZS N)]
abbrev z_:=List (Vector UInt8 16)×Int
def ZE:SP:=⟨1,53,[75],[(0,.v 75),(1,.x (.i .i64)),(2,.x (.i .i64)),(3,.fn 115 [] []),(8,.x (.i .i64))],[(75,.vec false 16)],false,[]⟩
def Yz (f:jz) (v:z_):TSt:=jv ZE [dv (.sl 16 (.ba 16)) v.1,dv .nat f.1,dv (.i .i64) f.2.1,dv (.i .i64) f.2.2,dv (.i .i64) v.2]
def zw (N:Nat) (s0_1:Nat) (s1_1:Int) (s2_1:Int) (v:z_):Tree (z_⊕zB):=
 .cond (decide (v.2 < s2_1)) (
 .bind (Jn N s0_1 s1_1 s2_1 v.2 v.1 v.2) fun z1=>
 .chk (qy (v.2 + 1)) <|
 .ret (.inl (z1.1,v.2 + 1))) <|
 .ret (.inr (v.1,v.2,decide (v.2 < s2_1)))
def ZT (N n:Nat) (f:jz) (v:z_):Option zB:=q8 (zw N f.1 f.2.1 f.2.2) some n v
theorem YO (N:Nat) (f:jz) (n:Nat) (v:z_) (y:zB) (h:ZT N n f v=some y):LG Tryz.prog jk 146 (ze qcA 1) (Yz f v) (jc f y):=
 jd qk (E:=Qk N) (L:=qQ (YE N)) (st:=jc f) (g:=some) (R:=jc f) (vP N) (qw (by kernel_rfl) ⟨WX N,trivial⟩) (rg0 (by kernel_rfl)) (fun v=>by kernel_rfl) (zn (st:=jc f) fun y=>by rfl) (js0 rfl) n v y h
def jL (N:Nat) (s0_1:Nat) (s1_1:Int) (s2_1:Int) (o_1:List (Vector UInt8 16)) (s8_1:Int):Option zB:=ZT N N (s0_1,s1_1,s2_1) (o_1,s8_1)
def ZK (N:Nat):qJ:=smL ZE [(.sl 16 (.ba 16)),.nat,(.i .i64),(.i .i64),(.i .i64)] zB (fun x=>jL N x.2.1 x.2.2.1 x.2.2.2.1 x.1 x.2.2.2.2.1) cs1 fun x=>jc (x.2.1,x.2.2.1,x.2.2.2.1)
theorem WS (N:Nat):Ql Tryz.prog jk 146 (ze qcA 1) (ZK N):=jF fun x z h=>YO N (x.2.1,x.2.2.1,x.2.2.2.1) N (x.1,x.2.2.2.2.1) z h
def K2 (z:List (Vector UInt8 16)):TV×THp:=(.tup [],[(75,.vec false 16 (.sl 16 (.ba 16)) z)])
def jV (N:Nat) (a0:List (Vector UInt8 16)) (a1:Int) (a2:Int):Tree (List (Vector UInt8 16)):=
 .chk (qy (a1 + 1)) <|
 .bind (jL N a0.length a1 a2 a0 (a1 + 1)) fun z1=>
 .ret z1.1
def zH (N:Nat) (a0:List (Vector UInt8 16)) (a1:Int) (a2:Int):Option (List (Vector UInt8 16)):=(jV N a0 a1 a2).run some
def K6 (N:Nat):List (Nat×qJ):=[(1,ZK N)]
def JB (N:Nat):Ent:=smF ⟨146,[],[.vs 75,.x (.i .i64),.x (.i .i64),.fn 115 [] []],[],[(75,.vec false 16)]⟩ [(.sl 16 (.ba 16)),(.i .i64),(.i .i64)] (List (Vector UInt8 16)) (fun x=>zH N x.1 x.2.1 x.2.2.1) cs1 fun _=>K2
theorem Kg (N:Nat):zd Tryz.prog (JB N):=
 zc (H:=jk) (L:=qQ (K6 N)) (ts:=[(.sl 16 (.ba 16)),(.i .i64),(.i .i64)]) (T:=fun x=>jV N x.1 x.2.1 x.2.2.1) 0 qCQ (vP N) (qw (by kernel_rfl) ⟨WS N,trivial⟩) (rg0 (by kernel_rfl)) fun x=>by kernel_rfl
noncomputable def qlo:Code:=Tryz.f133.body.getD .skip
theorem qC3:FnF Tryz.prog 133 Tryz.f133 qlo:=⟨qk,by kernel_rfl,by kernel_rfl,by kernel_rfl⟩
def Z2:TH:={ live:=[(0,[0,1,2,3,4,10]),(1,[0,1,2,3,4,10,11]),(2,[0,1,2,3,4,10,11,12]),(3,[0,1,2,3,4,10,11,12,25]),(5,[0,1,2,3,4,10,11,12,32]),(7,[0,1,2,3,4,10,11,12,39]),(8,[0,1,2,3,4,10,11,12]),(9,[0,1,2,3,4,10,11,12]),(10,[0,1,2,3,4,10,11,12,13,14]),(11,[0,1,2,3,4,10,11,12,13,14,56]),(12,[0,1,2,3,4,10,11,12,13]),(13,[0,1,2,3,4,10,11,12,13]),(14,[0,1,2,3,4,10,11,12,13,14]),(15,[0,1,2,3,4,10,11,12,13,75]),(16,[0,1,2,3,4,10,11,12,13,80]),(17,[0,1,2,3,4,10,11,12,13,97]),(18,[0,2,3,4,10,11,15]),(19,[0,1,2,3,4,10,11]),(20,[0,1,2,3,4,12,16,17]),(21,[0,1,2,3,4,11,12,16]),(22,[0,1,2,3,4,11,12,16,18,19]),(23,[0,1,2,3,4,11,16,18,19,20]),(24,[0,1,2,3,4,11,16,18,19,20,125]),(25,[0,1,2,3,4,10,11,16]),(26,[0,2,3,4,10,11,16]),(27,[0,1,2,3,4,10,11]),(28,[0,1,2,3,4,10,11,16]),(29,[0,1,3,4,10,11,16]),(30,[0,1,2,3,4,10,11])],dec:=[69,72,83],raw:=[146] }
def X8 (N:Nat):List Ent:=[JB N]
theorem VW (N:Nat):qS Tryz.prog (X8 N):=⟨Kg N,trivial⟩
abbrev vz:=List (Vector UInt8 16)×Int×Int×Int
abbrev jf:=List (Vector UInt8 16)
def jG (f:vz) (y:jf):Ex×TSt:=(.ret,⟨1,148,[75],[],[(75,.vec false 16 (.sl 16 (.ba 16)) y)],false,[]⟩)
def qbn (N:Nat):List (Nat×qJ):=[]
abbrev jE:=Unit
def Vv:SP:=⟨1,148,[75],[(0,.vs 75),(1,.x (.i .i64)),(2,.x (.i .i64)),(3,.x (.i .i64)),(4,.fn 115 [] []),(10,.k (.bc true)),(11,.k (.bc true))],[(75,.vec false 16)],false,[]⟩
def qbo (f:vz) (v:jE):TSt:=jv Vv [dv (.sl 16 (.ba 16)) f.1,dv (.i .i64) f.2.1,dv (.i .i64) f.2.2.1,dv (.i .i64) f.2.2.2]
def vA (N:Nat) (o_2:List (Vector UInt8 16)) (s1_2:Int) (s2_2:Int) (s3_2:Int) (v:jE):Tree (jE⊕jf):=
 .chk (qy (s2_2 - s1_2)) <|
 .cond (decide ((s2_2 - s1_2)≤12)) (
 .bind (j8 [(o_2.length,o_2.length)] (zH N o_2 s1_2 s2_2)) fun r1=>
 .ret (.inr r1)) <|
 .cond (decide (s3_2=((0:Int)))) (
 .chk (o_2.length=o_2.length) <|
 .no) <|
 .chk (o_2.length=o_2.length) <|
 .no
def Vu (N n:Nat) (f:vz) (v:jE):Option jf:=q8 (vA N f.1 f.2.1 f.2.2.1 f.2.2.2) some n v
theorem qbp (N:Nat) (f:vz) (n:Nat) (v:jE) (y:jf) (h:Vu N n f v=some y):LG Tryz.prog Z2 133 (ze qlo 2) (qbo f v) (jG f y):=
 jd qk (E:=X8 N) (L:=qQ (qbn N)) (st:=jG f) (g:=some) (R:=jG f) (VW N) (qw (by kernel_rfl) trivial) (rg0 (by kernel_rfl)) (fun v=>by kernel_rfl) (zn (st:=jG f) fun y=>by rfl) (js0 rfl) n v y h
def ZB (N:Nat) (o_2:List (Vector UInt8 16)) (s1_2:Int) (s2_2:Int) (s3_2:Int):Option jf:=Vu N N (o_2,s1_2,s2_2,s3_2) ()
def Vw (N:Nat):qJ:=smL Vv [(.sl 16 (.ba 16)),(.i .i64),(.i .i64),(.i .i64)] jf (fun x=>ZB N x.1 x.2.1 x.2.2.1 x.2.2.2.1) cs1 fun x=>jG (x.1,x.2.1,x.2.2.1,x.2.2.2.1)
theorem qbe (N:Nat):Ql Tryz.prog Z2 133 (ze qlo 2) (Vw N):=jF fun x z h=>qbp N (x.1,x.2.1,x.2.2.1,x.2.2.2.1) N () z h
def qcZ (z:List (Vector UInt8 16)):TV×THp:=(.tup [],[(75,.vec false 16 (.sl 16 (.ba 16)) z)])
def ZZ (N:Nat) (a0:List (Vector UInt8 16)) (a1:Int) (a2:Int) (a3:Int):Tree (List (Vector UInt8 16)):=
 .bind (j8 [(a0.length,a0.length)] (ZB N a0 a1 a2 a3)) fun z1=>
 .ret z1
def QK (N:Nat) (a0:List (Vector UInt8 16)) (a1:Int) (a2:Int) (a3:Int):Option (List (Vector UInt8 16)):=(ZZ N a0 a1 a2 a3).run some
def qcX (N:Nat):List (Nat×qJ):=[(2,Vw N)]
def XT (N:Nat):Ent:=smF ⟨133,[],[.vs 75,.x (.i .i64),.x (.i .i64),.x (.i .i64),.fn 115 [] []],[],[(75,.vec false 16)]⟩ [(.sl 16 (.ba 16)),(.i .i64),(.i .i64),(.i .i64)] (List (Vector UInt8 16)) (fun x=>QK N x.1 x.2.1 x.2.2.1 x.2.2.2.1) cs1 fun _=>qcZ
theorem qcc (N:Nat):zd Tryz.prog (XT N):=
 zc (H:=Z2) (L:=qQ (qcX N)) (ts:=[(.sl 16 (.ba 16)),(.i .i64),(.i .i64),(.i .i64)]) (T:=fun x=>ZZ N x.1 x.2.1 x.2.2.1 x.2.2.2.1) 0 qC3 (VW N) (qw (by kernel_rfl) ⟨qbe N,trivial⟩) (rg0 (by kernel_rfl)) fun x=>by kernel_rfl
noncomputable def qDu:Code:=Tryz.f114.body.getD .skip
theorem qC1:FnF Tryz.prog 114 Tryz.f114 qDu:=⟨qk,by kernel_rfl,by kernel_rfl,by kernel_rfl⟩
def qiT:TH:={ live:=[(0,[0,1,4])],raw:=[133] }
def qhP (N:Nat):List Ent:=[qfq,XT N]
theorem qgx (N:Nat):qS Tryz.prog (qhP N):=⟨qox,qcc N,trivial⟩
def qiX (z:List (Vector UInt8 16)):TV×THp:=(.tup [],[(75,.vec false 16 (.sl 16 (.ba 16)) z)])
def XK (N:Nat) (a0:List (Vector UInt8 16)):Tree (List (Vector UInt8 16)):=
 let w1:Int:=IntKind.u64.wrap ((a0.length:Nat):Int)
 .bind (KA w1) fun r2=>
 .bind (j8 [(a0.length,a0.length)] (QK N a0 0 ((a0.length:Nat):Int) r2)) fun r3=>
 .ret r3
def J1 (N:Nat) (a0:List (Vector UInt8 16)):Option (List (Vector UInt8 16)):=(XK N a0).run some
def qhI (N:Nat):List (Nat×qJ):=[]
def qaP (N:Nat):Ent:=smF ⟨114,[],[.vs 75,.fn 115 [] []],[],[(75,.vec false 16)]⟩ [(.sl 16 (.ba 16))] (List (Vector UInt8 16)) (fun x=>J1 N x.1) cs1 fun _=>qiX
theorem qg5 (N:Nat):zd Tryz.prog (qaP N):=
 zc (H:=qiT) (L:=qQ (qhI N)) (ts:=[(.sl 16 (.ba 16))]) (T:=fun x=>XK N x.1) 0 qC1 (qgx N) (qw (by kernel_rfl) trivial) (rg0 (by kernel_rfl)) fun x=>by kernel_rfl
noncomputable def qeu:Code:=Tryz.f83.body.getD .skip
theorem qFj:FnF Tryz.prog 83 Tryz.f83 qeu:=⟨qk,by kernel_rfl,by kernel_rfl,by kernel_rfl⟩
def Kh:TH:={ live:=[(0,[2,3,4]),(1,[2,3,4,22]),(2,[4,5]),(3,[2,3,4,6]),(4,[2,3,4,6,7]),(5,[4,6,7,30,31,32]),(6,[4,6,7,30,31,32,33]),(7,[4,6,7,9,30,31,32]),(8,[4,6,7,9,10,11,30,31,32]),(9,[4,6,7,9,10,30,31,32,44]),(10,[4,6,7,9,30,31,32]),(11,[4,6,7,30,31,32]),(12,[4,6,7,30,31,32]),(13,[4,6,7,30,31,32]),(14,[4,6,7,67]),(15,[4,5]),(16,[4,6,7]),(17,[4,6,7,12]),(18,[4,6,12,71,72,73]),(19,[4,6,12,71,72,73,74]),(20,[4,6,12,14,71,72,73]),(21,[4,6,12,71,72,73]),(22,[4,6,12,71,72,73]),(23,[4,5])],dec:=[18],raw:=[114],nil:=[(0,[⟨.ob 40 [0],43,(.sl 19 qj)⟩]),(2,[⟨.ob 40 [0],43,(.sl 19 qj)⟩]),(4,[⟨.sl 7,75,(.sl 16 (.ba 16))⟩]),(8,[⟨.ob 100 [2],105,(.sl 4 qE)⟩]),(15,[⟨.ob 40 [0],43,(.sl 19 qj)⟩]),(17,[⟨.ob 120 [0],123,(.sl 19 qj)⟩])] }
def qf2 (N:Nat):List Ent:=[qdA N,qbr N,qiJ,qo6 N,qaP N]
theorem qcQ (N:Nat):qS Tryz.prog (qf2 N):=⟨qgq N,qio N,qm7,qxA N,qg5 N,trivial⟩
abbrev Ys:=List qa×List qa×Int
abbrev Jq:=List (Vector UInt8 16)×Nat×List (Vector UInt8 16×qa×Nat)×Int×Bool
def VK (f:Ys) (y:Jq):Ex×TSt:=(.exit 0,⟨0,87,[],[(4,.p 40 [] 0),(6,.m 240),(7,.v 75 y.1.length),(30,.tv (.sl 19 qj) f.2.1),(31,xi f.2.2),(32,xi y.2.2.2.1),(33,xb y.2.2.2.2)],[(40,.cell false (.ag [.v 43 f.1.length])),(43,.vec false 19 (.sl 19 qj) f.1),(75,.vec false 16 (.sl 16 (.ba 16)) (y.1:List (Vector UInt8 16))),(240,.map y.2.1 (.ba 16) qj (y.2.2.1:List (Vector UInt8 16×qa×Nat)))],false,[]⟩)
def qrc (N:Nat):List (Nat×qJ):=[]
abbrev VN:=List (Vector UInt8 16)×Nat×List (Vector UInt8 16×qa×Nat)×Int
def qhl:SP:=⟨0,87,[],[(4,.k (.p 40 [] 0)),(6,.k (.m 240)),(7,.vs 75),(30,.x (.sl 19 qj)),(31,.x (.i .i64)),(32,.x (.i .i64))],[(40,.cell false (.ag [.vs 43])),(43,.vec false 19),(75,.vec false 16),(240,.map (.ba 16) qj)],false,[]⟩
def qrP (f:Ys) (v:VN):TSt:=jv qhl [dv (.sl 19 qj) f.1,dv (.sl 16 (.ba 16)) v.1,dv .nat v.2.1,dv (Xj (.ba 16) qj) v.2.2.1,dv (.sl 19 qj) f.2.1,dv (.i .i64) f.2.2,dv (.i .i64) v.2.2.2]
def VQ (N:Nat) (o_6:List qa) (s30_6:List qa) (s31_6:Int) (v:VN):Tree (VN⊕Jq):=
 .cond (decide (v.2.2.2 < s31_6)) (
 .bind (zr s30_6 v.2.2.2) fun e1=>
 .opt (fnd (β:=qa) (.ba 16) (qa.ID e1) v.2.2.1) (
 .chk (Vh v.1.length v.1.length ((v.1++[qa.ID e1]).length) 16) <|
 .bind (KW e1) fun r3=>
 .chk (qy (v.2.2.2 + 1)) <|
 .ret (.inl (v.1++[qa.ID e1],(QE (.ba 16) (qa.ID e1) (qa.mk (qa.ID e1) (qa.zi e1) ((([]:List qd))++(qa.F e1))) v.2.1 v.2.2.1).1,(QE (.ba 16) (qa.ID e1) (qa.mk (qa.ID e1) (qa.zi e1) ((([]:List qd))++(qa.F e1))) v.2.1 v.2.2.1).2,v.2.2.2 + 1))) fun e2=>
 .bind (qiH N e2.1 e1) fun r3=>
 .chk (qy (v.2.2.2 + 1)) <|
 .ret (.inl (v.1,(QE (.ba 16) (qa.ID e1) r3.1 v.2.1 v.2.2.1).1,(QE (.ba 16) (qa.ID e1) r3.1 v.2.1 v.2.2.1).2,v.2.2.2 + 1))) <|
 .ret (.inr (v.1,v.2.1,v.2.2.1,v.2.2.2,decide (v.2.2.2 < s31_6)))
def qg6 (N n:Nat) (f:Ys) (v:VN):Option Jq:=q8 (VQ N f.1 f.2.1 f.2.2) some n v
theorem qq0 (N:Nat) (f:Ys) (n:Nat) (v:VN) (y:Jq) (h:qg6 N n f v=some y):LG Tryz.prog Kh 83 (ze qeu 6) (qrP f v) (VK f y):=
 jd qk (E:=qf2 N) (L:=qQ (qrc N)) (st:=VK f) (g:=some) (R:=VK f) (qcQ N) (qw (by kernel_rfl) trivial) (rg0 (by kernel_rfl)) (fun v=>by kernel_rfl) (zn (st:=VK f) fun y=>by rfl) (js0 rfl) n v y h
def qdX (N:Nat) (o_6:List qa) (s30_6:List qa) (s31_6:Int) (o_6_2:List (Vector UInt8 16)) (o_6_3:Nat) (o_6_4:List (Vector UInt8 16×qa×Nat)) (s32_6:Int):Option Jq:=qg6 N N (o_6,s30_6,s31_6) (o_6_2,o_6_3,o_6_4,s32_6)
def qhe (N:Nat):qJ:=smL qhl [(.sl 19 qj),(.sl 16 (.ba 16)),.nat,(Xj (.ba 16) qj),(.sl 19 qj),(.i .i64),(.i .i64)] Jq (fun x=>qdX N x.1 x.2.2.2.2.1 x.2.2.2.2.2.1 x.2.1 x.2.2.1 x.2.2.2.1 x.2.2.2.2.2.2.1) cs1 fun x=>VK (x.1,x.2.2.2.2.1,x.2.2.2.2.2.1)
theorem qp0 (N:Nat):Ql Tryz.prog Kh 83 (ze qeu 6) (qhe N):=jF fun x z h=>qq0 N (x.1,x.2.2.2.2.1,x.2.2.2.2.2.1) N (x.2.1,x.2.2.1,x.2.2.2.1,x.2.2.2.2.2.2.1) z h
abbrev Wy:=List qa×List (Vector UInt8 16)×Nat×List (Vector UInt8 16×qa×Nat)×Nat×Int
abbrev ZQ:=List qa×Int×Bool
def JY (f:Wy) (y:ZQ):Ex×TSt:=(.exit 2,⟨0,87,[],[(4,.p 40 [] 0),(6,.m 240),(12,.p 120 [] 0),(71,.v 75 f.2.2.2.2.1),(72,xi f.2.2.2.2.2),(73,xi y.2.1),(74,xb y.2.2)],[(40,.cell false (.ag [.v 43 f.1.length])),(43,.vec false 19 (.sl 19 qj) f.1),(75,.vec false 16 (.sl 16 (.ba 16)) f.2.1),(120,.cell false (.ag [.v 123 y.1.length])),(123,.vec false 19 (.sl 19 qj) (y.1:List qa)),(240,.map f.2.2.1 (.ba 16) qj f.2.2.2.1)],false,[]⟩)
def qpM (N:Nat):List (Nat×qJ):=[]
abbrev J6:=List qa×Int
def qfg:SP:=⟨0,87,[],[(4,.k (.p 40 [] 0)),(6,.k (.m 240)),(12,.k (.p 120 [] 0)),(71,.v 75),(72,.x (.i .i64)),(73,.x (.i .i64))],[(40,.cell false (.ag [.vs 43])),(43,.vec false 19),(75,.vec false 16),(120,.cell false (.ag [.vs 123])),(123,.vec false 19),(240,.map (.ba 16) qj)],false,[]⟩
def qqF (f:Wy) (v:J6):TSt:=jv qfg [dv (.sl 19 qj) f.1,dv (.sl 16 (.ba 16)) f.2.1,dv (.sl 19 qj) v.1,dv .nat f.2.2.1,dv (Xj (.ba 16) qj) f.2.2.2.1,dv .nat f.2.2.2.2.1,dv (.i .i64) f.2.2.2.2.2,dv (.i .i64) v.2]
def Wz (N:Nat) (o_19:List qa) (o_19_2:List (Vector UInt8 16)) (o_19_4:Nat) (o_19_5:List (Vector UInt8 16×qa×Nat)) (s71_19:Nat) (s72_19:Int) (v:J6):Tree (J6⊕ZQ):=
 .cond (decide (v.2 < s72_19)) (
 .chk (0≤v.2∧v.2 < ((s71_19:Nat):Int)) <|
 .bind (Ka o_19_2 s71_19 v.2.toNat) fun e1=>
 .opt (fnd (β:=qa) (.ba 16) e1 o_19_5) (
 .chk (Vh v.1.length v.1.length ((v.1++[qa.mk ((Vector.replicate 16 0)) (qe.mk 0 0) []]).length) 56) <|
 .chk (qy (v.2 + 1)) <|
 .ret (.inl (v.1++[qa.mk ((Vector.replicate 16 0)) (qe.mk 0 0) []],v.2 + 1))) fun e2=>
 .chk (Vh v.1.length v.1.length ((v.1++[e2.1]).length) 56) <|
 .chk (qy (v.2 + 1)) <|
 .ret (.inl (v.1++[e2.1],v.2 + 1))) <|
 .ret (.inr (v.1,v.2,decide (v.2 < s72_19)))
def qe_ (N n:Nat) (f:Wy) (v:J6):Option ZQ:=q8 (Wz N f.1 f.2.1 f.2.2.1 f.2.2.2.1 f.2.2.2.2.1 f.2.2.2.2.2) some n v
theorem qqw (N:Nat) (f:Wy) (n:Nat) (v:J6) (y:ZQ) (h:qe_ N n f v=some y):LG Tryz.prog Kh 83 (ze qeu 19) (qqF f v) (JY f y):=
 jd qk (E:=qf2 N) (L:=qQ (qpM N)) (st:=JY f) (g:=some) (R:=JY f) (qcQ N) (qw (by kernel_rfl) trivial) (rg0 (by kernel_rfl)) (fun v=>by kernel_rfl) (zn (st:=JY f) fun y=>by rfl) (js0 rfl) n v y h
def qcK (N:Nat) (o_19:List qa) (o_19_2:List (Vector UInt8 16)) (o_19_4:Nat) (o_19_5:List (Vector UInt8 16×qa×Nat)) (s71_19:Nat) (s72_19:Int) (o_19_3:List qa) (s73_19:Int):Option ZQ:=qe_ N N (o_19,o_19_2,o_19_4,o_19_5,s71_19,s72_19) (o_19_3,s73_19)
def qeZ (N:Nat):qJ:=smL qfg [(.sl 19 qj),(.sl 16 (.ba 16)),(.sl 19 qj),.nat,(Xj (.ba 16) qj),.nat,(.i .i64),(.i .i64)] ZQ (fun x=>qcK N x.1 x.2.1 x.2.2.2.1 x.2.2.2.2.1 x.2.2.2.2.2.1 x.2.2.2.2.2.2.1 x.2.2.1 x.2.2.2.2.2.2.2.1) cs1 fun x=>JY (x.1,x.2.1,x.2.2.2.1,x.2.2.2.2.1,x.2.2.2.2.2.1,x.2.2.2.2.2.2.1)
theorem qn3 (N:Nat):Ql Tryz.prog Kh 83 (ze qeu 19) (qeZ N):=jF fun x z h=>qqw N (x.1,x.2.1,x.2.2.2.1,x.2.2.2.2.1,x.2.2.2.2.2.1,x.2.2.2.2.2.2.1) N (x.2.2.1,x.2.2.2.2.2.2.2.1) z h
def qxw (z:qf×Int):TV×THp:=(.tup [.tv qU (z.1:qf),xi z.2],[])
def qbT (N:Nat) (a0:qf) (a1:qf):Tree (qf×Int):=
 .bind (WI N a0) fun r1=>
 .cond (!r1) (
 .chk (0=0) <|
 .ret (qf.mk [],1)) <|
 .bind (WI N a1) fun r2=>
 .cond (!r2) (
 .chk (0=0) <|
 .ret (qf.mk [],1)) <|
 .bind (VA N [qf.R a0,qf.R a1]) fun r3=>
 .bind (j8 [(([]:List qa).length,0),(([]:List (Vector UInt8 16)).length,0)] (qdX N [] r3 ((r3.length:Nat):Int) [] 0 [] 0)) fun z4=>
 .cond (decide (((10:Int)) < ((z4.1.length:Nat):Int))) (
 .chk (0=0) <|
 .ret (qf.mk [],4)) <|
 .bind (j8 [(z4.1.length,z4.1.length)] (J1 N z4.1)) fun r5=>
 .bind (j8 [(([]:List qa).length,0),(([]:List qa).length,0)] (qcK N [] r5 z4.2.1 z4.2.2.1 z4.1.length ((z4.1.length:Nat):Int) [] 0)) fun z6=>
 .chk (z6.1.length=z6.1.length) <|
 .ret (qf.mk z6.1,0)
def Xf (N:Nat) (a0:qf) (a1:qf):Option (qf×Int):=(qbT N a0 a1).run some
def qxd (N:Nat):List (Nat×qJ):=[(6,qhe N),(19,qeZ N)]
def qnn (N:Nat):Ent:=smF ⟨83,[],[.x qU,.x qU],[],[]⟩ [qU,qU] (qf×Int) (fun x=>Xf N x.1 x.2.1) cs1 fun _=>qxw
theorem qwQ (N:Nat):zd Tryz.prog (qnn N):=
 zc (H:=Kh) (L:=qQ (qxd N)) (ts:=[qU,qU]) (T:=fun x=>qbT N x.1 x.2.1) 0 qFj (qcQ N) (qw (by kernel_rfl) ⟨qp0 N,qn3 N,trivial⟩) (rg0 (by kernel_rfl)) fun x=>by kernel_rfl
noncomputable def qoa:Code:=Tryz.f68.body.getD .skip
theorem qFg:FnF Tryz.prog 68 Tryz.f68 qoa:=⟨qk,by kernel_rfl,by kernel_rfl,by kernel_rfl⟩
def qgs:TH:={ live:=[(0,[2,3,4]),(1,[2,3,4,6]),(2,[2,3,4,6,39]),(3,[4,5]),(4,[2,4,47,48,49]),(5,[2,4,47,48,49,50]),(6,[2,4,8,47,48,49]),(7,[2,4,8,47,48,49,54]),(8,[2,4,9,10,47,48,49]),(9,[2,4,9,10,47,48,49,64]),(10,[4,5]),(11,[2,4,47,48,49]),(12,[2,4,47,48,49]),(13,[4,5])],dec:=[19,23,29,34],nil:=[(0,[⟨.ob 40 [0],43,(.sl 19 qj)⟩]),(3,[⟨.ob 40 [0],43,(.sl 19 qj)⟩]),(10,[⟨.ob 40 [0],43,(.sl 19 qj)⟩])] }
def qnj (N:Nat):List Ent:=[qdA N,qjT,Kz,qe1 N,qnn N]
theorem qji (N:Nat):qS Tryz.prog (qnj N):=⟨qgq N,qtQ,qaF,qiV N,qwQ N,trivial⟩
abbrev YK:=List qa×List qa×Int
abbrev Jt:=(qf×Int×Bool)⊕Int
def VJ (f:YK):Jt→Ex×TSt
 | .inl y=>(.exit 0,⟨0,70,[],[(2,.p 20 [] 0),(4,.p 40 [] 0),(47,.tv (.sl 19 qj) f.2.1),(48,xi f.2.2),(49,xi y.2.1),(50,xb y.2.2)],[(20,.cell false (.tv qU (y.1:qf))),(40,.cell false (.ag [.v 43 f.1.length])),(43,.vec false 19 (.sl 19 qj) f.1)],false,[]⟩)
 | .inr y=>(.ret,⟨0,70,[],[(4,.p 40 [] 0),(5,xi y)],[(40,.cell false (.ag [.v 43 0])),(43,.vec false 19 (.sl 19 qj) ([]:List qa))],false,[]⟩)
def qqQ (N:Nat):List (Nat×qJ):=[]
abbrev V9:=qf×Int
def qhh:SP:=⟨0,70,[],[(2,.k (.p 20 [] 0)),(4,.k (.p 40 [] 0)),(47,.x (.sl 19 qj)),(48,.x (.i .i64)),(49,.x (.i .i64))],[(20,.cell false (.x qU)),(40,.cell false (.ag [.vs 43])),(43,.vec false 19)],false,[]⟩
def qrW (f:YK) (v:V9):TSt:=jv qhh [dv (.sl 19 qj) f.1,dv qU v.1,dv (.sl 19 qj) f.2.1,dv (.i .i64) f.2.2,dv (.i .i64) v.2]
def V3 (N:Nat) (o_5:List qa) (s47_5:List qa) (s48_5:Int) (v:V9):Tree (V9⊕Jt):=
 .cond (decide (v.2 < s48_5)) (
 .bind (zr s47_5 v.2) fun e1=>
 .bind (XQ e1) fun r2=>
 .cond r2 (
 .chk (qy (v.2 + 1)) <|
 .ret (.inl (v.1,v.2 + 1))) <|
 .bind (Xf N v.1 (qf.mk [e1])) fun r3=>
 .cond (!decide (r3.2=0)) (
 .ret (.inr (.inr r3.2))) <|
 .chk (qy (v.2 + 1)) <|
 .ret (.inl (r3.1,v.2 + 1))) <|
 .ret (.inr (.inl (v.1,v.2,decide (v.2 < s48_5))))
def qhr (N n:Nat) (f:YK) (v:V9):Option Jt:=q8 (V3 N f.1 f.2.1 f.2.2) some n v
theorem qrh (N:Nat) (f:YK) (n:Nat) (v:V9) (y:Jt) (h:qhr N n f v=some y):LG Tryz.prog qgs 68 (ze qoa 5) (qrW f v) (VJ f y):=
 jd qk (E:=qnj N) (L:=qQ (qqQ N)) (st:=VJ f) (g:=some) (R:=VJ f) (qji N) (qw (by kernel_rfl) trivial) (rg0 (by kernel_rfl)) (fun v=>by kernel_rfl) (zn (st:=VJ f) fun y=>by rcases y with _ | _<;>rfl) (js0 rfl) n v y h
def VM (N:Nat) (o_5:List qa) (s47_5:List qa) (s48_5:Int) (o_5_2:qf) (s49_5:Int):Option Jt:=qhr N N (o_5,s47_5,s48_5) (o_5_2,s49_5)
def qgJ (N:Nat):qJ:=smL qhh [(.sl 19 qj),qU,(.sl 19 qj),(.i .i64),(.i .i64)] Jt (fun x=>VM N x.1 x.2.2.1 x.2.2.2.1 x.2.1 x.2.2.2.2.1) (csS cs1) fun x=>VJ (x.1,x.2.2.1,x.2.2.2.1)
theorem qpy (N:Nat):Ql Tryz.prog qgs 68 (ze qoa 5) (qgJ N):=jF fun x z h=>qrh N (x.1,x.2.2.1,x.2.2.2.1) N (x.2.1,x.2.2.2.2.1) z h
def qw8 (z:qf×Int):TV×THp:=(.tup [.tv qU (z.1:qf),xi z.2],[])
def qfP (N:Nat) (a0:qf) (a1:qa):Tree (qf×Int):=
 .bind (WI N a0) fun r1=>
 .cond (!r1) (
 .chk (0=0) <|
 .ret (qf.mk [],1)) <|
 .bind (XQ a1) fun r2=>
 .cond r2 (
 .chk (0=0) <|
 .ret (qf.mk [],1)) <|
 .bind (WN (qa.zi a1)) fun r3=>
 .cond (!r3) (
 .chk (0=0) <|
 .ret (qf.mk [],1)) <|
 .cond (decide (((0:Int)) < (((qa.F a1).length:Nat):Int))) (
 .bind (qbI N (qa.mk (qa.ID a1) (qe.mk 0 0) (qa.F a1))) fun r4=>
 .cond (!r4) (
 .chk (0=0) <|
 .ret (qf.mk [],1)) <|
 .bind (j8 [(([]:List qa).length,0)] (VM N [] [qa.mk (qa.ID a1) (qa.zi a1) [],qa.mk (qa.ID a1) (qe.mk 0 0) (qa.F a1)] (((([qa.mk (qa.ID a1) (qa.zi a1) [],qa.mk (qa.ID a1) (qe.mk 0 0) (qa.F a1)]:List qa)).length:Nat):Int) a0 0)) fun z5=>
 .sum z5 (fun z6=>
 .ret (z6.1,0)) fun z6=>
 .chk (0=0) <|
 .ret (qf.mk [],z6)) <|
 .bind (j8 [(([]:List qa).length,0)] (VM N [] [qa.mk (qa.ID a1) (qa.zi a1) [],qa.mk (qa.ID a1) (qe.mk 0 0) (qa.F a1)] (((([qa.mk (qa.ID a1) (qa.zi a1) [],qa.mk (qa.ID a1) (qe.mk 0 0) (qa.F a1)]:List qa)).length:Nat):Int) a0 0)) fun z4=>
 .sum z4 (fun z5=>
 .ret (z5.1,0)) fun z5=>
 .chk (0=0) <|
 .ret (qf.mk [],z5)
def Xb (N:Nat) (a0:qf) (a1:qa):Option (qf×Int):=(qfP N a0 a1).run some
def qxu (N:Nat):List (Nat×qJ):=[(5,qgJ N)]
def qnh (N:Nat):Ent:=smF ⟨68,[],[.x qU,.x qj],[],[]⟩ [qU,qj] (qf×Int) (fun x=>Xb N x.1 x.2.1) cs1 fun _=>qw8
theorem qvT (N:Nat):zd Tryz.prog (qnh N):=
 zc (H:=qgs) (L:=qQ (qxu N)) (ts:=[qU,qj]) (T:=fun x=>qfP N x.1 x.2.1) 0 qFg (qji N) (qw (by kernel_rfl) ⟨qpy N,trivial⟩) (rg0 (by kernel_rfl)) fun x=>by kernel_rfl
noncomputable def qEN:Code:=Tryz.f65.body.getD .skip
theorem qE7:FnF Tryz.prog 65 Tryz.f65 qEN:=⟨qk,by kernel_rfl,by kernel_rfl,by kernel_rfl⟩
def qo_:TH:={ live:=[(0,[1]),(1,[2,3])] }
def qqq (N:Nat):List Ent:=[]
theorem qmS (N:Nat):qS Tryz.prog (qqq N):=trivial
def qqj (a0:qV) (z:Unit):TV×THp:=(.tup [.tv .s (qb.V (qV.o a0)),.ic .i64 0],[])
def qeW (a0:qV):Tree (Unit):=
 .ret ()
def qc4 (a0:qV):Option (Unit):=(qeW a0).run some
def qpB:List (Nat×qJ):=[]
def qe8:Ent:=smF ⟨65,[],[.x jr],[],[]⟩ [jr] (Unit) (fun x=>qc4 x.1) cs1 fun x=>qqj x.1
theorem qoC:zd Tryz.prog (qe8):=
 zc (H:=qo_) (L:=qQ (qpB)) (ts:=[jr]) (T:=fun x=>qeW x.1) 0 qE7 (qmS 0) (qw (by kernel_rfl) trivial) (rg0 (by kernel_rfl)) fun x=>by kernel_rfl
noncomputable def qGj:Code:=Tryz.f74.body.getD .skip
theorem qGs:FnF Tryz.prog 74 Tryz.f74 qGj:=⟨qk,by kernel_rfl,by kernel_rfl,by kernel_rfl⟩
def qs3:TH:={ live:=[(0,[1,2]),(1,[3])] }
def qs5 (N:Nat):List Ent:=[]
theorem qqg (N:Nat):qS Tryz.prog (qs5 N):=trivial
def qtK (a0:Vector UInt8 16) (a1:qa) (z:Unit):TV×THp:=(xb (eqE (.ba 16) (qa.ID a1) a0),[(30,.cell false (.tv (.ba 16) a0))])
def qcV (a0:Vector UInt8 16) (a1:qa):Tree (Unit):=
 .ret ()
def qfv (a0:Vector UInt8 16) (a1:qa):Option (Unit):=(qcV a0 a1).run some
def qtu:List (Nat×qJ):=[]
def qi1:Ent:=smF ⟨74,[],[.x qj],[.k (.p 30 [] 0)],[(30,.cell false (.x (.ba 16)))]⟩ [(.ba 16),qj] (Unit) (fun x=>qfv x.1 x.2.1) cs1 fun x=>qtK x.1 x.2.1
theorem qrl:zd Tryz.prog (qi1):=
 zc (H:=qs3) (L:=qQ (qtu)) (ts:=[(.ba 16),qj]) (T:=fun x=>qcV x.1 x.2.1) 0 qGs (qqg 0) (qw (by kernel_rfl) trivial) (rg0 (by kernel_rfl)) fun x=>by kernel_rfl
noncomputable def qoR:Code:=Tryz.f73.body.getD .skip
theorem qEe:FnF Tryz.prog 73 Tryz.f73 qoR:=⟨qk,by kernel_rfl,by kernel_rfl,by kernel_rfl⟩
def Vg:TH:={ live:=[(0,[0,1]),(1,[0,1,7,8]),(2,[0,1,7,8,9]),(3,[0,1,5,7,8]),(4,[0,1,5,7,8,16]),(5,[4]),(6,[0,1,7,8]),(7,[4])] }
def Kc (N:Nat):List Ent:=[qi1]
theorem Ye (N:Nat):qS Tryz.prog (Kc N):=⟨qrl,trivial⟩
abbrev QD:=Vector UInt8 16×List qa×Int
abbrev jD:=Int⊕(Int×Bool)
def vp (f:QD):jD→Ex×TSt
 | .inl y=>(.ret,⟨1,19,[30],[(4,xi y)],[(30,.cell false (.tv (.ba 16) f.1))],false,[]⟩)
 | .inr y=>(.exit 0,⟨1,19,[30],[(0,.tv (.sl 19 qj) f.2.1),(1,.fn (.func 74) [] [.p 30 [] 0]),(7,xi f.2.2),(8,xi y.1),(9,xb y.2)],[(30,.cell false (.tv (.ba 16) f.1))],false,[]⟩)
def qdi (N:Nat):List (Nat×qJ):=[]
abbrev vo:=Int
def Wu:SP:=⟨1,19,[30],[(0,.x (.sl 19 qj)),(1,.fn 74 [] [.k (.p 30 [] 0)]),(7,.x (.i .i64)),(8,.x (.i .i64))],[(30,.cell false (.x (.ba 16)))],false,[]⟩
def qdF (f:QD) (v:vo):TSt:=jv Wu [dv (.ba 16) f.1,dv (.sl 19 qj) f.2.1,dv (.i .i64) f.2.2,dv (.i .i64) v]
def vn (N:Nat) (o_2:Vector UInt8 16) (s0_2:List qa) (s7_2:Int) (v:vo):Tree (vo⊕jD):=
 .cond (decide (v < s7_2)) (
 .bind (zr s0_2 v) fun e1=>
 .bind (qfv o_2 e1) fun r2=>
 .cond (eqE (.ba 16) (qa.ID e1) o_2) (
 .ret (.inr (.inl v))) <|
 .chk (qy (v + 1)) <|
 .ret (.inl (v + 1))) <|
 .ret (.inr (.inr ((v,decide (v < s7_2)))))
def Ww (N n:Nat) (f:QD) (v:vo):Option jD:=q8 (vn N f.1 f.2.1 f.2.2) some n v
theorem qdz (N:Nat) (f:QD) (n:Nat) (v:vo) (y:jD) (h:Ww N n f v=some y):LG Tryz.prog Vg 73 (ze qoR 2) (qdF f v) (vp f y):=
 jd qk (E:=Kc N) (L:=qQ (qdi N)) (st:=vp f) (g:=some) (R:=vp f) (Ye N) (qw (by kernel_rfl) trivial) (rg0 (by kernel_rfl)) (fun v=>by kernel_rfl) (zn (st:=vp f) fun y=>by rcases y with _ | _<;>rfl) (js0 rfl) n v y h
def JP (N:Nat) (o_2:Vector UInt8 16) (s0_2:List qa) (s7_2:Int) (s8_2:Int):Option jD:=Ww N N (o_2,s0_2,s7_2) s8_2
def Ws (N:Nat):qJ:=smL Wu [(.ba 16),(.sl 19 qj),(.i .i64),(.i .i64)] jD (fun x=>JP N x.1 x.2.1 x.2.2.1 x.2.2.2.1) (csS cs1) fun x=>vp (x.1,x.2.1,x.2.2.1)
theorem qc1 (N:Nat):Ql Tryz.prog Vg 73 (ze qoR 2) (Ws N):=jF fun x z h=>qdz N (x.1,x.2.1,x.2.2.1) N x.2.2.2.1 z h
def qgp (a0:Vector UInt8 16) (z:Int):TV×THp:=(xi z,[(30,.cell false (.tv (.ba 16) a0))])
def Vt (N:Nat) (a0:Vector UInt8 16) (a1:List qa):Tree (Int):=
 .bind (JP N a0 a1 ((a1.length:Nat):Int) 0) fun z1=>
 .sum z1 (fun z2=>
 .ret z2) fun z2=>
 .ret (-1)
def Je (N:Nat) (a0:Vector UInt8 16) (a1:List qa):Option (Int):=(Vt N a0 a1).run some
def qfR (N:Nat):List (Nat×qJ):=[(2,Ws N)]
def Ki (N:Nat):Ent:=smF ⟨73,[],[.x (.sl 19 qj),.fn 74 [] [.k (.p 30 [] 0)]],[],[(30,.cell false (.x (.ba 16)))]⟩ [(.ba 16),(.sl 19 qj)] (Int) (fun x=>Je N x.1 x.2.1) cs1 fun x=>qgp x.1
theorem qeO (N:Nat):zd Tryz.prog (Ki N):=
 zc (H:=Vg) (L:=qQ (qfR N)) (ts:=[(.ba 16),(.sl 19 qj)]) (T:=fun x=>Vt N x.1 x.2.1) 0 qEe (Ye N) (qw (by kernel_rfl) ⟨qc1 N,trivial⟩) (rg0 (by kernel_rfl)) fun x=>by kernel_rfl
noncomputable def qFd:Code:=Tryz.f27.body.getD .skip
theorem qGn:FnF Tryz.prog 27 Tryz.f27 qFd:=⟨qk,by kernel_rfl,by kernel_rfl,by kernel_rfl⟩
def qxc:TH:={ live:=[(0,[2,3,4]),(1,[2,4,6]),(2,[2,4,6,12]),(3,[4,5]),(4,[4,5])],nil:=[(0,[⟨.ob 40 [2],45,(.sl 4 qE)⟩]),(3,[⟨.ob 40 [2],45,(.sl 4 qE)⟩])] }
def qxe (N:Nat):List Ent:=[Ki N,qiJ]
theorem qsY (N:Nat):qS Tryz.prog (qxe N):=⟨qeO N,qm7,trivial⟩
def qxD (z:qa×Bool):TV×THp:=(.tup [.tv qj (z.1:qa),xb z.2],[])
def qfw (N:Nat) (a0:qf) (a1:Vector UInt8 16):Tree (qa×Bool):=
 .bind (Je N a1 (qf.R a0)) fun r1=>
 .cond (decide (r1 < ((0:Int)))) (
 .chk (0=0) <|
 .ret (qa.mk ((Vector.replicate 16 0)) (qe.mk 0 0) [],false)) <|
 .bind (zr (qf.R a0) r1) fun e2=>
 .bind (KW e2) fun r3=>
 .ret (qa.mk (qa.ID e2) (qa.zi e2) ((([]:List qd))++(qa.F e2)),true)
def WC (N:Nat) (a0:qf) (a1:Vector UInt8 16):Option (qa×Bool):=(qfw N a0 a1).run some
def qxk (N:Nat):List (Nat×qJ):=[]
def qgm (N:Nat):Ent:=smF ⟨27,[],[.x qU,.x (.ba 16)],[],[]⟩ [qU,(.ba 16)] (qa×Bool) (fun x=>WC N x.1 x.2.1) cs1 fun _=>qxD
theorem qkx (N:Nat):zd Tryz.prog (qgm N):=
 zc (H:=qxc) (L:=qQ (qxk N)) (ts:=[qU,(.ba 16)]) (T:=fun x=>qfw N x.1 x.2.1) 0 qGn (qsY N) (qw (by kernel_rfl) trivial) (rg0 (by kernel_rfl)) fun x=>by kernel_rfl
noncomputable def qFv:Code:=Tryz.f77.body.getD .skip
theorem qFs:FnF Tryz.prog 77 Tryz.f77 qFv:=⟨qk,by kernel_rfl,by kernel_rfl,by kernel_rfl⟩
def qvn:TH:={ live:=[(0,[1,2]),(1,[3])] }
def qun (N:Nat):List Ent:=[]
theorem qrd (N:Nat):qS Tryz.prog (qun N):=trivial
def qwb (a0:Int) (a1:qd) (z:Unit):TV×THp:=(xb (decide ((qd.No a1)=a0)),[(30,.cell false (xi a0))])
def qdU (a0:Int) (a1:qd):Tree (Unit):=
 .ret ()
def qhN (a0:Int) (a1:qd):Option (Unit):=(qdU a0 a1).run some
def qvp:List (Nat×qJ):=[]
def qlj:Ent:=smF ⟨77,[],[.x qE],[.k (.p 30 [] 0)],[(30,.cell false (.x (.i .i64)))]⟩ [(.i .i64),qE] (Unit) (fun x=>qhN x.1 x.2.1) cs1 fun x=>qwb x.1 x.2.1
theorem qtc:zd Tryz.prog (qlj):=
 zc (H:=qvn) (L:=qQ (qvp)) (ts:=[(.i .i64),qE]) (T:=fun x=>qdU x.1 x.2.1) 0 qFs (qrd 0) (qw (by kernel_rfl) trivial) (rg0 (by kernel_rfl)) fun x=>by kernel_rfl
noncomputable def qnZ:Code:=Tryz.f76.body.getD .skip
theorem qEO:FnF Tryz.prog 76 Tryz.f76 qnZ:=⟨qk,by kernel_rfl,by kernel_rfl,by kernel_rfl⟩
def JE:TH:={ live:=[(0,[0,1]),(1,[0,1,7,8]),(2,[0,1,7,8,9]),(3,[0,1,5,7,8]),(4,[0,1,5,7,8,16]),(5,[4]),(6,[0,1,7,8]),(7,[4])] }
def W_ (N:Nat):List Ent:=[qlj]
theorem X4 (N:Nat):qS Tryz.prog (W_ N):=⟨qtc,trivial⟩
abbrev vV:=Int×List qd×Int
abbrev jo:=Int⊕(Int×Bool)
def jO (f:vV):jo→Ex×TSt
 | .inl y=>(.ret,⟨1,19,[30],[(4,xi y)],[(30,.cell false (xi f.1))],false,[]⟩)
 | .inr y=>(.exit 0,⟨1,19,[30],[(0,.tv (.sl 4 qE) f.2.1),(1,.fn (.func 77) [] [.p 30 [] 0]),(7,xi f.2.2),(8,xi y.1),(9,xb y.2)],[(30,.cell false (xi f.1))],false,[]⟩)
def qce (N:Nat):List (Nat×qJ):=[]
abbrev jS:=Int
def Xd:SP:=⟨1,19,[30],[(0,.x (.sl 4 qE)),(1,.fn 77 [] [.k (.p 30 [] 0)]),(7,.x (.i .i64)),(8,.x (.i .i64))],[(30,.cell false (.x (.i .i64)))],false,[]⟩
def qcu (f:vV) (v:jS):TSt:=jv Xd [dv (.i .i64) f.1,dv (.sl 4 qE) f.2.1,dv (.i .i64) f.2.2,dv (.i .i64) v]
def jQ (N:Nat) (o_2:Int) (s0_2:List qd) (s7_2:Int) (v:jS):Tree (jS⊕jo):=
 .cond (decide (v < s7_2)) (
 .bind (zr s0_2 v) fun e1=>
 .bind (qhN o_2 e1) fun r2=>
 .cond (decide ((qd.No e1)=o_2)) (
 .ret (.inr (.inl v))) <|
 .chk (qy (v + 1)) <|
 .ret (.inl (v + 1))) <|
 .ret (.inr (.inr ((v,decide (v < s7_2)))))
def Xc (N n:Nat) (f:vV) (v:jS):Option jo:=q8 (jQ N f.1 f.2.1 f.2.2) some n v
theorem qco (N:Nat) (f:vV) (n:Nat) (v:jS) (y:jo) (h:Xc N n f v=some y):LG Tryz.prog JE 76 (ze qnZ 2) (qcu f v) (jO f y):=
 jd qk (E:=W_ N) (L:=qQ (qce N)) (st:=jO f) (g:=some) (R:=jO f) (X4 N) (qw (by kernel_rfl) trivial) (rg0 (by kernel_rfl)) (fun v=>by kernel_rfl) (zn (st:=jO f) fun y=>by rcases y with _ | _<;>rfl) (js0 rfl) n v y h
def Ji (N:Nat) (o_2:Int) (s0_2:List qd) (s7_2:Int) (s8_2:Int):Option jo:=Xc N N (o_2,s0_2,s7_2) s8_2
def Xg (N:Nat):qJ:=smL Xd [(.i .i64),(.sl 4 qE),(.i .i64),(.i .i64)] jo (fun x=>Ji N x.1 x.2.1 x.2.2.1 x.2.2.2.1) (csS cs1) fun x=>jO (x.1,x.2.1,x.2.2.1)
theorem qbG (N:Nat):Ql Tryz.prog JE 76 (ze qnZ 2) (Xg N):=jF fun x z h=>qco N (x.1,x.2.1,x.2.2.1) N x.2.2.2.1 z h
def qec (a0:Int) (z:Int):TV×THp:=(xi z,[(30,.cell false (xi a0))])
def JA (N:Nat) (a0:Int) (a1:List qd):Tree (Int):=
 .bind (Ji N a0 a1 ((a1.length:Nat):Int) 0) fun z1=>
 .sum z1 (fun z2=>
 .ret z2) fun z2=>
 .ret (-1)
def Zu (N:Nat) (a0:Int) (a1:List qd):Option (Int):=(JA N a0 a1).run some
def qd6 (N:Nat):List (Nat×qJ):=[(2,Xg N)]
def WQ (N:Nat):Ent:=smF ⟨76,[],[.x (.sl 4 qE),.fn 77 [] [.k (.p 30 [] 0)]],[],[(30,.cell false (.x (.i .i64)))]⟩ [(.i .i64),(.sl 4 qE)] (Int) (fun x=>Zu N x.1 x.2.1) cs1 fun x=>qec x.1
theorem qdE (N:Nat):zd Tryz.prog (WQ N):=
 zc (H:=JE) (L:=qQ (qd6 N)) (ts:=[(.i .i64),(.sl 4 qE)]) (T:=fun x=>JA N x.1 x.2.1) 0 qEO (X4 N) (qw (by kernel_rfl) ⟨qbG N,trivial⟩) (rg0 (by kernel_rfl)) fun x=>by kernel_rfl
noncomputable def qEC:Code:=Tryz.f28.body.getD .skip
theorem qEK:FnF Tryz.prog 28 Tryz.f28 qEC:=⟨qk,by kernel_rfl,by kernel_rfl,by kernel_rfl⟩
def qz3:TH:={ live:=[(0,[2,3,4]),(1,[2,4,6]),(2,[2,4,6,12]),(3,[4,5]),(4,[4,5])] }
def qAD (N:Nat):List Ent:=[WQ N]
theorem qvh (N:Nat):qS Tryz.prog (qAD N):=⟨qdE N,trivial⟩
def qzq (z:qc×Bool):TV×THp:=(.tup [.tv qp (z.1:qc),xb z.2],[])
def qiQ (N:Nat) (a0:qa) (a1:Int):Tree (qc×Bool):=
 .bind (Zu N a1 (qa.F a0)) fun r1=>
 .cond (decide (r1 < ((0:Int)))) (
 .ret (qc.mk (qe.mk 0 0) [],false)) <|
 .bind (zr (qa.F a0) r1) fun e2=>
 .ret (qd.C e2,true)
def KZ (N:Nat) (a0:qa) (a1:Int):Option (qc×Bool):=(qiQ N a0 a1).run some
def qz0 (N:Nat):List (Nat×qJ):=[]
def qip (N:Nat):Ent:=smF ⟨28,[],[.x qj,.x (.i .i64)],[],[]⟩ [qj,(.i .i64)] (qc×Bool) (fun x=>KZ N x.1 x.2.1) cs1 fun _=>qzq
theorem qna (N:Nat):zd Tryz.prog (qip N):=
 zc (H:=qz3) (L:=qQ (qz0 N)) (ts:=[qj,(.i .i64)]) (T:=fun x=>qiQ N x.1 x.2.1) 0 qEK (qvh N) (qw (by kernel_rfl) trivial) (rg0 (by kernel_rfl)) fun x=>by kernel_rfl
noncomputable def qEi:Code:=Tryz.f93.body.getD .skip
theorem qGw:FnF Tryz.prog 93 Tryz.f93 qEi:=⟨qk,by kernel_rfl,by kernel_rfl,by kernel_rfl⟩
def qn6:TH:={ live:=[(0,[2,3,4]),(1,[2,8]),(2,[10,11]),(3,[10,26]),(4,[6,7]),(5,[6,7])] }
def qnW (N:Nat):List Ent:=[qgm N,qip N]
theorem qki (N:Nat):qS Tryz.prog (qnW N):=⟨qkx N,qna N,trivial⟩
def qn2 (z:List UInt8×Int):TV×THp:=(.tup [.tv .s (z.1:List UInt8),xi z.2],[])
def K1 (N:Nat) (a0:qV) (a1:Vector UInt8 16) (a2:Int):Tree (List UInt8×Int):=
 .bind (WC N (qV.b a0) a1) fun r1=>
 .bind (KZ N r1.1 a2) fun r2=>
 .cond (!r2.2) (
 .ret ([],6)) <|
 .ret (qc.V r2.1,0)
def VL (N:Nat) (a0:qV) (a1:Vector UInt8 16) (a2:Int):Option (List UInt8×Int):=(K1 N a0 a1 a2).run some
def qoo (N:Nat):List (Nat×qJ):=[]
def KT (N:Nat):Ent:=smF ⟨93,[],[.x jr,.x (.ba 16),.x (.i .i64)],[],[]⟩ [jr,(.ba 16),(.i .i64)] (List UInt8×Int) (fun x=>VL N x.1 x.2.1 x.2.2.1) cs1 fun _=>qn2
theorem qdc (N:Nat):zd Tryz.prog (KT N):=
 zc (H:=qn6) (L:=qQ (qoo N)) (ts:=[jr,(.ba 16),(.i .i64)]) (T:=fun x=>K1 N x.1 x.2.1 x.2.2.1) 0 qGw (qki N) (qw (by kernel_rfl) trivial) (rg0 (by kernel_rfl)) fun x=>by kernel_rfl
noncomputable def qGu:Code:=Tryz.f92.body.getD .skip
theorem qEM:FnF Tryz.prog 92 Tryz.f92 qGu:=⟨qk,by kernel_rfl,by kernel_rfl,by kernel_rfl⟩
def qjR:TH:={ live:=[(0,[1,2,3]),(1,[1,2,17]),(2,[6,7]),(3,[6,7])],dec:=[10] }
def qjS (N:Nat):List Ent:=[qhJ N]
theorem qgY (N:Nat):qS Tryz.prog (qjS N):=⟨qkl N,trivial⟩
def qjQ (z:List UInt8×Int):TV×THp:=(.tup [.tv .s (z.1:List UInt8),xi z.2],[])
def Wm (N:Nat) (a0:qV) (a1:List UInt8) (a2:Int):Tree (List UInt8×Int):=
 .cond (decide (a2=((0:Int)))) (
 .bind (QN N a1) fun r1=>
 .cond (!(eqE (.ba 32) r1 (qb.D (qV.o a0)))) (
 .ret ([],7)) <|
 .ret (a1,a2)) <|
 .ret (a1,a2)
def Z5 (N:Nat) (a0:qV) (a1:List UInt8) (a2:Int):Option (List UInt8×Int):=(Wm N a0 a1 a2).run some
def qjv (N:Nat):List (Nat×qJ):=[]
def Wj (N:Nat):Ent:=smF ⟨92,[],[.x jr,.x .s,.x (.i .i64)],[],[]⟩ [jr,.s,(.i .i64)] (List UInt8×Int) (fun x=>Z5 N x.1 x.2.1 x.2.2.1) cs1 fun _=>qjQ
theorem qa1 (N:Nat):zd Tryz.prog (Wj N):=
 zc (H:=qjR) (L:=qQ (qjv N)) (ts:=[jr,.s,(.i .i64)]) (T:=fun x=>Wm N x.1 x.2.1 x.2.2.1) 0 qEM (qgY N) (qw (by kernel_rfl) trivial) (rg0 (by kernel_rfl)) fun x=>by kernel_rfl
noncomputable def qF7:Code:=Tryz.f66.body.getD .skip
theorem qEB:FnF Tryz.prog 66 Tryz.f66 qF7:=⟨qk,by kernel_rfl,by kernel_rfl,by kernel_rfl⟩
def qkB:TH:={ live:=[(0,[1]),(1,[2,3])] }
def qlT (N:Nat):List Ent:=[KT N,Wj N]
theorem qhX (N:Nat):qS Tryz.prog (qlT N):=⟨qdc N,qa1 N,trivial⟩
def qlP (z:List UInt8×Int):TV×THp:=(.tup [.tv .s (z.1:List UInt8),xi z.2],[])
def Yi (N:Nat) (a0:qV):Tree (List UInt8×Int):=
 .bind (VL N a0 (qb.jw (qV.o a0)) (qb.Zc (qV.o a0))) fun r1=>
 .bind (Z5 N a0 r1.1 r1.2) fun r2=>
 .ret (r2.1,r2.2)
def Xz (N:Nat) (a0:qV):Option (List UInt8×Int):=(Yi N a0).run some
def qk4 (N:Nat):List (Nat×qJ):=[]
def qck (N:Nat):Ent:=smF ⟨66,[],[.x jr],[],[]⟩ [jr] (List UInt8×Int) (fun x=>Xz N x.1) cs1 fun _=>qlP
theorem qjK (N:Nat):zd Tryz.prog (qck N):=
 zc (H:=qkB) (L:=qQ (qk4 N)) (ts:=[jr]) (T:=fun x=>Yi N x.1) 0 qEB (qhX N) (qw (by kernel_rfl) trivial) (rg0 (by kernel_rfl)) fun x=>by kernel_rfl
noncomputable def qGz:Code:=Tryz.f67.body.getD .skip
theorem qEp:FnF Tryz.prog 67 Tryz.f67 qGz:=⟨qk,by kernel_rfl,by kernel_rfl,by kernel_rfl⟩
def qof:TH:={ live:=[(0,[1]),(1,[1,4,5]),(2,[1,4,5,20]),(3,[2,3]),(4,[1,6,7]),(5,[1,6,31]),(6,[2,3]),(7,[2,3])] }
def qnX (N:Nat):List Ent:=[KT N,qjb N,Wj N]
theorem qkJ (N:Nat):qS Tryz.prog (qnX N):=⟨qdc N,qqN N,qa1 N,trivial⟩
def qoj (z:List UInt8×Int):TV×THp:=(.tup [.tv .s (z.1:List UInt8),xi z.2],[])
def KV (N:Nat) (a0:qV):Tree (List UInt8×Int):=
 .bind (VL N a0 (qb.ID (qV.o a0)) (qb.No (qV.o a0))) fun r1=>
 .cond (!decide (r1.2=0)) (
 .ret ([],r1.2)) <|
 .bind (qb0 N r1.1 (qb.P (qV.o a0))) fun r2=>
 .cond (!r2.2) (
 .ret ([],7)) <|
 .bind (Z5 N a0 r2.1 0) fun r3=>
 .ret (r3.1,r3.2)
def YM (N:Nat) (a0:qV):Option (List UInt8×Int):=(KV N a0).run some
def qnM (N:Nat):List (Nat×qJ):=[]
def qep (N:Nat):Ent:=smF ⟨67,[],[.x jr],[],[]⟩ [jr] (List UInt8×Int) (fun x=>YM N x.1) cs1 fun _=>qoj
theorem qmD (N:Nat):zd Tryz.prog (qep N):=
 zc (H:=qof) (L:=qQ (qnM N)) (ts:=[jr]) (T:=fun x=>KV N x.1) 0 qEp (qkJ N) (qw (by kernel_rfl) trivial) (rg0 (by kernel_rfl)) fun x=>by kernel_rfl
noncomputable def qES:Code:=Tryz.f24.body.getD .skip
theorem qFT:FnF Tryz.prog 24 Tryz.f24 qES:=⟨qk,by kernel_rfl,by kernel_rfl,by kernel_rfl⟩
def qHy:TH:={ live:=[(0,[2,3,4]),(1,[2,3,4,17]),(2,[4,5]),(3,[2,3,4,6]),(4,[2,3,4,7]),(5,[2,3,4,7,25]),(6,[4,5]),(7,[2,3,4,8,9]),(8,[2,3,4,8,9,44]),(9,[4,5]),(10,[4,5])],dec:=[13,21],nil:=[(0,[⟨.ob 40 [0],43,(.sl 19 qj)⟩]),(2,[⟨.ob 40 [0],43,(.sl 19 qj)⟩]),(9,[⟨.ob 40 [0],43,(.sl 19 qj)⟩])] }
def qGT (N:Nat):List Ent:=[qdA N,qwS N,qnh N,qe8,qck N,qep N]
theorem qD6 (N:Nat):qS Tryz.prog (qGT N):=⟨qgq N,qD_ N,qvT N,qoC,qjK N,qmD N,trivial⟩
def qHV (z:qf×Int):TV×THp:=(.tup [.tv qU (z.1:qf),xi z.2],[])
def qmc (N:Nat) (a0:qf) (a1:qb):Tree (qf×Int):=
 .bind (WI N a0) fun r1=>
 .cond (!r1) (
 .chk (0=0) <|
 .ret (qf.mk [],1)) <|
 .bind (qqu N a1) fun r2=>
 .cond (!r2) (
 .chk (0=0) <|
 .ret (qf.mk [],1)) <|
 .cond (decide ((qb.Kind a1)=0)) (
 .chk (0≤(0:Int)∧(0:Int) < ((4:Nat):Int)) <|
 .bind (Xb N a0 (qa.mk (qb.ID a1) (qb.S a1) [])) fun r3=>
 .ret (r3.1,r3.2)) <|
 .cond (decide ((qb.Kind a1)=1)) (
 .chk (0≤(1:Int)∧(1:Int) < ((4:Nat):Int)) <|
 .bind (qc4 (qV.mk a0 a1)) fun r3=>
 .bind (Xb N a0 (qa.mk (qb.ID a1) (qe.mk 0 0) [qd.mk (qb.No a1) (qc.mk (qb.S a1) (qb.V a1))])) fun r4=>
 .ret (r4.1,r4.2)) <|
 .cond (decide ((qb.Kind a1)=2)) (
 .chk (0≤(2:Int)∧(2:Int) < ((4:Nat):Int)) <|
 .bind (Xz N (qV.mk a0 a1)) fun r3=>
 .cond (!decide (r3.2=0)) (
 .chk (0=0) <|
 .ret (qf.mk [],r3.2)) <|
 .bind (Xb N a0 (qa.mk (qb.ID a1) (qe.mk 0 0) [qd.mk (qb.No a1) (qc.mk (qb.S a1) r3.1)])) fun r4=>
 .ret (r4.1,r4.2)) <|
 .cond (decide ((qb.Kind a1)=3)) (
 .chk (0≤(3:Int)∧(3:Int) < ((4:Nat):Int)) <|
 .bind (YM N (qV.mk a0 a1)) fun r3=>
 .cond (!decide (r3.2=0)) (
 .chk (0=0) <|
 .ret (qf.mk [],r3.2)) <|
 .bind (Xb N a0 (qa.mk (qb.ID a1) (qe.mk 0 0) [qd.mk (qb.No a1) (qc.mk (qb.S a1) r3.1)])) fun r4=>
 .ret (r4.1,r4.2)) <|
 .no
def qmf (N:Nat) (a0:qf) (a1:qb):Option (qf×Int):=(qmc N a0 a1).run some
def qGR (N:Nat):List (Nat×qJ):=[]
def qyA (N:Nat):Ent:=smF ⟨24,[],[.x qU,.x zN],[],[]⟩ [qU,zN] (qf×Int) (fun x=>qmf N x.1 x.2.1) cs1 fun _=>qHV
theorem qFF (N:Nat):zd Tryz.prog (qyA N):=
 zc (H:=qHy) (L:=qQ (qGR N)) (ts:=[qU,zN]) (T:=fun x=>qmc N x.1 x.2.1) 0 qFT (qD6 N) (qw (by kernel_rfl) trivial) (rg0 (by kernel_rfl)) fun x=>by kernel_rfl
noncomputable def qy6:Code:=Tryz.f5.body.getD .skip
theorem qHI:FnF Tryz.prog 5 Tryz.f5 qy6:=⟨qk,by kernel_rfl,by kernel_rfl,by kernel_rfl⟩
def qgi:TH:={ live:=[(0,[2,3]),(1,[2,3,5]),(2,[2,3,5,6]),(3,[2,3,5,6,7]),(4,[2,3,5,6,7,8,9]),(5,[2,3,5,8,47]),(6,[4]),(7,[2,3,10,11]),(8,[2,3,10,11,12,13]),(9,[2,3,10,11,12,13,74]),(10,[4]),(11,[2,3,10,12,77]),(12,[4]),(13,[3,12,14,15]),(14,[3,12,15,16,17]),(15,[3,12,106]),(16,[4]),(17,[4])],dec:=[31,35,39,43,65,67,97,100,110,117,121] }
def qfy (N:Nat):List Ent:=[quP,qb9 N,qcF N,qyA N,qgm N,qip N,qhJ N]
theorem qen (N:Nat):qS Tryz.prog (qfy N):=⟨qDa,qjC N,qjH N,qFF N,qkx N,qna N,qkl N,trivial⟩
def qgk (z:Bool):TV×THp:=(xb z,[])
def Vp (N:Nat) (a0:qf) (a1:qb):Tree (Bool):=
 .bind (qvw) fun r1=>
 .bind (XL N a0) fun r2=>
 .bind (Qj N a1) fun r3=>
 .bind (qmf N a0 a1) fun r4=>
 .cond (!r1) (
 .ret r1) <|
 .cond (!r2) (
 .ret r1) <|
 .cond (!r3) (
 .ret r1) <|
 .cond (!decide (r4.2=0)) (
 .ret r1) <|
 .cond (decide ((qb.Kind a1)=((0:Int)))) (
 .ret r1) <|
 .bind (WC N r4.1 (qb.ID a1)) fun r5=>
 .bind (KZ N r5.1 (qb.No a1)) fun r6=>
 .cond (!r5.2) (
 .ret r5.2) <|
 .cond r6.2 (
 .cond (!(eqE ql (qc.S r6.1) (qb.S a1))) (
 .ret r5.2) <|
 .cond (!r6.2) (
 .ret (!(eqE ql (qa.zi r5.1) (qe.mk 0 0)))) <|
 .bind (WC N a0 (qb.ID a1)) fun r7=>
 .bind (KZ N r7.1 (qb.No a1)) fun r8=>
 .cond r7.2 (
 .cond r8.2 (
 .cond (eqE ql (qc.S r8.1) (qb.S a1)) (
 .ret true) <|
 .cond (decide ((qb.Kind a1)=((1:Int)))) (
 .cond (decide ((qc.V r6.1)=(qb.V a1))) (
 .ret true) <|
 .cond (!decide ((qb.Kind a1)=((1:Int)))) (
 .bind (QN N (qc.V r6.1)) fun r9=>
 .ret (eqE (.ba 32) r9 (qb.D a1))) <|
 .ret false) <|
 .cond (!decide ((qb.Kind a1)=((1:Int)))) (
 .bind (QN N (qc.V r6.1)) fun r9=>
 .ret (eqE (.ba 32) r9 (qb.D a1))) <|
 .ret false) <|
 .cond (decide ((qb.Kind a1)=((1:Int)))) (
 .cond (decide ((qc.V r6.1)=(qb.V a1))) (
 .ret true) <|
 .cond (!decide ((qb.Kind a1)=((1:Int)))) (
 .bind (QN N (qc.V r6.1)) fun r9=>
 .ret (eqE (.ba 32) r9 (qb.D a1))) <|
 .ret false) <|
 .cond (!decide ((qb.Kind a1)=((1:Int)))) (
 .bind (QN N (qc.V r6.1)) fun r9=>
 .ret (eqE (.ba 32) r9 (qb.D a1))) <|
 .ret false) <|
 .cond (decide ((qb.Kind a1)=((1:Int)))) (
 .cond (decide ((qc.V r6.1)=(qb.V a1))) (
 .ret true) <|
 .cond (!decide ((qb.Kind a1)=((1:Int)))) (
 .bind (QN N (qc.V r6.1)) fun r9=>
 .ret (eqE (.ba 32) r9 (qb.D a1))) <|
 .ret false) <|
 .cond (!decide ((qb.Kind a1)=((1:Int)))) (
 .bind (QN N (qc.V r6.1)) fun r9=>
 .ret (eqE (.ba 32) r9 (qb.D a1))) <|
 .ret false) <|
 .cond (!r6.2) (
 .ret (!(eqE ql (qa.zi r5.1) (qe.mk 0 0)))) <|
 .bind (WC N a0 (qb.ID a1)) fun r7=>
 .bind (KZ N r7.1 (qb.No a1)) fun r8=>
 .cond r7.2 (
 .cond r8.2 (
 .cond (eqE ql (qc.S r8.1) (qb.S a1)) (
 .ret true) <|
 .cond (decide ((qb.Kind a1)=((1:Int)))) (
 .cond (decide ((qc.V r6.1)=(qb.V a1))) (
 .ret true) <|
 .cond (!decide ((qb.Kind a1)=((1:Int)))) (
 .bind (QN N (qc.V r6.1)) fun r9=>
 .ret (eqE (.ba 32) r9 (qb.D a1))) <|
 .ret false) <|
 .cond (!decide ((qb.Kind a1)=((1:Int)))) (
 .bind (QN N (qc.V r6.1)) fun r9=>
 .ret (eqE (.ba 32) r9 (qb.D a1))) <|
 .ret false) <|
 .cond (decide ((qb.Kind a1)=((1:Int)))) (
 .cond (decide ((qc.V r6.1)=(qb.V a1))) (
 .ret true) <|
 .cond (!decide ((qb.Kind a1)=((1:Int)))) (
 .bind (QN N (qc.V r6.1)) fun r9=>
 .ret (eqE (.ba 32) r9 (qb.D a1))) <|
 .ret false) <|
 .cond (!decide ((qb.Kind a1)=((1:Int)))) (
 .bind (QN N (qc.V r6.1)) fun r9=>
 .ret (eqE (.ba 32) r9 (qb.D a1))) <|
 .ret false) <|
 .cond (decide ((qb.Kind a1)=((1:Int)))) (
 .cond (decide ((qc.V r6.1)=(qb.V a1))) (
 .ret true) <|
 .cond (!decide ((qb.Kind a1)=((1:Int)))) (
 .bind (QN N (qc.V r6.1)) fun r9=>
 .ret (eqE (.ba 32) r9 (qb.D a1))) <|
 .ret false) <|
 .cond (!decide ((qb.Kind a1)=((1:Int)))) (
 .bind (QN N (qc.V r6.1)) fun r9=>
 .ret (eqE (.ba 32) r9 (qb.D a1))) <|
 .ret false
def vI (N:Nat) (a0:qf) (a1:qb):Option (Bool):=(Vp N a0 a1).run some
def qga (N:Nat):List (Nat×qJ):=[]
theorem qeo (N:Nat):qbX Tryz.prog ⟨5,[],[.x qU,.x zN],[],[]⟩ [qU,zN] (fun x=>Vp N x.1 x.2.1) (fun _=>qgk):=
 Kl (H:=qgi) (L:=qQ (qga N)) 0 qHI (qen N) (qw (by kernel_rfl) trivial) (rg0 (by kernel_rfl)) fun x=>by kernel_rfl
end Go.Rx
end
set_option maxRecDepth 100000
noncomputable section
namespace Go.Rx
open Go.Proofs
abbrev Z3 (q:Nat→Bool) (n:Nat):Bool:=quv q n 0
theorem Vi {q:Nat→Bool} {n:Nat}:Z3 q n=true↔∀ j,j < n→q j=true:=by
 unfold Z3; rw [qwW]
 exact ⟨fun h j hj=>h j (Nat.zero_le _) (by omega),fun h j _ hj=>h j (by omega)⟩
theorem qDH {p q:Nat→Bool} {n:Nat} (h:Zg p n 0=none) (hq:∀ j,j < n→p j=!q j):Z3 q n=true:=
 Vi.2 fun j hj=>by
  have:=qnq h j (Nat.zero_le _) (by omega)
  rw [hq j hj] at this; simpa using this
theorem qDT {p q:Nat→Bool} {n i:Nat} (h:Zg p n 0=some i) (hq:∀ j,j < n→p j=!q j):Z3 q n=false:=by
 obtain ⟨h1,_,h2,_⟩:=qgj h
 cases e:Z3 q n with
 | false=>rfl
 | true=>
  have:=Vi.1 e i (by omega)
  rw [hq i (by omega),this] at h1; simp at h1
theorem qax {α Y : Type} {B : Int → Tree (Int ⊕ (α ⊕ (Int × Bool)))} {g : α ⊕ (Int × Bool) → Option Y} {q : Nat → Bool} {n : Nat} {hit : α}
    (h1:∀ k,k < n→(B (k:Int)).run some=some (if q k then .inl ((k + 1:Nat):Int) else .inr (.inl hit))) (h2:(B (n:Int)).run some=some (.inr (.inr (((n:Nat):Int),false)))) {N:Nat} (hN:n < N) :
    q8 B g N ((0:Nat):Int)=g (if Z3 q n then .inr (((n:Nat):Int),false) else .inl hit):=by
 rw [qfd (p:=fun k=>!q k) (hit:=fun _=>.inl hit) (fin:=.inr (((n:Nat):Int),false)) (n:=n) (fun k hk=>by rw [h1 k hk]; cases q k<;>rfl) h2 N 0 (Nat.zero_le _) (by omega),Nat.sub_zero]
 cases e:Zg (fun k=>!q k) n 0 with
 | none=>rw [qDH e fun _ _=>rfl]; rfl
 | some i=>rw [qDT e fun _ _=>rfl]; rfl
theorem qhC {α:Type} {d:α} {l:List α} {k:Nat} (h:k < l.length):l.take (k + 1)=l.take k++[l.getD k d]:=by
 rw [List.take_succ_eq_append_getElem h,List.getD_eq_getElem?_getD,List.getElem?_eq_getElem h]; rfl
class Q3 (N:Nat):Prop where
 h:100000≤N
theorem Q3.of {N:Nat} (h:100000≤N):Q3 N:=⟨h⟩
theorem big (N:Nat) [Q3 N]:100000≤N:=Q3.h
abbrev zSt:qe:=((0:Int),(0:Int))
theorem qE0 {c n:Nat}:decide (((c:Nat):Int) < ((n:Nat):Int))=!decide (n≤c):=by
 by_cases h:n≤c
 ·rw [decide_eq_true h,decide_eq_false (by omega)]; rfl
 ·rw [decide_eq_false h,decide_eq_true (by omega)]; rfl
def stB (a:qe):Bool:=decide (a=zSt)||(decide (0 < a.1)&&decide (a.1≤1099511627776)&&decide (0≤a.2)&&decide (a.2 < 8))
def slB (a b:qe):Bool:=decide (a.1 < b.1∨(a.1=b.1∧a.2 < b.2))
theorem qet (a b:qe):eqE ql a b=decide (a=b):=Bool.eq_iff_iff.2 ((Jr ql a b).trans (decide_eq_true_iff (p:=(a:Int×Int)=b)).symm)
theorem qwX (a b:Vector UInt8 16):eqE (.ba 16) a b=decide (a=b):=Bool.eq_iff_iff.2 ((Jr (.ba 16) a b).trans (decide_eq_true_iff (p:=(a:Vector UInt8 16)=b)).symm)
theorem qiK (a:qe):WN a=some (stB a):=by
 unfold WN qf7
 have e:=qet a (qe.mk 0 0)
 simp only [Tree.run,e]
 show (bif decide (a=zSt) then _ else _)=some (decide (a=zSt)||_)
 cases decide (a=zSt) with
 | true=>rfl
 | false=>
  show (bif decide (0 < a.1) then _ else _)=_
  cases decide (0 < a.1) with
  | false=>rfl
  | true=>
   show (bif decide (a.1≤1099511627776) then _ else _)=_
   cases decide (a.1≤1099511627776) with
   | false=>rfl
   | true=>
    show (bif decide (0≤a.2) then _ else _)=_
    cases decide (0≤a.2)<;>rfl
end Go.Rx
end
set_option maxRecDepth 100000
noncomputable section
namespace Go.Rx
open Go.Proofs
abbrev zP:qg:=(false,0,0,[])
def inP (a lo hi:Int):Bool:=decide (lo≤a)&&decide (a≤hi)
def Z8 (p:qg):Bool:=bif p.qbj then inP p.jw 0 200&&inP p.Len 1 200&&decide (p.Lit=[]) else decide (p=(false,0,0,p.Lit))&&inP (p.Lit.length:Nat) 1 200
theorem qGx (a b:qg):eqE qG a b=decide (a=b):=Bool.eq_iff_iff.2 ((Jr qG a b).trans (decide_eq_true_iff (p:=(a:Bool×Int×Int×List UInt8)=b)).symm)
theorem qvI (a lo hi:Int):qbB a lo hi=some (inP a lo hi):=by
 unfold qbB qiv inP
 exact jW rfl (fun h=>qC (by rw [h]; rfl)) fun h=>qC (by rw [h]; rfl)
theorem qFn (p:qg):qe5 p=some (Z8 p):=by
 unfold qe5 qfL Z8
 refine jW rfl (fun h=>?_) fun h=>?_
 ·rw [h]
  refine qz (qvI _ _ _) <| jW rfl (fun h1=>?_) fun h1=>qC (by rw [h1]; rfl)
  refine qz (qvI _ _ _) <| jW rfl (fun h2=>?_) fun h2=>qC (by rw [h1,h2]; rfl)
  exact qC (by rw [h1,h2]; rfl)
 ·rw [h]
  exact jW (qGx _ _) (fun h1=>qz (qvI _ _ _) (qC (by rw [show decide (p=(false,0,0,p.Lit))=true from h1]; rfl))) fun h1=>qC (by rw [show decide (p=(false,0,0,p.Lit))=false from h1]; rfl)
def qcH (l:List qg) (k:Nat):Int:=((l.take k).map fun p=>p.Len + ((p.Lit.length:Nat):Int)).sum
def YP (l:List qg):Bool:=Z3 (fun k=>Z8 (l.getD k zP)) l.length&&decide (l.length≤60)&&decide (qcH l l.length≤200)
theorem qr6 {l:List qg} {k:Nat} (h:k < l.length):qcH l (k + 1)=qcH l k + ((l.getD k zP).Len + (((l.getD k zP).Lit.length:Nat):Int)):=by
 unfold qcH
 rw [qhC (d:=zP) h,List.map_append,List.sum_append]; simp
theorem qlA {p:qg} (h:Z8 p=true):0≤p.Len + ((p.Lit.length:Nat):Int)∧p.Len + ((p.Lit.length:Nat):Int)≤200∧0≤p.Len:=by
 unfold Z8 inP at h
 cases e:p.qbj with
 | true=>
  rw [e,cond_true] at h
  simp only [Bool.and_eq_true,decide_eq_true_eq] at h
  obtain ⟨⟨_,h1,h2⟩,h3⟩:=h
  rw [h3]; simp only [List.length_nil]; omega
 | false=>
  rw [e,cond_false] at h
  simp only [Bool.and_eq_true,decide_eq_true_eq] at h
  obtain ⟨h1,h2,h3⟩:=h
  have:p.Len=0:=by rw [h1]; rfl
  omega
theorem qym {l:List qg}:∀ {k:Nat},k≤l.length→(∀ j,j < k→Z8 (l.getD j zP)=true)→0≤qcH l k∧qcH l k≤200 * (k:Int)
 | 0,_,_=>by unfold qcH; simp
 | k + 1,hk,h=>by
  have h1:=qym (k:=k) (by omega) fun j hj=>h j (by omega)
  have h2:=qlA (h k (by omega))
  rw [qr6 (by omega)]; omega
theorem qpQ {V W Y : Type} {B : V → Tree (V ⊕ W)} {g : W → Option Y} {at_ : Nat → V} {q : Nat → Bool} {n : Nat} {hit fin : W}
    (h1:∀ k,k < n→(∀ j,j < k→q j=true)→(B (at_ k)).run some=some (if q k then .inl (at_ (k + 1)) else .inr hit)) (h2:(B (at_ n)).run some=some (.inr fin)) :
    ∀ (m k:Nat),k + m=n→∀ N,m < N→(∀ j,j < k→q j=true)→q8 B g N (at_ k)=g (if Z3 q n then fin else hit)
 | 0,k,hk,N + 1,_,hq=>by
  obtain rfl:k=n:=by omega
  rw [zL h2,if_pos (Vi.2 hq)]
 | m + 1,k,hk,N + 1,hN,hq=>by
  have h:=h1 k (by omega) hq
  cases e:q k with
  | true=>
   rw [e,if_pos rfl] at h
   rw [Jl h]
   exact qpQ h1 h2 m (k + 1) (by omega) N (by omega) fun j hj=>by
    by_cases ej:j=k
    ·rw [ej]; exact e
    ·exact hq j (by omega)
  | false=>
   rw [e,if_neg (by simp)] at h
   rw [zL h,if_neg (fun ha=>by have:=Vi.1 ha k (by omega); rw [e] at this; cases this)]
 | _,_,_,0,hN,_=>by omega
section
variable {N:Nat} [Q3 N]
theorem qDE {l : List qg} (hl : l.length < N) (hl2 : l.length ≤ 1000000000000000) :
    qd_ N l l ((l.length:Nat):Int) 0 0=some (if Z3 (fun k=>Z8 (l.getD k zP)) l.length then .inr (qcH l l.length,((l.length:Nat):Int),false) else .inl ()):=by
 refine (qpQ (B:=YI N l l ((l.length:Nat):Int)) (g:=some) (at_:=fun k=>(qcH l k,(k:Int))) (q:=fun k=>Z8 (l.getD k zP)) (n:=l.length) (hit:=.inl ()) (fin:=.inr (qcH l l.length,((l.length:Nat):Int),false)) (fun k hk hq=>?_) ?_ l.length 0 (by omega) N (by omega) (fun j hj=>by omega)).trans ?_
 ·unfold YI
  refine w_t (dec_lt hk) <| qz (vL (d:=zP) hk) <| qz (qFn _) <| jW rfl (fun h=>?_) fun h=>?_
  ·have h':Z8 (l.getD k zP)=false:=by rw [Bool.not_eq_true'] at h; exact h
   rw [h']; exact qC rfl
  ·have h':Z8 (l.getD k zP)=true:=by rw [Bool.not_eq_false'] at h; exact h
   have h1:=qym (k:=k) (Nat.le_of_lt hk) hq
   have h2:=qlA h'
   rw [h']
   refine qZ (show qy ((l.getD k zP).Len + (((l.getD k zP).Lit.length:Nat):Int)) by unfold qy; omega) <| qZ (show qy (qcH l k + ((l.getD k zP).Len + (((l.getD k zP).Lit.length:Nat):Int))) by unfold qy; omega) <| qZ (QY (by omega)) <| qC ?_
   rw [if_pos rfl,qr6 hk,zG]
 ·unfold YI
  exact w_f (jy (Nat.lt_irrefl _)) (qC (by rw [jy (Nat.lt_irrefl _)]))
 ·split<;>rfl
theorem qsl {l:List qg} (hl:l.length < N) (hl2:l.length≤1000000000000000):Jk N l=some (YP l):=by
 unfold Jk qgn YP
 refine qz (qDE hl hl2) ?_
 cases Z3 (fun k=>Z8 (l.getD k zP)) l.length with
 | false=>rfl
 | true=>
  refine w_r rfl <| jW (c:=decide (l.length≤60)) (decide_eq_decide.2 (by omega)) (fun h=>qC ?_) fun h=>qC ?_
  ·rw [h]; rfl
  ·rw [h]; rfl
end
section
variable {N:Nat}
theorem qFD {l m : List qg} (hl : l.length < N) (hm : m.length = l.length) (hl2 : l.length ≤ 1000000000000000) :
    Xa N l m ((l.length:Nat):Int) 0=some (if Z3 (fun k=>decide (l.getD k zP=m.getD k zP)) l.length then .inr (((l.length:Nat):Int),false) else .inl ()):=by
 refine (qax (B:=Q4 N l m ((l.length:Nat):Int)) (g:=some) (q:=fun k=>decide (l.getD k zP=m.getD k zP)) (n:=l.length) (hit:=()) (fun k hk=>?_) ?_ hl)
 ·unfold Q4
  refine w_t (dec_lt hk) <| qz (vL (d:=zP) hk) <| qz (vL (d:=zP) (by omega)) <| jW rfl (fun h=>?_) fun h=>?_
  ·have h':decide (l.getD k zP=m.getD k zP)=false:=by rw [qGx,Bool.not_eq_true'] at h; exact h
   rw [h']; exact qC rfl
  ·have h':decide (l.getD k zP=m.getD k zP)=true:=by rw [qGx,Bool.not_eq_false'] at h; exact h
   rw [h']; exact qZ (QY (by omega)) <| qC (by rw [zG]; rfl)
 ·unfold Q4
  exact w_f (jy (Nat.lt_irrefl _)) (qC (by rw [jy (Nat.lt_irrefl _)]))
theorem qtR {α:Type} {d:α} {l m:List α} (h:m.length=l.length) (hg:∀ k,k < l.length→l.getD k d=m.getD k d):l=m:=by
 refine List.ext_getElem h.symm fun i h1 h2=>?_
 have:=hg i h1
 rw [List.getD_eq_getElem?_getD,List.getD_eq_getElem?_getD,List.getElem?_eq_getElem h1,List.getElem?_eq_getElem h2] at this
 exact this
theorem qEV {l m:List qg} (hl:l.length < N) (hl2:l.length≤1000000000000000):qdj N l m=some (decide (l=m)):=by
 have e:J_ N l m=some (decide (l=m)):=by
  unfold J_ XO
  by_cases hm:m.length=l.length
  ·refine w_f (by rw [decide_eq_true (by omega)]; rfl) <| qz (qFD hl hm hl2) ?_
   cases e:Z3 (fun k=>decide (l.getD k zP=m.getD k zP)) l.length with
   | true=>
    have:l=m:=qtR hm fun k hk=>of_decide_eq_true (Vi.1 e k hk)
    exact w_r rfl (qC (by rw [decide_eq_true this]))
   | false=>
    have:¬ l=m:=fun h=>by
     rw [Vi.2 (fun k _=>by rw [h]; exact decide_eq_true rfl)] at e; cases e
    exact w_l rfl (qC (by rw [decide_eq_false this]))
  ·exact w_t (by rw [decide_eq_false (by omega)]; rfl) (qC (by rw [decide_eq_false (fun h=>hm (by rw [h]))]))
 unfold qdj qeD
 exact qz e (qC rfl)
theorem qFJ (a b:Vector UInt8 32):eqE (.ba 32) a b=decide (a=b):=Bool.eq_iff_iff.2 ((Jr (.ba 32) a b).trans (decide_eq_true_iff (p:=(a:Vector UInt8 32)=b)).symm)
theorem qDV {a b:qb} (hl:(qb.P a).length < N) (hl2:(qb.P a).length≤1000000000000000):qmm N a b=some (decide (a=b)):=by
 unfold qmm qlt
 have no:∀ {p:Prop} [Decidable p],(a=b→p)→decide p=false→some false=some (decide (a=b)):=fun hp h=>by rw [decide_eq_false (fun e=>of_decide_eq_false h (hp e))]
 refine jW (qwX _ _) (fun h1=>?_) fun h1=>qC (no (fun e=>by rw [e]) h1)
 refine jW (qwX _ _) (fun h2=>?_) fun h2=>qC (no (fun e=>by rw [e]) h2)
 refine jW rfl (fun h3=>?_) fun h3=>qC (no (fun e=>by rw [e]) h3)
 refine jW rfl (fun h4=>?_) fun h4=>qC (no (fun e=>by rw [e]) h4)
 refine jW rfl (fun h5=>?_) fun h5=>qC (no (fun e=>by rw [e]) h5)
 refine jW (qet _ _) (fun h6=>?_) fun h6=>qC (no (fun e=>by rw [e]) h6)
 refine jW rfl (fun h7=>?_) fun h7=>qC (no (fun e=>by rw [e]) h7)
 refine jW (qFJ _ _) (fun h8=>?_) fun h8=>qC (no (fun e=>by rw [e]) h8)
 refine qz (qEV hl hl2) <| qC ?_
 have key:qb.P a=qb.P b↔a=b:=by
  obtain ⟨a1,a2,a3,a4,a5,a6,a7,a8,a9⟩:=a
  obtain ⟨b1,b2,b3,b4,b5,b6,b7,b8,b9⟩:=b
  have e1:a2=b2:=of_decide_eq_true h1
  have e2:a7=b7:=of_decide_eq_true h2
  have e3:a4=b4:=of_decide_eq_true h3
  have e4:a8=b8:=of_decide_eq_true h4
  have e5:a1=b1:=of_decide_eq_true h5
  have e6:a3=b3:=of_decide_eq_true h6
  have e7:a5=b5:=of_decide_eq_true h7
  have e8:a9=b9:=of_decide_eq_true h8
  subst e1 e2 e3 e4 e5 e6 e7 e8
  exact ⟨fun h=>by have h:a6=b6:=h; rw [h],fun h=>by rw [h]⟩
 exact congrArg some (decide_eq_decide.2 key)
end
theorem qsA (a:Int):qb_ a=some (decide (0≤a)&&decide (a < 8)):=by
 unfold qb_ qfW
 exact jW rfl (fun h=>qC (by rw [h]; rfl)) fun h=>qC (by rw [h]; rfl)
end Go.Rx
end
set_option maxRecDepth 100000
noncomputable section
namespace Go.Rx
open Go.Proofs
abbrev zI:Vector UInt8 16:=Vector.replicate 16 0
abbrev zD:Vector UInt8 32:=Vector.replicate 32 0
def qtW (o:qb):qb:=
 if o.Kind=1 then .mk o.Kind o.ID o.S o.No o.V [] zI 0 zD
 else if o.Kind=2 then .mk o.Kind o.ID o.S o.No [] [] o.jw o.Zc o.D
 else if o.Kind=3 then .mk o.Kind o.ID o.S o.No [] o.P zI 0 o.D
 else .mk o.Kind o.ID o.S 0 [] [] zI 0 zD
def qvk (a:Int):Bool:=decide (0≤a)&&decide (a < 8)
def opB (o:qb):Bool:=!decide (o.Kind < 0)&&!decide (4≤o.Kind)&&decide (o=qtW o)&&!decide (o.S=zSt)&&stB o.S&&qvk o.No&&qvk o.Zc&&decide ((o.V.length:Int)≤200)&&YP o.P
theorem qHR {o:qb}:opB o=true↔(0≤o.Kind∧o.Kind < 4)∧o=qtW o∧o.S≠zSt∧stB o.S=true∧(0≤o.No∧o.No < 8)∧(0≤o.Zc∧o.Zc < 8)∧o.V.length≤200∧YP o.P=true:=by
 unfold opB qvk
 simp only [Bool.and_eq_true,Bool.not_eq_true',decide_eq_false_iff_not,decide_eq_true_iff]
 constructor
 ·rintro ⟨⟨⟨⟨⟨⟨⟨⟨h1,h2⟩,h3⟩,h4⟩,h5⟩,h6⟩,h7⟩,h8⟩,h9⟩
  exact ⟨by omega,h3,h4,h5,h6,h7,by omega,h9⟩
 ·rintro ⟨h1,h3,h4,h5,h6,h7,h8,h9⟩
  exact ⟨⟨⟨⟨⟨⟨⟨⟨by omega,by omega⟩,h3⟩,h4⟩,h5⟩,h6⟩,h7⟩,by omega⟩,h9⟩
theorem qGU (o:qb):ql7 o=some (qtW o):=by
 unfold ql7 qlD qtW
 refine jW rfl (fun h=>qC ?_) fun h=>jW rfl (fun h2=>qC ?_) fun h2=>jW rfl (fun h3=>qC ?_) fun h3=>qC ?_
 ·rw [if_pos (of_decide_eq_true h)]
 ·rw [if_neg (of_decide_eq_false h),if_pos (of_decide_eq_true h2)]
 ·rw [if_neg (of_decide_eq_false h),if_neg (of_decide_eq_false h2),if_pos (of_decide_eq_true h3)]
 ·rw [if_neg (of_decide_eq_false h),if_neg (of_decide_eq_false h2),if_neg (of_decide_eq_false h3)]
section
variable {N:Nat} [Q3 N]
theorem qwp {o:qb} (hl:(qb.P o).length < N) (hl2:(qb.P o).length≤1000000000000000):qqu N o=some (opB o):=by
 unfold qqu qnS opB
 refine jW rfl (fun h1=>qC (by rw [h1]; rfl)) fun h1=>?_
 refine jW rfl (fun h2=>qC (by rw [h1,h2]; rfl)) fun h2=>?_
 refine qz (qGU o) <| qz (qDV hl hl2) ?_
 refine jW rfl (fun h3=>qC ?_) fun h3=>?_
 ·rw [Bool.not_eq_true'] at h3
  rw [h1,h2,h3]; rfl
 rw [Bool.not_eq_false'] at h3
 refine jW (qet _ _) (fun h4=>qC ?_) fun h4=>?_
 ·have h4:decide (o.S=zSt)=true:=h4
  rw [h1,h2,h3,h4]; rfl
 have h4:decide (o.S=zSt)=false:=h4
 refine qz (qiK _) <| jW rfl (fun h5=>?_) fun h5=>qC (by rw [h1,h2,h3,h4,h5]; rfl)
 refine qz (qsA _) <| jW (show _=qvk o.No from rfl) (fun h6=>?_) fun h6=>qC (by rw [h1,h2,h3,h4,h5,h6]; rfl)
 refine qz (qsA _) <| jW (show _=qvk o.Zc from rfl) (fun h7=>?_) fun h7=>qC (by rw [h1,h2,h3,h4,h5,h6,h7]; rfl)
 refine jW rfl (fun h8=>?_) fun h8=>qC (by rw [h1,h2,h3,h4,h5,h6,h7,h8]; rfl)
 exact qz (qsl hl hl2) <| qC (by rw [h1,h2,h3,h4,h5,h6,h7,h8]; rfl)
end
end Go.Rx
end
set_option maxRecDepth 100000
noncomputable section
namespace Go.Rx
open Go.Proofs
section n
variable {N:Nat} [Q3 N]
def sgn (a b:Int):Int:=if a < b then -1 else if b < a then 1 else 0
theorem qIk (a b:Int):J3 a b=some (sgn a b):=by
 unfold J3 Y_ KM qa6
 simp only [Tree.run,Option.bind_some,decide_true,Bool.not_true,cond_false,sgn]
 by_cases h:a < b
 ·simp [h]
 ·by_cases h2:b < a
  ·simp [h,h2]
  ·simp [h,h2]
theorem qzN (a b:Int):qaz N [a,b]=some (if a=0 then b else a):=by
 obtain ⟨n,rfl⟩:∃ n,N=n + 3:=⟨N - 3,by have:=big N; omega⟩
 have e:qcT (n + 3) [a,b] ((([a,b]:List Int).length:Nat):Int) 0=q8 (QM (n + 3) [a,b] 2) some (n + 3) 0:=rfl
 have r0:(QM (n + 3) [a,b] 2 0).run some=if a=0 then some (.inl 1) else some (.inr (.inl a)):=by
  unfold QM
  have g:zr [a,b] 0=some a:=rfl
  have c:qy ((0:Int) + 1):=by unfold qy; omega
  rw [qO,show decide ((0:Int) < 2)=true from rfl,cond_true,run_bind,g,Option.bind_some,qO,zE,qn c]
  by_cases h:a=0
  ·rw [if_pos h,decide_eq_true h]; rfl
  ·rw [if_neg h,decide_eq_false h]; rfl
 have r1:(QM (n + 3) [a,b] 2 1).run some=if b=0 then some (.inl 2) else some (.inr (.inl b)):=by
  unfold QM
  have g:zr [a,b] 1=some b:=rfl
  have c:qy ((1:Int) + 1):=by unfold qy; omega
  rw [qO,show decide ((1:Int) < 2)=true from rfl,cond_true,run_bind,g,Option.bind_some,qO,zE,qn c]
  by_cases h:b=0
  ·rw [if_pos h,decide_eq_true h]; rfl
  ·rw [if_neg h,decide_eq_false h]; rfl
 have r2:(QM (n + 3) [a,b] 2 2).run some=some (.inr (.inr (2,false))):=rfl
 unfold qaz qej
 rw [run_bind,e]
 by_cases h:a=0
 ·rw [if_pos h] at r0
  rw [Jl r0,if_pos h]
  by_cases h2:b=0
  ·rw [if_pos h2] at r1
   rw [Jl r1,zL r2,h2]; rfl
  ·rw [if_neg h2] at r1
   rw [zL r1]; rfl
 ·rw [if_neg h] at r0
  rw [zL r0,if_neg h]; rfl
theorem qI_ (a b:Int):sgn a b=-1∨sgn a b=0∨sgn a b=1:=by
 unfold sgn; split
 ·exact .inl rfl
 ·split
  ·exact .inr (.inr rfl)
  ·exact .inr (.inl rfl)
theorem qcE (a b:qe):QL N a b=some (slB a b):=by
 obtain ⟨a1,a2⟩:=a
 obtain ⟨b1,b2⟩:=b
 unfold QL qdS
 simp only [Tree.run,qet,qIk,Option.bind_some]
 by_cases h:((a1,a2):qe)=(b1,b2)
 ·cases h
  have:slB ((a1,a2):qe) (a1,a2)=false:=decide_eq_false (by simp only; omega)
  rw [this,decide_eq_true rfl]; rfl
 ·rw [decide_eq_false h]
  simp only [Bool.not_false,cond_true]
  show ((qaz N [sgn a1 b1,sgn a2 b2]).bind _)=_
  have hs:=qI_ a2 b2
  by_cases h1:a1 < b1
  ·rw [show sgn a1 b1=-1 from if_pos h1,qzN,show slB ((a1,a2):qe) (b1,b2)=true from decide_eq_true (.inl h1)]; rfl
  ·by_cases h2:b1 < a1
   ·rw [show sgn a1 b1=1 by unfold sgn; rw [if_neg h1,if_pos h2],qzN,show slB ((a1,a2):qe) (b1,b2)=false from decide_eq_false (by simp only; omega)]; rfl
   ·have he:a1=b1:=by omega
    rw [show sgn a1 b1=0 by unfold sgn; rw [if_neg h1,if_neg h2],qzN,if_pos rfl,Option.bind_some]
    congr 1
    show decide (sgn a2 b2 < 0)=decide (a1 < b1∨(a1=b1∧a2 < b2))
    rw [decide_eq_decide]
    simp only [he,Int.lt_irrefl,false_or,true_and]
    unfold sgn
    split
    ·rename_i h3; simp [h3]
    ·rename_i h3
     split
     ·simp; omega
     ·simp; omega
end n
end Go.Rx
end
set_option maxRecDepth 100000
noncomputable section
namespace Go.Rx
open Go.Proofs
def lbB (a b:Vector UInt8 16):Bool:=!decide (a=b)&&decide (Go.Lib.compareBytes a.toList b.toList < 0)
section n
variable {N:Nat} [Q3 N]
theorem qv6 {k:Nat} (h:0 < k):(k:Int) - 1=((k - 1:Nat):Int):=by omega
theorem qG0 {k:Nat}:decide ((0:Int) < (k:Int))=!decide (k=0):=by
 by_cases h:k=0
 ·subst h; rfl
 ·rw [decide_eq_false h,decide_eq_true (by omega)]; rfl
theorem qF2 (a b:Vector UInt8 16):qeR a b=some (lbB a b):=by
 unfold qeR qfI X2 qaW qEZ lbB
 simp only [Tree.run,Option.bind_some,qwX]
 cases decide (a=b)<;>rfl
end n
theorem quj (a:Vector UInt8 16):lbB a a=false:=by unfold lbB; rw [decide_eq_true rfl]; rfl
end Go.Rx
end
set_option maxRecDepth 100000
noncomputable section
namespace Go.Rx
abbrev c32 (x:UInt32):Int:=((x.toNat:Nat):Int)
theorem qFO (x:UInt32):x.toNat < 4294967296:=x.toNat_lt
theorem qhD (n:Nat):IntKind.u32.wrap ((n:Nat):Int)=((n % 4294967296:Nat):Int):=by rw [IntKind.wrap_u32']; omega
theorem qad (x:UInt32):BitVec.ofInt 32 (c32 x)=x.toBitVec:=by
 apply BitVec.eq_of_toNat_eq
 rw [ofInt_u32 _ (qFO x)]
 rfl
theorem qnL (x:UInt32):IntKind.u32.wrap ((x.toNat:Nat):Int)=c32 x:=by rw [qhD,Nat.mod_eq_of_lt (qFO x)]
theorem qzO (x y:UInt32):K3 .u32 (c32 x) (c32 y)=c32 (x + y):=by
 unfold K3
 show IntKind.u32.wrap (((x.toNat:Nat):Int) + ((y.toNat:Nat):Int))=_
 rw [← Int.natCast_add,qhD,c32,UInt32.toNat_add]
theorem qA4 (x y:UInt32):KU .u32 (c32 x) (c32 y)=c32 (x ^^^ y):=by
 unfold KU
 rw [show IntKind.u32.bits=32 from rfl,qad,qad]
 exact qnL (x ^^^ y)
theorem qIY (x y:UInt32):qeh .u32 (c32 x) (c32 y)=c32 (x &&& y):=by
 unfold qeh
 rw [show IntKind.u32.bits=32 from rfl,qad,qad]
 exact qnL (x &&& y)
theorem qIG (x y:UInt32):uOr .u32 (c32 x) (c32 y)=c32 (x ||| y):=by
 unfold uOr
 rw [show IntKind.u32.bits=32 from rfl,qad,qad]
 exact qnL (x ||| y)
theorem qI7 (x:UInt32):KU .u32 4294967295 (c32 x)=c32 (~~~x):=by
 have h:(4294967295:Int)=c32 4294967295:=rfl
 rw [h,qA4]
 congr 2
theorem qub (x:UInt32) (n:Nat) (h:n < 32):qrT .u32 (c32 x) n=c32 (x <<< UInt32.ofNat n):=by
 unfold qrT
 rw [show c32 x * 2 ^ n=((x.toNat * 2 ^ n:Nat):Int) by push_cast; rfl,qhD,c32,UInt32.toNat_shiftLeft,UInt32.toNat_ofNat_of_lt' (show n < UInt32.size by unfold UInt32.size; omega),Nat.mod_eq_of_lt h,Nat.shiftLeft_eq]
theorem qt0 (x:UInt32) (n:Nat) (h:n < 32):ZA (c32 x) n=c32 (x >>> UInt32.ofNat n):=by
 unfold ZA
 rw [show ((2:Int) ^ n)=((2 ^ n:Nat):Int) by push_cast; rfl,Int.fdiv_eq_ediv_of_nonneg _ (Int.natCast_nonneg _),c32,← Int.natCast_ediv,c32,UInt32.toNat_shiftRight,UInt32.toNat_ofNat_of_lt' (show n < UInt32.size by unfold UInt32.size; omega),Nat.mod_eq_of_lt h,Nat.shiftRight_eq_div_pow]
theorem qtU (x:UInt32):inW (c32 x):=⟨Int.natCast_nonneg _,by have:=qFO x; show ((x.toNat:Nat):Int) < _; omega⟩
def rot (x:UInt32) (n:Nat):UInt32:=(x <<< UInt32.ofNat (32 - n)) ||| (x >>> UInt32.ofNat n)
end Go.Rx
end
set_option maxRecDepth 100000
noncomputable section
namespace Go.Rx
open Go.Proofs
theorem qIn:∀ n < 32,0 < n→qeh .u64 (IntKind.u64.wrap (0 - ((n:Nat):Int))) 31=((32 - n:Nat):Int):=by decide +kernel
theorem qHT:∀ n < 32,0 < n→qH3 .u64 (32:Int) ((32 - n:Nat):Int)=((n:Nat):Int):=by decide +kernel
theorem qd4 (x:UInt32) (n:Nat) (h:n < 32) (h0:0 < n):zX (c32 x) ((n:Nat):Int)=some (c32 (rot x n)):=by
 unfold zX qfD Vk JD
 have h64:qy (0 - ((n:Nat):Int)):=by unfold qy; omega
 simp only [run_bind,zE,qY,qn h64,qIn n h h0,qHT n h h0]
 rw [qn (show (0:Int)≤((32 - n:Nat):Int) by omega),qn (show (0:Int)≤((n:Nat):Int) by omega),Int.toNat_natCast,Int.toNat_natCast,Nat.min_eq_left (show 32 - n≤32 by omega),Nat.min_eq_left (show n≤32 by omega),qub x _ (by omega),qt0 x n h,qIG]
 rfl
abbrev wAt {n:Nat} (v:Vector UInt32 n) (k:Nat):UInt32:=v.toList.getD k 0
abbrev bAt (l:List UInt8) (k:Nat):UInt32:=(l.getD k 0).toUInt32
def qrU (b:List UInt8) (k:Nat) (w:Vector UInt32 64):Vector UInt32 64:=
 if k < 16 then w.setIfInBounds k ((bAt b (4 * k) <<< UInt32.ofNat 24) ||| (bAt b (4 * k + 1) <<< UInt32.ofNat 16) ||| (bAt b (4 * k + 2) <<< UInt32.ofNat 8) ||| bAt b (4 * k + 3))
 else w.setIfInBounds k (wAt w (k - 16) + wAt w (k - 7) + (rot (wAt w (k - 15)) 7 ^^^ rot (wAt w (k - 15)) 18 ^^^ (wAt w (k - 15) >>> UInt32.ofNat 3)) + (rot (wAt w (k - 2)) 17 ^^^ rot (wAt w (k - 2)) 19 ^^^ (wAt w (k - 2) >>> UInt32.ofNat 10)))
def qom (b:List UInt8):Vector UInt32 64:=J9 (qrU b) 64 0 (Vector.replicate 64 0)
theorem qIK (c:UInt8):IntKind.u32.wrap ((c.toNat:Nat):Int)=c32 c.toUInt32:=by
 rw [qhD,Nat.mod_eq_of_lt (by have:=c.toNat_lt; omega),c32,UInt8.toNat_toUInt32]
theorem qH2 {N:Nat} {o:Vector UInt32 64} {b:List UInt8} {w:Vector UInt32 64} {k:Nat} (hb:b.length=64) (hk:k < 16):(vQ N o b (w,(k:Int))).run some=some (.inl (qrU b k w,((k + 1:Nat):Int))):=by
 have g:∀ j < 4,zr b ((4:Int) * (k:Int) + ((j:Nat):Int))=some (b.getD (4 * k + j) 0):=fun j hj=>by
  rw [show (4:Int) * (k:Int) + ((j:Nat):Int)=((4 * k + j:Nat):Int) by omega]; exact vL (by omega)
 have g0:zr b ((4:Int) * (k:Int))=some (b.getD (4 * k) 0):=by have:=g 0 (by omega); simpa using this
 have g1:zr b ((4:Int) * (k:Int) + 1)=some (b.getD (4 * k + 1) 0):=g 1 (by omega)
 have g2:zr b ((4:Int) * (k:Int) + 2)=some (b.getD (4 * k + 2) 0):=g 2 (by omega)
 have g3:zr b ((4:Int) * (k:Int) + 3)=some (b.getD (4 * k + 3) 0):=g 3 (by omega)
 have c0:qy ((4:Int) * (k:Int)):=by unfold qy; omega
 have c1:qy ((4:Int) * (k:Int) + 1):=by unfold qy; omega
 have c2:qy ((4:Int) * (k:Int) + 2):=by unfold qy; omega
 have c3:qy ((4:Int) * (k:Int) + 3):=by unfold qy; omega
 have c4:qy ((k:Int) + 1):=by unfold qy; omega
 have d1:decide ((k:Int) < 64)=true:=decide_eq_true (by omega)
 have d2:decide ((k:Int) < 16)=true:=decide_eq_true (by omega)
 have p8:(0:Int)≤8:=by omega
 have p16:(0:Int)≤16:=by omega
 have p24:(0:Int)≤24:=by omega
 have pk:(0:Int)≤(k:Int)∧(k:Int) < ((64:Nat):Int):=by omega
 have pk2:k < 64:=by omega
 unfold vQ qrU
 rw [if_pos hk]
 simp only [qO,run_bind,zE,qY,d1,d2,cond_true,qn c0,qn c1,qn c2,qn c3,g0,g1,g2,g3,Option.bind_some,qn p8,qn p16,qn p24,qIK,qub _ 24 (by omega),qub _ 16 (by omega),qub _ 8 (by omega),qIG,qn (qtU _),qn pk,UInt32.ofNat_toNat,Int.toNat_natCast,qn pk2,qn c4]
 rw [zG]
theorem qIi {N:Nat} {o:Vector UInt32 64} {b:List UInt8} {w:Vector UInt32 64} {k:Nat} (h1:¬ k < 16) (hk:k < 64):(vQ N o b (w,(k:Int))).run some=some (.inl (qrU b k w,((k + 1:Nat):Int))):=by
 have c4:qy ((k:Int) + 1):=by unfold qy; omega
 have d1:decide ((k:Int) < 64)=true:=decide_eq_true (by omega)
 have d2:decide ((k:Int) < 16)=false:=decide_eq_false (by omega)
 have e15:(k:Int) - 15=((k - 15:Nat):Int):=by omega
 have e2:(k:Int) - 2=((k - 2:Nat):Int):=by omega
 have e16:(k:Int) - 16=((k - 16:Nat):Int):=by omega
 have e7:(k:Int) - 7=((k - 7:Nat):Int):=by omega
 have i15:qy (((k - 15:Nat)):Int):=by unfold qy; omega
 have i2:qy (((k - 2:Nat)):Int):=by unfold qy; omega
 have i16:qy (((k - 16:Nat)):Int):=by unfold qy; omega
 have i7:qy (((k - 7:Nat)):Int):=by unfold qy; omega
 have p15:(0:Int)≤((k - 15:Nat):Int)∧((k - 15:Nat):Int) < ((64:Nat):Int):=by omega
 have p2:(0:Int)≤((k - 2:Nat):Int)∧((k - 2:Nat):Int) < ((64:Nat):Int):=by omega
 have p16:(0:Int)≤((k - 16:Nat):Int)∧((k - 16:Nat):Int) < ((64:Nat):Int):=by omega
 have p7:(0:Int)≤((k - 7:Nat):Int)∧((k - 7:Nat):Int) < ((64:Nat):Int):=by omega
 have q15:k - 15 < 64:=by omega
 have q2:k - 2 < 64:=by omega
 have q16:k - 16 < 64:=by omega
 have q7:k - 7 < 64:=by omega
 have p3:(0:Int)≤3:=by omega
 have p10:(0:Int)≤10:=by omega
 have pk:(0:Int)≤(k:Int)∧(k:Int) < ((64:Nat):Int):=by omega
 have r7:=fun x=>qd4 x 7 (by omega) (by omega)
 have r18:=fun x=>qd4 x 18 (by omega) (by omega)
 have r17:=fun x=>qd4 x 17 (by omega) (by omega)
 have r19:=fun x=>qd4 x 19 (by omega) (by omega)
 unfold vQ qrU
 rw [if_neg h1]
 simp only [qO,run_bind,zE,qY,d1,d2,cond_true,cond_false]
 rw [e15,e2,e16,e7]
 rw [qn i15,qn p15,Int.toNat_natCast,qn q15,qn i2,qn p2,Int.toNat_natCast,qn q2,qn i16,qn p16,Int.toNat_natCast,qn q16,qn i7,qn p7,Int.toNat_natCast,qn q7]
 show (Option.bind (zX (c32 (wAt w (k - 15))) ((7:Nat):Int)) _)=_
 rw [r7,Option.bind_some]
 show (Option.bind (zX (c32 (wAt w (k - 15))) ((18:Nat):Int)) _)=_
 rw [r18,Option.bind_some,qn p3]
 show (Option.bind (zX (c32 (wAt w (k - 2))) ((17:Nat):Int)) _)=_
 rw [r17,Option.bind_some]
 show (Option.bind (zX (c32 (wAt w (k - 2))) ((19:Nat):Int)) _)=_
 rw [r19,Option.bind_some,qn p10,qn pk]
 simp only [qA4,qzO,qt0 _ 3 (by omega),qt0 _ 10 (by omega),qn (qtU _),Int.toNat_natCast,UInt32.ofNat_toNat,qn hk,qn c4]
 rw [zG]
theorem qFH {N:Nat} {b:List UInt8} (hN:64 < N) (hb:b.length=64):qaZ N b=some (qom b):=by
 have key:qbf N (Vector.replicate 64 0) b (Vector.replicate 64 0) 0=some (qom b,(64:Int),false):=by
  refine (Zy (σ:=Vector UInt32 64) (B:=vQ N (Vector.replicate 64 0) b) (g:=some) (at_:=fun k s=>(s,(k:Int))) (I:=fun _ _=>True) (f:=qrU b) (n:=64)
   (fin:=fun s=>(s,(64:Int),false)) (fun k s hk _=>⟨?_,trivial⟩) (fun s _=>?_) N 0 (Vector.replicate 64 0) trivial (Nat.zero_le _) (by omega))
  ·by_cases h:k < 16
   ·exact qH2 hb h
   ·exact qIi h hk
  ·unfold vQ
   rfl
 unfold qaZ qbx
 rw [run_bind,key,Option.bind_some,qY]
def tW (K w:Vector UInt32 64) (i:Nat) (x:Vector UInt32 8):UInt32:=wAt x 7 + (rot (wAt x 4) 6 ^^^ rot (wAt x 4) 11 ^^^ rot (wAt x 4) 25) + ((wAt x 4 &&& wAt x 5) ^^^ (~~~(wAt x 4) &&& wAt x 6)) + wAt K i + wAt w i
def uW (x:Vector UInt32 8):UInt32:=(rot (wAt x 0) 2 ^^^ rot (wAt x 0) 13 ^^^ rot (wAt x 0) 22) + ((wAt x 0 &&& wAt x 1) ^^^ (wAt x 0 &&& wAt x 2) ^^^ (wAt x 1 &&& wAt x 2))
def qus (K w:Vector UInt32 64) (i:Nat) (x:Vector UInt32 8):Vector UInt32 8:=
 ((XZ x 1 7).setIfInBounds 0 (tW K w i x + uW x)).setIfInBounds 4 (wAt ((XZ x 1 7).setIfInBounds 0 (tW K w i x + uW x)) 4 + tW K w i x)
def qzL (x:Vector UInt32 8) (k:Nat) (s:Vector UInt32 8):Vector UInt32 8:=s.setIfInBounds k (wAt s k + wAt x k)
def qt2 (s:Vector UInt32 8) (K:Vector UInt32 64) (b:List UInt8):Vector UInt32 8:=J9 (qzL (J9 (qus K (qom b)) 64 0 s)) 8 0 s
theorem qIj {N:Nat} {s:Vector UInt32 8} {K w:Vector UInt32 64} {x:Vector UInt32 8} {k:Nat} (hk:k < 64):(Zf N s K w (x,(k:Int))).run some=some (.inl (qus K w k x,((k + 1:Nat):Int))):=by
 have c4:qy ((k:Int) + 1):=by unfold qy; omega
 have d1:decide ((k:Int) < 64)=true:=decide_eq_true (by omega)
 have pk:(0:Int)≤(k:Int)∧(k:Int) < ((64:Nat):Int):=by omega
 have hj:∀ j < 8,(0:Int)≤((j:Nat):Int)∧((j:Nat):Int) < ((8:Nat):Int):=fun j hj=>by omega
 have j0:(0:Int)≤(0:Int)∧(0:Int) < ((8:Nat):Int):=hj 0 (by omega)
 have j1:(0:Int)≤(1:Int)∧(1:Int) < ((8:Nat):Int):=hj 1 (by omega)
 have j2:(0:Int)≤(2:Int)∧(2:Int) < ((8:Nat):Int):=hj 2 (by omega)
 have j4:(0:Int)≤(4:Int)∧(4:Int) < ((8:Nat):Int):=hj 4 (by omega)
 have j5:(0:Int)≤(5:Int)∧(5:Int) < ((8:Nat):Int):=hj 5 (by omega)
 have j6:(0:Int)≤(6:Int)∧(6:Int) < ((8:Nat):Int):=hj 6 (by omega)
 have j7:(0:Int)≤(7:Int)∧(7:Int) < ((8:Nat):Int):=hj 7 (by omega)
 have n0:0 < 8:=by omega
 have n1:1 < 8:=by omega
 have n2:2 < 8:=by omega
 have n4:4 < 8:=by omega
 have n5:5 < 8:=by omega
 have n6:6 < 8:=by omega
 have n7:7 < 8:=by omega
 have r:=fun x n h h0=>qd4 x n h h0
 unfold Zf qus tW uW
 rw [qO,d1,cond_true]
 simp only [run_bind,zE,qY]
 rw [qn j0,qn n0,qn j4,qn n4,qn j7,qn n7]
 show (Option.bind (zX (c32 (wAt x 4)) ((6:Nat):Int)) _)=_
 rw [r _ 6 (by omega) (by omega),Option.bind_some]
 show (Option.bind (zX (c32 (wAt x 4)) ((11:Nat):Int)) _)=_
 rw [r _ 11 (by omega) (by omega),Option.bind_some]
 show (Option.bind (zX (c32 (wAt x 4)) ((25:Nat):Int)) _)=_
 rw [r _ 25 (by omega) (by omega),Option.bind_some,qn j5,qn n5,qn j6,qn n6,qn pk,Int.toNat_natCast,qn hk]
 rw [qn pk,qn hk]
 show (Option.bind (zX (c32 (wAt x 0)) ((2:Nat):Int)) _)=_
 rw [r _ 2 (by omega) (by omega),Option.bind_some]
 show (Option.bind (zX (c32 (wAt x 0)) ((13:Nat):Int)) _)=_
 rw [r _ 13 (by omega) (by omega),Option.bind_some]
 show (Option.bind (zX (c32 (wAt x 0)) ((22:Nat):Int)) _)=_
 rw [r _ 22 (by omega) (by omega),Option.bind_some]
 rw [qn j1,qn n1,qn j2,qn n2,qn j1,qn n1,qn j2,qn n2,qn j0]
 simp only [qA4,qIY,qI7,qzO,qn (qtU _),Int.toNat_natCast,UInt32.ofNat_toNat,qn n0,qn j4,qn n4,qn c4]
 rw [zG]
theorem qza {N:Nat} {s:Vector UInt32 8} {K:Vector UInt32 64} {b:List UInt8} (hN:64 < N) (hb:b.length=64):VX N s K b=some (qt2 s K b):=by
 have k1:Y5 N s K (qom b) s 0=some (J9 (qus K (qom b)) 64 0 s,(64:Int),false):=by
  refine (Zy (σ:=Vector UInt32 8) (B:=Zf N s K (qom b)) (g:=some) (at_:=fun k s=>(s,(k:Int))) (I:=fun _ _=>True) (f:=qus K (qom b)) (n:=64)
   (fin:=fun s=>(s,(64:Int),false)) (fun k x hk _=>⟨qIj hk,trivial⟩) (fun x _=>?_) N 0 s trivial (Nat.zero_le _) (by omega))
  unfold Zf
  rfl
 have k2:∀ x:Vector UInt32 8,WT N K x s 0=some (J9 (qzL x) 8 0 s,(8:Int),false):=fun x=>by
  refine (Zy (σ:=Vector UInt32 8) (B:=Jf N K x) (g:=some) (at_:=fun k s=>(s,(k:Int))) (I:=fun _ _=>True) (f:=qzL x) (n:=8)
   (fin:=fun s=>(s,(8:Int),false)) (fun k y hk _=>⟨?_,trivial⟩) (fun y _=>?_) N 0 s trivial (Nat.zero_le _) (by omega))
  ·have c4:qy ((k:Int) + 1):=by unfold qy; omega
   have d1:decide ((k:Int) < 8)=true:=decide_eq_true (by omega)
   have pk:(0:Int)≤(k:Int)∧(k:Int) < ((8:Nat):Int):=by omega
   unfold Jf qzL
   simp only [qO,run_bind,zE,qY,d1,cond_true]
   rw [qn pk,Int.toNat_natCast,qn hk,qn pk,qn hk,qn pk]
   simp only [qzO,qn (qtU _),Int.toNat_natCast,UInt32.ofNat_toNat,qn hk,qn c4]
   rw [zG]
  ·unfold Jf
   rfl
 unfold VX K0
 rw [run_bind,qFH hN hb,Option.bind_some,run_bind,k1,Option.bind_some,run_bind,k2,Option.bind_some,qY]
 rfl
end Go.Rx
end
set_option maxRecDepth 100000
noncomputable section
namespace Go.Rx
open Go.Proofs
def qJg:Vector UInt32 8:=#v[1779033703,3144134277,1013904242,2773480762,1359893119,2600822924,528734635,1541459225]
def qJc:Vector UInt32 64:=#v[1116352408,1899447441,3049323471,3921009573,961987163,1508970993,2453635748,2870763221,
 3624381080,310598401,607225278,1426881987,1925078388,2162078206,2614888103,3248222580,
 3835390401,4022224774,264347078,604807628,770255983,1249150122,1555081692,1996064986,
 2554220882,2821834349,2952996808,3210313671,3336571891,3584528711,113926993,338241895,
 666307205,773529912,1294757372,1396182291,1695183700,1986661051,2177026350,2456956037,
 2730485921,2820302411,3259730800,3345764771,3516065817,3600352804,4094571909,275423344,
 430227734,506948616,659060556,883997877,958139571,1322822218,1537002063,1747873779,
 1955562222,2024104815,2227730452,2361852424,2428436474,2756734187,3204031479,3329325298]
def Wi (L:Nat):Nat:=(119 - L % 64) % 64
theorem qwh (n:Int):inB (IntKind.u8.wrap n):=by
 unfold inB
 have:IntKind.u8.wrap n=n % 256:=by simp [IntKind.wrap,IntKind.bits,IntKind.signed]
 rw [this]; omega
theorem qFr (a b:Nat):((a:Nat):Int).tmod ((b:Nat):Int)=((a % b:Nat):Int):=rfl
theorem qF1 (a b:Nat):((a:Nat):Int).tdiv ((b:Nat):Int)=((a / b:Nat):Int):=rfl
theorem qAT {n k:Nat} (h:k≤2000000000):Vh n n k 1:=⟨rfl,by unfold zh; omega⟩
theorem qIs {N:Nat} {o:Vector UInt8 32} {b:List UInt8} (hb:b.length≤1000000000) (hN:64 < N):qdC N o b (b++[128])=some (b++[128]++List.replicate (Wi b.length) 0,false):=by
 have hz:Wi b.length < 64:=Nat.mod_lt _ (by omega)
 have h56:(b.length + 1 + Wi b.length) % 64=56:=by unfold Wi; omega
 have hlen:∀ k,(b++[128]++List.replicate k (0:UInt8)).length=b.length + 1 + k:=fun k=>by simp; omega
 have hne:∀ k,k < Wi b.length→(b.length + 1 + k) % 64≠56:=fun k hk=>by unfold Wi at *; omega
 have e0:qdC N o b (b++[128])=q8 (WH N o b) some N (b++[128]++List.replicate 0 (0:UInt8)):=by rw [List.replicate_zero,List.append_nil]; rfl
 rw [e0]
 refine (Zy (σ:=Unit) (B:=WH N o b) (g:=some) (at_:=fun k _=>b++[128]++List.replicate k (0:UInt8)) (I:=fun _ _=>True) (f:=fun _ s=>s) (n:=Wi b.length)
  (fin:=fun _=>(b++[128]++List.replicate (Wi b.length) 0,false)) (fun k s hk _=>⟨?_,trivial⟩) (fun s _=>?_) N 0 () trivial (Nat.zero_le _) (by omega))
 ·unfold WH
  have c1:(64:Int)≠0:=by omega
  have e:decide ((((b++[128]++List.replicate k (0:UInt8)).length:Nat):Int).tmod 64=56)=false:=decide_eq_false (by
   rw [hlen]
   have:=hne k hk
   show ¬ (((b.length + 1 + k) % 64:Nat):Int)=56
   omega)
  have c2:Vh (b++[128]++List.replicate k (0:UInt8)).length (b++[128]++List.replicate k (0:UInt8)).length ((b++[128]++List.replicate k (0:UInt8))++[UInt8.ofNat 0]).length 1:=qAT (by rw [List.length_append,hlen]; simp; omega)
  rw [zE,qn c1,qO,e,Bool.not_false,cond_true,zE,qn c2,qY]
  rw [List.replicate_succ',← List.append_assoc]
  rfl
 ·unfold WH
  have c1:(64:Int)≠0:=by omega
  have e:decide ((((b++[128]++List.replicate (Wi b.length) (0:UInt8)).length:Nat):Int).tmod 64=56)=true:=decide_eq_true (by
   rw [hlen]
   show (((b.length + 1 + Wi b.length) % 64:Nat):Int)=56
   omega)
  rw [zE,qn c1,qO,e,Bool.not_true,cond_false,qY]
def qFz (L k:Nat):UInt8:=UInt8.ofNat (IntKind.u8.wrap (ZA (qIO .u64 (IntKind.u64.wrap ((L:Nat):Int)) 8) (min ((8:Int) * ((7:Int) - (k:Int))).toNat 64))).toNat
def qir (L k:Nat) (l:List UInt8):List UInt8:=l++[qFz L k]
theorem qu_ {L:Nat}:∀ (m k:Nat) (l:List UInt8),(J9 (qir L) m k l).length=l.length + m
 | 0,_,_=>rfl
 | m + 1,k,l=>by
  show (J9 (qir L) m (k + 1) (qir L k l)).length=_
  rw [qu_ m]; unfold qir; rw [List.length_append]; simp; omega
theorem qG3 {N:Nat} {o:Vector UInt8 32} {b l:List UInt8} (hl:l.length≤1500000000) (hN:64 < N):qiG N o b l 0=some (J9 (qir b.length) 8 0 l,(8:Int),false):=by
 refine (Zy (σ:=List UInt8) (B:=qaM N o b) (g:=some) (at_:=fun k s=>(s,(k:Int))) (I:=fun k s=>s.length=l.length + k) (f:=qir b.length) (n:=8)
  (fin:=fun s=>(s,(8:Int),false)) (fun k s hk hs=>⟨?_,?_⟩) (fun s _=>?_) N 0 l rfl (Nat.zero_le _) (by omega))
 ·have d1:decide ((k:Int) < 8)=true:=decide_eq_true (by omega)
  have c1:qy ((7:Int) - (k:Int)):=by unfold qy; omega
  have c2:qy ((8:Int) * ((7:Int) - (k:Int))):=by unfold qy; omega
  have c3:(0:Int)≤(8:Int) * ((7:Int) - (k:Int)):=by omega
  have c4:qy ((k:Int) + 1):=by unfold qy; omega
  have c5:Vh s.length s.length (s++[qFz b.length k]).length 1:=qAT (by rw [List.length_append,hs]; simp; omega)
  unfold qaM
  rw [qO,d1,cond_true]
  simp only [zE,qY]
  rw [qn c1,qn c2,qn c3,qn (qwh _)]
  show chk (Vh s.length s.length (s++[qFz b.length k]).length 1) _=_
  rw [qn c5,qn c4,zG]
  rfl
 ·unfold qir; rw [List.length_append,hs]; simp; omega
 ·unfold qaM
  rfl
def chF (K:Vector UInt32 64):Nat→Vector UInt32 8→List UInt8→Vector UInt32 8
 | 0,s,_=>s
 | m + 1,s,l=>chF K m (qt2 s K (l.take 64)) (l.drop 64)
theorem qGJ {N : Nat} {o : List UInt8} {o2 : Vector UInt8 32} {o3 : Vector UInt32 8} {K : Vector UInt32 64} (hN : 64 < N) : ∀ (m n : Nat) (s : Vector UInt32 8) (l : List UInt8), l.length = 64 * m → m < n →
    q8 (Xk N o o2 o3 K) some n (s,l)=some (.inr (chF K m s l,[],false))
 | 0,n + 1,s,l,hl,_=>by
  have:l=[]:=List.length_eq_zero_iff.1 (by omega)
  subst this
  exact zL (by unfold Xk; rfl) n
 | m + 1,n + 1,s,l,hl,hn=>by
  have d1:decide ((0:Int) < ((l.length:Nat):Int))=true:=decide_eq_true (by omega)
  have c1:(0:Int)≤0∧(0:Int)≤64∧(64:Int)≤((l.length:Nat):Int):=by omega
  have c2:(0:Int)≤64∧(64:Int)≤((l.length:Nat):Int):=by omega
  have ht:((l.take 64).drop 0).length=64:=by rw [List.drop_zero,List.length_take]; omega
  rw [Jl (v':=(qt2 s K (l.take 64),l.drop 64)) (by
   unfold Xk
   rw [qO,d1,cond_true,zE,qn c1,run_bind,qza hN ht,Option.bind_some,zE,qn c2,qY,List.drop_zero]) n]
  exact qGJ hN m n _ _ (by rw [List.length_drop]; omega) (by omega)
 | _,0,_,_,_,hn=>by omega
theorem qCf {N m : Nat} {all : List UInt8} {o2 : Vector UInt8 32} {s : Vector UInt32 8} {K : Vector UInt32 64} (hN : 64 < N) (hm : m + 1 < N) (hl : all.length = 64 * (m + 1)) :
    Kn N all o2 s K=some (.inr (chF K (m + 1) s all,[],false)):=by
 have d1:decide ((0:Int) < ((all.length:Nat):Int))=true:=decide_eq_true (by omega)
 have c1:(0:Int)≤0∧(0:Int)≤64∧(64:Int)≤((all.length:Nat):Int):=by omega
 have c2:(0:Int)≤64∧(64:Int)≤((all.length:Nat):Int):=by omega
 have ht:((all.take 64).drop 0).length=64:=by rw [List.drop_zero,List.length_take]; omega
 have hrun:(KL N all o2 s K ()).run some=some (.inr (.inl (qt2 s K (all.take 64),all.drop 64))):=by
  unfold KL
  rw [qO,d1,cond_true,zE,qn c1,zE,qn rfl,run_bind,qza hN ht,Option.bind_some,zE,qn c2,zE,qn rfl,qY,List.drop_zero]
 obtain ⟨N',rfl⟩:∃ N',N=N' + 1:=⟨N - 1,by omega⟩
 have e:Kn (N' + 1) all o2 s K=q8 (KL (N' + 1) all o2 s K) (qc2 (N' + 1) (N' + 1) (all,o2,s,K)) (N' + 1) ():=rfl
 rw [e,zL hrun]
 exact qGJ (o:=all) (o2:=o2) (o3:=s) hN m (N' + 1) _ _ (by rw [List.length_drop]; omega) (by omega)
def qIa (s:Vector UInt32 8) (k:Nat):UInt8:=UInt8.ofNat (IntKind.u8.wrap (c32 (wAt s (k / 4) >>> UInt32.ofNat (24 - 8 * (k % 4))))).toNat
def qFC (s:Vector UInt32 8) (k:Nat) (o:Vector UInt8 32):Vector UInt8 32:=o.setIfInBounds k (qIa s k)
def qIl (s:Vector UInt32 8):Vector UInt8 32:=J9 (qFC s) 32 0 (Vector.replicate 32 0)
theorem qIv {N:Nat} {o:Vector UInt8 32} {s:Vector UInt32 8} (hN:64 < N):qb5 N o s (Vector.replicate 32 0) 0=some (qIl s,(32:Int),false):=by
 refine (Zy (σ:=Vector UInt8 32) (B:=KI N o s) (g:=some) (at_:=fun k s=>(s,(k:Int))) (I:=fun _ _=>True) (f:=qFC s) (n:=32)
  (fin:=fun s=>(s,(32:Int),false)) (fun k x hk _=>⟨?_,trivial⟩) (fun x _=>?_) N 0 (Vector.replicate 32 0) trivial (Nat.zero_le _) (by omega))
 ·have d1:decide ((k:Int) < 32)=true:=decide_eq_true (by omega)
  have e1:(k:Int).tdiv 4=((k / 4:Nat):Int):=qF1 k 4
  have e2:(k:Int).tmod 4=((k % 4:Nat):Int):=qFr k 4
  have h4:(4:Int)≠0:=by omega
  have c1:qy (((k / 4:Nat)):Int):=by unfold qy; omega
  have c2:(0:Int)≤((k / 4:Nat):Int)∧((k / 4:Nat):Int) < ((8:Nat):Int):=by omega
  have c3:k / 4 < 8:=by omega
  have c4:qy ((8:Int) * ((k % 4:Nat):Int)):=by unfold qy; omega
  have e3:(24:Int) - (8:Int) * ((k % 4:Nat):Int)=((24 - 8 * (k % 4):Nat):Int):=by omega
  have c5:qy ((24 - 8 * (k % 4):Nat):Int):=by unfold qy; omega
  have c6:(0:Int)≤((24 - 8 * (k % 4):Nat):Int):=by omega
  have c7:(0:Int)≤(k:Int)∧(k:Int) < ((32:Nat):Int):=by omega
  have c8:qy ((k:Int) + 1):=by unfold qy; omega
  unfold KI qFC qIa
  rw [qO,d1,cond_true]
  simp only [zE,qY]
  rw [e1,e2,e3,qn h4,qn c1,qn c2,Int.toNat_natCast,qn c3,qn h4,qn c4,qn c5,qn c6,qn c7,qn (qwh _),Int.toNat_natCast,qn hk,qn c8,Int.toNat_natCast,Nat.min_eq_left (show 24 - 8 * (k % 4)≤32 by omega)]
  rw [zG]
  show some (Sum.inl (x.setIfInBounds k (UInt8.ofNat (IntKind.u8.wrap (ZA (c32 (wAt s (k / 4))) (24 - 8 * (k % 4)))).toNat),_))=_
  rw [qt0 _ _ (by omega)]
 ·unfold KI
  rfl
def qnG (b:List UInt8):List UInt8:=J9 (qir b.length) 8 0 (b++[128]++List.replicate (Wi b.length) 0)
def JQ (b:List UInt8):Vector UInt8 32:=qIl (chF qJc ((qnG b).length / 64) qJg (qnG b))
theorem qHr (b:List UInt8):∃ m,(qnG b).length=64 * (m + 1)∧m≤b.length:=by
 have h:(qnG b).length=b.length + 1 + Wi b.length + 8:=by unfold qnG; rw [qu_]; simp; omega
 rw [h]
 refine ⟨(b.length + 1 + Wi b.length + 8) / 64 - 1,?_,?_⟩
 ·unfold Wi; omega
 ·unfold Wi; omega
theorem qGH {l:List UInt8} (h:l.length≤1000000000):VE l=some ():=by
 unfold VE
 cases l with
 | nil=>kernel_rfl
 | cons x r=>
  show qfX (x::r)=_
  unfold qfX qcI
  have h2:Vh ([]:List UInt8).length 0 ([]++x::r).length 1:=⟨rfl,by rw [List.nil_append]; unfold zh; omega⟩
  rw [zE,qn (List.isEmpty_cons),zE,qn h2,qY]
theorem qj5 {Z:Type} {a:Nat} {o:Option Z}:j8 [(a,a)] o=o:=(jH rfl).trans (qDz o)
theorem qGk:qlW=some ():=by kernel_rfl
theorem qEx:qlV=some ():=by kernel_rfl
theorem qIC {N:Nat} {b:List UInt8} (hb:b.length≤1000000000) (hN:b.length + 100 < N):qdM N b=some (JQ b):=by
 obtain ⟨m,hm,hmb⟩:=qHr b
 have c1:Vh (([]:List UInt8)++b).length (([]:List UInt8)++b).length ((([]:List UInt8)++b)++[UInt8.ofNat 128]).length 1:=qAT (by rw [List.nil_append,List.length_append]; simp; omega)
 have hpad:=qIs (N:=N) (o:=Vector.replicate 32 0) hb (by omega)
 have hlen:=qG3 (N:=N) (o:=Vector.replicate 32 0) (b:=b) (l:=b++[128]++List.replicate (Wi b.length) 0) (by have:Wi b.length < 64:=Nat.mod_lt _ (by omega); simp; omega) (by omega)
 have hch:∀ (s:Vector UInt32 8) (K:Vector UInt32 64),Kn N (J9 (qir b.length) 8 0 (b++[128]++List.replicate (Wi b.length) 0)) (Vector.replicate 32 0) s K=some (.inr (chF K (m + 1) s (qnG b),[],false)):=fun s K=>qCf (by omega) (by omega) hm
 have hd:(qnG b).length / 64=m + 1:=by rw [hm]; omega
 have e1:(([]:List UInt8)++b)++[UInt8.ofNat 128]=b++[128]:=rfl
 unfold qdM qkS JQ
 rw [run_bind,qGH hb,Option.bind_some,zE,qn c1,run_bind,e1,qj5,hpad,Option.bind_some]
 dsimp only
 rw [run_bind,qj5,hlen,Option.bind_some]
 dsimp only
 rw [run_bind,qGk,Option.bind_some,run_bind,qEx,Option.bind_some,run_bind,qj5,hch,Option.bind_some,qEo,run_bind,qIv (by omega),Option.bind_some,qY,hd]
 rfl
end Go.Rx
end
set_option maxRecDepth 100000
noncomputable section
namespace Go.Rx
open Go.Proofs
section n
variable {N:Nat} [Q3 N]
def YS (c:qc):Bool:=!decide (c.S=zSt)&&(stB c.S&&decide (c.V.length≤200))
theorem qHk (c:qc):KR c=some (YS c):=by
 unfold KR qiW YS
 have e:eqE ql c.S (qe.mk 0 0)=decide (c.S=zSt):=qet _ _
 have e2:decide (((c.V.length:Nat):Int)≤200)=decide (c.V.length≤200):=decide_eq_decide.2 (by omega)
 rw [qO,e,run_bind,qiK,Option.bind_some,qO,qY,e2,qY]
 cases decide (c.S=zSt)<;>cases stB c.S<;>rfl
end n
end Go.Rx
end
set_option maxRecDepth 100000
noncomputable section
namespace Go.Rx
open Go.Proofs
abbrev zF:qd:=qd.mk 0 (qc.mk zSt [])
abbrev zR:qa:=qa.mk (Vector.replicate 16 0) zSt []
def qk7 (l:List qd) (dead:qe) (k:Nat):Bool:=
 (if k=0 then decide (0≤(l.getD k zF).No) else decide ((l.getD (k - 1) zF).No < (l.getD k zF).No))&&(!decide (8≤(l.getD k zF).No)&&(YS (l.getD k zF).C&&slB dead (l.getD k zF).C.S))
def jM (r:qa):Bool:=stB r.zi&&(!(decide (r.F.length=0)&&decide (r.zi=zSt))&&Z3 (qk7 r.F r.zi) r.F.length)
def quI (l:List qa) (k:Nat):Bool:=jM (l.getD k zR)&&(decide (k=0)||lbB (l.getD (k - 1) zR).ID (l.getD k zR).ID)
def zQ (b:qf):Bool:=Z3 (quI b.R) b.R.length&&decide (b.R.length≤10)
section n
variable {N:Nat} [Q3 N]
theorem qGo {f : qd} {dead : qe} {k : Nat} (h64 : qy ((k : Int) + 1)) :
    (Tree.cond (decide (((8:Int))≤(qd.No f))) (.ret (.inr (.inl ())))
     (Tree.bind (KR (qd.C f)) fun r2=>Tree.cond (!r2) (.ret (.inr (.inl ())))
      (Tree.bind (QL N dead (qc.S (qd.C f))) fun r3=>Tree.cond (!r3) (.ret (.inr (.inl ())))
       (Tree.chk (qy ((k:Int) + 1)) (.ret (.inl ((k:Int) + 1):Int⊕(Unit⊕(Int×Bool)))))))).run some =
    some (if (!decide (8≤f.No)&&(YS f.C&&slB dead f.C.S))=true then .inl ((k:Int) + 1) else .inr (.inl ())):=by
 rw [qO,qY,run_bind,qHk,Option.bind_some,qO,qY,run_bind,qcE,Option.bind_some,qO,qY,zE,qn h64,qY]
 cases decide (8≤f.No)<;>cases YS f.C<;>cases slB dead f.C.S<;>rfl
theorem qHX {r : qa} (hN : r.F.length < N) (h62 : r.F.length ≤ 4611686018427387904) :
    qdp N r r.F ((r.F.length:Nat):Int) 0=some (if Z3 (qk7 r.F r.zi) r.F.length then .inr (((r.F.length:Nat):Int),false) else .inl ()):=by
 refine qax (B:=qaK N r r.F ((r.F.length:Nat):Int)) (g:=some) (q:=qk7 r.F r.zi) (fun k hk=>?_) ?_ hN
 ·have h64:qy ((k:Int) + 1):=by unfold qy; omega
  have ht:=qGo (N:=N) (f:=r.F.getD k zF) (dead:=r.zi) h64
  unfold qaK
  rw [qO,dec_lt hk,cond_true,run_bind,vL (d:=zF) hk,Option.bind_some,← zG]
  unfold qk7
  by_cases h0:k=0
  ·have d0:decide ((k:Int)=0)=true:=decide_eq_true (by omega)
   rw [qO,d0,cond_true,if_pos h0,qO]
   by_cases h1:(0:Int)≤(r.F.getD k zF).No
   ·rw [decide_eq_true h1,cond_true,ht,Bool.true_and]
   ·have d1:decide ((0:Int) < (k:Int))=false:=decide_eq_false (by omega)
    rw [decide_eq_false h1,cond_false,qO,d1,cond_false,qY]
    rfl
  ·have d0:decide ((k:Int)=0)=false:=decide_eq_false (by omega)
   have d1:decide ((0:Int) < (k:Int))=true:=decide_eq_true (by omega)
   have hp:qy ((k:Int) - 1):=by unfold qy; omega
   have hk1:k - 1 < r.F.length:=by omega
   rw [qO,d0,cond_false,if_neg h0,qO,d1,cond_true,zE,qn hp,run_bind,qv6 (Nat.pos_of_ne_zero h0),vL (d:=zF) hk1,Option.bind_some,qO]
   by_cases h2:(r.F.getD (k - 1) zF).No < (r.F.getD k zF).No
   ·rw [decide_eq_true h2,Bool.not_true,cond_false,ht,Bool.true_and]
   ·rw [decide_eq_false h2,Bool.not_false,cond_true,qY]
    rfl
 ·unfold qaK
  rw [qO,jy (Nat.lt_irrefl _),cond_false,qY]
theorem qmt {r:qa} (hN:r.F.length < N) (h62:r.F.length≤4611686018427387904):qbI N r=some (jM r):=by
 have e0:eqE ql r.zi (qe.mk 0 0)=decide (r.zi=zSt):=qet _ _
 have d0:decide (((r.F.length:Nat):Int)=0)=decide (r.F.length=0):=decide_eq_decide.2 (by omega)
 unfold qbI qlu jM
 rw [run_bind,qiK,Option.bind_some,qO,qY,qO,d0,qO,e0,qY,run_bind,qHX hN h62,Option.bind_some]
 cases stB r.zi<;>cases decide (r.F.length=0)<;>cases decide (r.zi=zSt)<;>cases Z3 (qk7 r.F r.zi) r.F.length<;>rfl
theorem qHF {b : qf} (hN : b.R.length < N) (h62 : b.R.length ≤ 4611686018427387904) (hF : ∀ k, k < b.R.length → (b.R.getD k zR).F.length < N ∧ (b.R.getD k zR).F.length ≤ 4611686018427387904) :
    qf4 N b b.R ((b.R.length:Nat):Int) 0=some (if Z3 (quI b.R) b.R.length then .inr (((b.R.length:Nat):Int),false) else .inl ()):=by
 refine qax (B:=KH N b b.R ((b.R.length:Nat):Int)) (g:=some) (q:=quI b.R) (fun k hk=>?_) ?_ hN
 ·have h64:qy ((k:Int) + 1):=by unfold qy; omega
  unfold KH
  rw [qO,dec_lt hk,cond_true,run_bind,vL (d:=zR) hk,Option.bind_some,run_bind,qmt (hF k hk).1 (hF k hk).2,Option.bind_some,qO,qY,qO,qG0,zE,zE,qn h64,qY,zG]
  unfold quI
  cases jM (b.R.getD k zR) with
  | false=>rfl
  | true=>
   by_cases h0:k=0
   ·rw [decide_eq_true h0]; rfl
   ·have hp:qy ((k:Int) - 1):=by unfold qy; omega
    have hk1:k - 1 < b.R.length:=by omega
    rw [decide_eq_false h0,Bool.not_true,cond_false,Bool.not_false,cond_true,qn hp,run_bind,qv6 (Nat.pos_of_ne_zero h0),vL (d:=zR) hk1,Option.bind_some,run_bind,qF2,Option.bind_some,qO,qY,zE,qn (show qy ((k + 1:Nat):Int) by rw [← zG]; exact h64),qY]
    cases lbB (b.R.getD (k - 1) zR).ID (b.R.getD k zR).ID<;>rfl
 ·unfold KH
  rw [qO,jy (Nat.lt_irrefl _),cond_false,qY]
theorem qG4 {b:qf} (hN:b.R.length < N) (h62:b.R.length≤4611686018427387904) (hF:∀ k,k < b.R.length→(b.R.getD k zR).F.length < N∧(b.R.getD k zR).F.length≤4611686018427387904):WI N b=some (zQ b):=by
 have e2:decide (((b.R.length:Nat):Int)≤10)=decide (b.R.length≤10):=decide_eq_decide.2 (by omega)
 unfold WI qiR zQ
 rw [run_bind,qHF hN h62 hF,Option.bind_some]
 cases Z3 (quI b.R) b.R.length with
 | false=>rfl
 | true=>show (Tree.run some (Tree.ret (decide (((b.R.length:Nat):Int)≤10))))=_; rw [qY,e2]; rfl
end n
theorem Xv {r:qa}:jM r=true↔stB r.zi=true∧(r.F.length≠0∨r.zi≠zSt)∧∀ k,k < r.F.length→qk7 r.F r.zi k=true:=by
 unfold jM
 rw [Bool.and_eq_true,Bool.and_eq_true,Vi,Bool.not_eq_true',Bool.and_eq_false_iff,decide_eq_false_iff_not,decide_eq_false_iff_not]
theorem Vs {l:List qd} {dead:qe} {k:Nat}:qk7 l dead k=true↔(if k=0 then 0≤(l.getD k zF).No else (l.getD (k - 1) zF).No < (l.getD k zF).No)∧(l.getD k zF).No < 8∧YS (l.getD k zF).C=true∧slB dead (l.getD k zF).C.S=true:=by
 unfold qk7
 rw [Bool.and_eq_true,Bool.and_eq_true,Bool.and_eq_true,Bool.not_eq_true',decide_eq_false_iff_not,Int.not_le]
 refine and_congr ?_ Iff.rfl
 split<;>exact decide_eq_true_iff
theorem qwB {r:qa} (h:jM r=true):∀ k,k < r.F.length→(k:Int)≤(r.F.getD k zF).No
 | 0,hk=>by
  have:=(Vs.1 ((Xv.1 h).2.2 0 hk)).1
  rw [if_pos rfl] at this; exact this
 | k + 1,hk=>by
  have:=(Vs.1 ((Xv.1 h).2.2 (k + 1) hk)).1
  rw [if_neg (by omega)] at this
  have ih:=qwB h k (by omega)
  rw [show k + 1 - 1=k by omega] at this
  omega
theorem qbA {r:qa} (h:jM r=true):r.F.length≤8:=by
 by_cases e:r.F.length=0
 ·omega
 ·have h1:=qwB h (r.F.length - 1) (by omega)
  have h2:=(Vs.1 ((Xv.1 h).2.2 (r.F.length - 1) (by omega))).2.1
  omega
theorem qcj {b:qf}:zQ b=true↔(∀ k,k < b.R.length→jM (b.R.getD k zR)=true∧(k=0∨lbB (b.R.getD (k - 1) zR).ID (b.R.getD k zR).ID=true))∧b.R.length≤10:=by
 unfold zQ
 rw [Bool.and_eq_true,decide_eq_true_iff,Vi]
 refine and_congr (forall_congr' fun k=>imp_congr_right fun _=>?_) Iff.rfl
 show (jM (b.R.getD k zR)&&(decide (k=0)||lbB (b.R.getD (k - 1) zR).ID (b.R.getD k zR).ID))=true↔_
 rw [Bool.and_eq_true,Bool.or_eq_true,decide_eq_true_iff]
theorem qws {c:qc} (h:YS c=true):c.V.length≤200:=by
 unfold YS at h
 simp only [Bool.and_eq_true,decide_eq_true_iff] at h
 exact h.2.2
end Go.Rx
end
set_option maxRecDepth 100000
noncomputable section
namespace Go.Rx
open Go.Proofs
section n
variable {N:Nat} [Q3 N]
def Qs (N:Nat) (b:qf):Prop:=b.R.length < N∧b.R.length≤4611686018427387904∧∀ k,k < b.R.length→(b.R.getD k zR).F.length < N∧(b.R.getD k zR).F.length≤4611686018427387904
theorem qiN {b:qf} (h:Qs N b):WI N b=some (zQ b):=qG4 h.1 h.2.1 h.2.2
theorem qii {l:List UInt8} (h:l.length≤50000):QN N l=some (JQ l):=by
 unfold QN qog
 rw [zE,qn (show qmk l.length by unfold qmk; omega),run_bind,qIC (by omega) (by have:=big N; omega),Option.bind_some,qY]
end n
end Go.Rx
end
set_option maxRecDepth 100000
noncomputable section
namespace Go.Rx
open Go.Proofs
open Go.Lib (compareBytes)
theorem qy4:∀ l:List UInt8,compareBytes l l=0
 | []=>rfl
 | x::l=>by
  unfold compareBytes
  rw [if_neg (UInt8.lt_irrefl x),if_neg (UInt8.lt_irrefl x)]
  exact qy4 l
theorem qvX:∀ a b c:List UInt8,compareBytes a b < 0→compareBytes b c < 0→compareBytes a c < 0
 | [],[],_,h,_=>by simp [compareBytes] at h
 | [],_::_,[],_,h=>by simp [compareBytes] at h
 | [],_::_,_::_,_,_=>by simp [compareBytes]
 | _::_,[],_,h,_=>by simp [compareBytes] at h
 | _::_,_::_,[],_,h=>by simp [compareBytes] at h
 | x::a,y::b,z::c,h1,h2=>by
  unfold compareBytes at h1 h2 ⊢
  simp only [UInt8.lt_iff_toNat_lt] at h1 h2 ⊢
  by_cases hxy:x.toNat < y.toNat
  ·by_cases hyz:y.toNat < z.toNat
   ·rw [if_pos (by omega)]; decide
   ·rw [if_neg hyz] at h2
    by_cases hzy:z.toNat < y.toNat
    ·rw [if_pos hzy] at h2; simp at h2
    ·rw [if_pos (by omega)]; decide
  ·rw [if_neg hxy] at h1
   by_cases hyx:y.toNat < x.toNat
   ·rw [if_pos hyx] at h1; simp at h1
   ·rw [if_neg hyx] at h1
    by_cases hyz:y.toNat < z.toNat
    ·rw [if_pos (by omega)]; decide
    ·rw [if_neg hyz] at h2
     by_cases hzy:z.toNat < y.toNat
     ·rw [if_pos hzy] at h2; simp at h2
     ·rw [if_neg hzy] at h2
      rw [if_neg (by omega),if_neg (by omega)]
      exact qvX a b c h1 h2
theorem qCR:∀ a b:List UInt8,(compareBytes a b < 0∧compareBytes b a > 0)∨a=b∨(compareBytes b a < 0∧compareBytes a b > 0)
 | [],[]=>.inr (.inl rfl)
 | [],_::_=>.inl ⟨by simp [compareBytes],by simp [compareBytes]⟩
 | _::_,[]=>.inr (.inr ⟨by simp [compareBytes],by simp [compareBytes]⟩)
 | x::a,y::b=>by
  unfold compareBytes
  by_cases h:x < y
  ·have h':¬ y < x:=fun h'=>by rw [UInt8.lt_iff_toNat_lt] at h h'; omega
   rw [if_pos h,if_neg h',if_pos h]
   exact .inl ⟨by omega,by omega⟩
  ·by_cases h':y < x
   ·rw [if_neg h,if_pos h',if_pos h']
    exact .inr (.inr ⟨by omega,by omega⟩)
   ·rw [if_neg h,if_neg h',if_neg h',if_neg h]
    have e:x=y:=by
     apply UInt8.toNat_inj.1
     rw [UInt8.lt_iff_toNat_lt] at h h'; omega
    subst e
    rcases qCR a b with h1 | h1 | h1
    ·exact .inl h1
    ·exact .inr (.inl (by rw [h1]))
    ·exact .inr (.inr h1)
theorem qEm {n:Nat} (h:n < 18446744073709551616):IntKind.u64.wrap ((n:Nat):Int)=((n:Nat):Int):=by
 have:IntKind.u64.wrap (n:Int)=(n:Int) % 18446744073709551616:=by simp [IntKind.wrap,IntKind.bits,IntKind.signed]
 rw [this]; omega
def ltB (a b:List UInt8):Bool:=decide (compareBytes a b < 0)
theorem YN (a:List UInt8):ltB a a=false:=by unfold ltB; rw [qy4]; rfl
theorem qDr {a b c:List UInt8} (h1:ltB a b=true) (h2:ltB b c=true):ltB a c=true:=decide_eq_true (qvX a b c (of_decide_eq_true h1) (of_decide_eq_true h2))
theorem ql6 (a b:List UInt8):(ltB a b=true∧ltB b a=false)∨a=b∨(ltB b a=true∧ltB a b=false):=by
 rcases qCR a b with h | h | h
 ·exact .inl ⟨decide_eq_true h.1,decide_eq_false (by omega)⟩
 ·exact .inr (.inl h)
 ·exact .inr (.inr ⟨decide_eq_true h.1,decide_eq_false (by omega)⟩)
theorem qpu:∀ a b:List UInt8,Op.bytesLess a b=ltB a b
 | [],[]=>rfl
 | [],_::_=>rfl
 | _::_,[]=>rfl
 | x::a,y::b=>by
  have ih:=qpu a b
  unfold Op.bytesLess
  rw [ih]
  unfold ltB
  rw [show compareBytes (x::a) (y::b)=if x < y then -1 else if y < x then 1 else compareBytes a b from rfl]
  by_cases h:x < y
  ·rw [if_pos h,decide_eq_true h]; rfl
  ·rw [if_neg h,decide_eq_false h,Bool.false_or]
   by_cases h':y < x
   ·rw [if_pos h']
    have:(x == y)=false:=by
     rw [beq_eq_false_iff_ne]
     intro e; subst e; exact h h'
    rw [this]; rfl
   ·have e : x = y := by
       apply UInt8.toNat_inj.1
       rw [UInt8.lt_iff_toNat_lt] at h h'; omega
    subst e
    rw [if_neg h]
    simp
theorem qmj (a b:Vector UInt8 16):lbB a b=ltB a.toList b.toList:=by
 unfold lbB
 by_cases h:a=b
 ·subst h; rw [decide_eq_true rfl,YN]; rfl
 ·rw [decide_eq_false h]; rfl
def ltD (a b:Vector UInt8 32):Bool:=ltB a.toList b.toList
theorem eqD (a b:Vector UInt8 32):eqE (.ba 32) a b=decide (a=b):=Bool.eq_iff_iff.2 ((Jr (.ba 32) a b).trans (decide_eq_true_iff (p:=(a:Vector UInt8 32)=b)).symm)
def qaC (a b:qc):Bool:=if a.S=b.S then (if JQ a.V=JQ b.V then ltB a.V b.V else ltD (JQ a.V) (JQ b.V)) else slB a.S b.S
def cJ (a b:qc):qc:=if qaC a b=true then b else a
def mxS (a b:qe):qe:=if slB a b=true then b else a
theorem qg2 (a b:qe):(slB a b=true∧slB b a=false)∨a=b∨(slB b a=true∧slB a b=false):=by
 obtain ⟨a1,a2⟩:=a
 obtain ⟨b1,b2⟩:=b
 unfold slB
 simp only [decide_eq_true_iff,decide_eq_false_iff_not,Prod.mk.injEq]
 omega
theorem VT (a:qe):slB a a=false:=by
 unfold slB
 exact decide_eq_false (by omega)
theorem qsb {a b c:qe} (h1:slB a b=true) (h2:slB b c=true):slB a c=true:=by
 unfold slB at *
 rw [decide_eq_true_iff] at *
 omega
end Go.Rx
end
set_option maxRecDepth 100000
noncomputable section
namespace Go.Rx
open Go.Proofs
section n
variable {N:Nat} [Q3 N]
def qIA:Option Nat→Int
 | some i=>(i:Int)
 | none=>-1
theorem qkh {p:Nat→Bool} {n i:Nat} (h:Zg p n 0=some i):i < n∧p i=true:=by
 obtain ⟨h1,_,h2,_⟩:=qgj h
 exact ⟨by omega,h1⟩
end n
end Go.Rx
end
set_option maxRecDepth 100000
noncomputable section
namespace Go.Rx
open Go.Proofs
section n
variable {N:Nat} [Q3 N]
theorem qHS (r:qa):∃ b,Qi N r=some b:=by
 unfold Qi WD
 by_cases h:r.F.length≤12
 ·have d:decide ((12:Int) < ((r.F.length:Nat):Int))=false:=decide_eq_false (by omega)
  have key:Wk N r 0=some (if Z3 (fun k=>decide ((r.F.getD k zF).C.V.length≤300)) r.F.length then .inr (((r.F.length:Nat):Int),false) else .inl ()):=by
   refine qax (B:=ZF N r) (g:=some) (q:=fun k=>decide ((r.F.getD k zF).C.V.length≤300)) (fun k hk=>?_) ?_ (by have:=big N; omega)
   ·unfold ZF
    have e:decide ((300:Int) < (((r.F.getD k zF).C.V.length:Nat):Int))=!decide ((r.F.getD k zF).C.V.length≤300):=qE0 (c:=300)
    rw [qO,dec_lt hk,cond_true,run_bind,vL (d:=zF) hk,Option.bind_some,qO,qY,e,zE,qn (show qy ((k:Int) + 1) by unfold qy; omega),qY,zG]
    cases decide ((r.F.getD k zF).C.V.length≤300)<;>rfl
   ·unfold ZF
    rw [qO,jy (Nat.lt_irrefl _),cond_false,qY]
  rw [qO,d,cond_false,run_bind,key,Option.bind_some]
  cases Z3 (fun k=>decide ((r.F.getD k zF).C.V.length≤300)) r.F.length
  ·exact ⟨_,rfl⟩
  ·exact ⟨_,rfl⟩
 ·have d:decide ((12:Int) < ((r.F.length:Nat):Int))=true:=decide_eq_true (by omega)
  exact ⟨false,by rw [qO,d,cond_true,qY]⟩
theorem qHf (b:qf):∃ x,XL N b=some x:=by
 unfold XL Ya
 by_cases h:b.R.length≤14
 ·have d:decide ((14:Int) < ((b.R.length:Nat):Int))=false:=decide_eq_false (by omega)
  have key:Wl N b 0=some (if Z3 (fun k=>(Qi N (b.R.getD k zR)).getD false) b.R.length then .inr (((b.R.length:Nat):Int),false) else .inl ()):=by
   refine qax (B:=ZN N b) (g:=some) (q:=fun k=>(Qi N (b.R.getD k zR)).getD false) (fun k hk=>?_) ?_ (by have:=big N; omega)
   ·obtain ⟨x,e⟩:=qHS (N:=N) (b.R.getD k zR)
    unfold ZN
    rw [qO,dec_lt hk,cond_true,run_bind,vL (d:=zR) hk,Option.bind_some,run_bind,e,Option.bind_some,qO,qY,zE,qn (show qy ((k:Int) + 1) by unfold qy; omega),qY,zG]
    cases x<;>rfl
   ·unfold ZN
    rw [qO,jy (Nat.lt_irrefl _),cond_false,qY]
  rw [qO,d,cond_false,run_bind,key,Option.bind_some]
  cases Z3 (fun k=>(Qi N (b.R.getD k zR)).getD false) b.R.length
  ·exact ⟨_,rfl⟩
  ·exact ⟨_,rfl⟩
 ·have d:decide ((14:Int) < ((b.R.length:Nat):Int))=true:=decide_eq_true (by omega)
  exact ⟨false,by rw [qO,d,cond_true,qY]⟩
end n
theorem qsD:∀ l:List qa,∃ M:Nat,∀ k,k < l.length→(l.getD k zR).F.length≤M
 | []=>⟨0,fun k hk=>by simp at hk⟩
 | r::l=>by
  obtain ⟨M,h⟩:=qsD l
  refine ⟨r.F.length + M,fun k hk=>?_⟩
  cases k with
  | zero=>simp
  | succ k=>
   have:=h k (by simpa using hk)
   simp only [List.getD_cons_succ]; omega
theorem qIV (b:qf) (h1:b.R.length≤4611686018427387904) (h2:∀ k,k < b.R.length→(b.R.getD k zR).F.length≤4611686018427387904):∃ M:Nat,∀ N,M≤N→Qs N b:=by
 obtain ⟨M,h⟩:=qsD b.R
 refine ⟨M + b.R.length + 1,fun N hN=>⟨by omega,h1,fun k hk=>⟨by have:=h k hk; omega,h2 k hk⟩⟩⟩
end Go.Rx
end
set_option maxRecDepth 100000
noncomputable section
namespace Go.Rx
open Go.Proofs
def qkn (l:List qa) (id:Vector UInt8 16):Option Nat:=Zg (fun k=>decide ((l.getD k zR).ID=id)) l.length 0
def qh1 (l:List qd) (no:Int):Option Nat:=Zg (fun k=>decide ((l.getD k zF).No=no)) l.length 0
def recAt (b:qf) (id:Vector UInt8 16):qa×Bool:=match qkn b.R id with
 | some i=>(b.R.getD i zR,true)
 | none=>(zR,false)
def cellAt (r:qa) (no:Int):qc×Bool:=match qh1 r.F no with
 | some i=>((r.F.getD i zF).C,true)
 | none=>(qc.mk zSt [],false)
end Go.Rx
end
