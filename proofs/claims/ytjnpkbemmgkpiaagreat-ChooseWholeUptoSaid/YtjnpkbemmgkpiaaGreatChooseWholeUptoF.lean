/- A part of the proof of ChooseWholeUpto: the law returns true for every input of its bounded bulk, and its arguments read as before. No condition beyond that bound. -/
import Derived.Test.YtjnpkbemmgkpiaaGreatProg
import Derived.Below
import Derived.Shelf.Strings.BuilderK
import Derived.WalkKit
import Derived.BigCall
import Derived.Test.YtjnpkbemmgkpiaaGreatComE
set_option linter.unusedSimpArgs false
set_option linter.unusedVariables false
set_option linter.unusedSectionVars false
noncomputable section
namespace Go.Rx
theorem qaX {α R:Type} (n:α→Option R):∀ t:Tree α,t.run n=(t.run some).bind n
 | .ret a=>rfl
 | .no=>rfl
 | .cond b s t=>by
  simp only [Tree.run]
  cases b
  ·exact qaX n t
  ·exact qaX n s
 | @Tree.chk _ p d t=>by
  simp only [Tree.run,chk]
  split
  ·exact qaX n t
  ·rfl
 | .bind o k=>by
  simp only [Tree.run]
  cases o with
  | none=>rfl
  | some x=>exact qaX n (k x)
 | .opt o s k=>by
  simp only [Tree.run]
  cases o with
  | none=>exact qaX n s
  | some x=>exact qaX n (k x)
 | .sum x f g=>by
  cases x with
  | inl a=>exact qaX n (f a)
  | inr b=>exact qaX n (g b)
section r
variable {α R:Type} {n:α→Option R}
theorem qP {a:α}:(Tree.ret a).run n=n a:=rfl
theorem qI {b:Bool} {s t:Tree α}:(Tree.cond b s t).run n=bif b then s.run n else t.run n:=rfl
theorem qX {p:Prop} [Decidable p] {t:Tree α}:(Tree.chk p t).run n=chk p (t.run n):=rfl
theorem run_bind {β:Type} {o:Option β} {k:β→Tree α}:(Tree.bind o k).run n=o.bind fun x=>(k x).run n:=rfl
theorem qTM {β γ:Type} {x:β} {f:β→Tree α} {g:γ→Tree α}:(Tree.sum (.inl x) f g).run n=(f x).run n:=rfl
theorem qIZ {β γ:Type} {x:γ} {f:β→Tree α} {g:γ→Tree α}:(Tree.sum (.inr x) f g).run n=(g x).run n:=rfl
end r
theorem JM {V W Y:Type} {B:V→Tree (V⊕W)} {g:W→Option Y} {v v':V} (h:(B v).run some=some (.inl v')) (N:Nat):qV B g (N + 1) v=qV B g N v':=by
 simp only [qV]
 rw [qaX,h]; rfl
theorem jb {V W Y:Type} {B:V→Tree (V⊕W)} {g:W→Option Y} {v:V} {x:W} (h:(B v).run some=some (.inr x)) (N:Nat):qV B g (N + 1) v=g x:=by
 simp only [qV]
 rw [qaX,h]; rfl
theorem Xg {V W Y : Type} {B : V → Tree (V ⊕ W)} {g : W → Option Y} {I : V → Prop} {Q : Y → Prop} (m : V → Nat)
    (h:∀ v,I v→(∃ v',(B v).run some=some (.inl v')∧I v'∧m v' < m v)∨∃ x y,(B v).run some=some (.inr x)∧g x=some y∧Q y) :
    ∀ (N:Nat) (v:V),I v→m v < N→∃ y,qV B g N v=some y∧Q y
 | 0,v,_,hm=>by omega
 | N + 1,v,hi,hm=>by
  rcases h v hi with ⟨v',h1,h2,h3⟩ | ⟨x,y,h1,h2,h3⟩
  ·rw [JM h1]
   exact Xg m h N v' h2 (by omega)
  ·rw [jb h1]
   exact ⟨y,h2,h3⟩
theorem qeW {W Y : Type} {B : Int → Tree (Int ⊕ W)} {g : W → Option Y} {p : Nat → Bool} {n : Nat} {hit : Nat → W} {fin : W}
    (h1:∀ k,k < n→(B (k:Int)).run some=some (if p k then .inr (hit k) else .inl ((k + 1:Nat):Int))) (h2:(B (n:Int)).run some=some (.inr fin)) :
    ∀ (N k:Nat),k≤n→n < N + k→qV B g N (k:Int)=g (match Qm p (n - k) k with | some j=>hit j | none=>fin)
 | 0,k,hk,hN=>by omega
 | N + 1,k,hk,hN=>by
  by_cases e:k=n
  ·subst e
   rw [jb h2,Nat.sub_self]; rfl
  ·obtain ⟨m,hm⟩:∃ m,n - k=m + 1:=⟨n - k - 1,by omega⟩
   have h3:=h1 k (by omega)
   rw [hm]
   unfold Qm
   cases hp:p k with
   | true=>
    rw [hp,if_pos rfl] at h3
    rw [jb h3,if_pos rfl]
   | false=>
    rw [hp,if_neg (by simp)] at h3
    rw [JM h3,qeW h1 h2 N (k + 1) (by omega) (by omega),if_neg (by simp),show n - (k + 1)=m by omega]
def Jn {σ:Type} (f:Nat→σ→σ):Nat→Nat→σ→σ
 | 0,_,s=>s
 | m + 1,k,s=>Jn f m (k + 1) (f k s)
theorem jU {σ W Y : Type} {V : Type} {B : V → Tree (V ⊕ W)} {g : W → Option Y} {at_ : Nat → σ → V} {I : Nat → σ → Prop} {f : Nat → σ → σ} {n : Nat} {fin : σ → W}
    (h1:∀ k s,k < n→I k s→(B (at_ k s)).run some=some (.inl (at_ (k + 1) (f k s)))∧I (k + 1) (f k s)) (h2:∀ s,I n s→(B (at_ n s)).run some=some (.inr (fin s))) :
    ∀ (N k:Nat) (s:σ),I k s→k≤n→n < N + k→qV B g N (at_ k s)=g (fin (Jn f (n - k) k s))
 | 0,k,s,_,hk,hN=>by omega
 | N + 1,k,s,hi,hk,hN=>by
  by_cases e:k=n
  ·subst e
   rw [jb (h2 s hi),Nat.sub_self]; rfl
  ·obtain ⟨m,hm⟩:∃ m,n - k=m + 1:=⟨n - k - 1,by omega⟩
   obtain ⟨h3,h4⟩:=h1 k s (by omega) hi
   rw [JM h3,jU h1 h2 N (k + 1) _ h4 (by omega) (by omega),hm,show n - (k + 1)=m by omega]
   rfl
theorem qlj {α:Type} {l:List α} {k n:Nat} {d:α} (hn:l.length=n) (h:k < l.length):ZN l n k=some (l.getD k d):=by
 unfold ZN; rw [if_pos hn,List.getElem?_eq_getElem h]; simp [List.getD,List.getElem?_eq_getElem h]
theorem qj {α:Type} {p:Prop} [Decidable p] {x:Option α} (h:p):chk p x=x:=if_pos h
theorem qhR {Z:Type} (o:Option Z):zY [] o=o:=rfl
theorem zo {Z:Type} {a b:Nat} {ps:List (Nat×Nat)} {o:Option Z} (h:a=b):zY ((a,b)::ps) o=zY ps o:=if_pos h
end Go.Rx
end
noncomputable section
namespace Go.Rx
section
variable {α R:Type} {n:α→Option R} {y:Option R}
theorem qC {a:α} (h:n a=y):(Tree.ret a).run n=y:=h
theorem qY {p:Prop} [Decidable p] {t:Tree α} (h:p) (ht:t.run n=y):(Tree.chk p t).run n=y:=(qj h).trans ht
theorem qu {β:Type} {o:Option β} {k:β→Tree α} {x:β} (h:o=some x) (ht:(k x).run n=y):(Tree.bind o k).run n=y:=by subst h; exact ht
theorem w_t {b:Bool} {s t:Tree α} (h:b=true) (hs:s.run n=y):(Tree.cond b s t).run n=y:=by subst h; exact hs
theorem w_f {b:Bool} {s t:Tree α} (h:b=false) (ht:t.run n=y):(Tree.cond b s t).run n=y:=by subst h; exact ht
theorem qIU {β:Type} {o:Option β} {s:Tree α} {k:β→Tree α} (h:o=none) (hs:s.run n=y):(Tree.opt o s k).run n=y:=by subst h; exact hs
theorem qBF {β:Type} {o:Option β} {s:Tree α} {k:β→Tree α} {x:β} (h:o=some x) (hk:(k x).run n=y):(Tree.opt o s k).run n=y:=by subst h; exact hk
theorem w_l {β γ:Type} {z:β⊕γ} {f:β→Tree α} {g:γ→Tree α} {x:β} (h:z=.inl x) (hk:(f x).run n=y):(Tree.sum z f g).run n=y:=by subst h; exact hk
theorem w_r {β γ:Type} {z:β⊕γ} {f:β→Tree α} {g:γ→Tree α} {x:γ} (h:z=.inr x) (hk:(g x).run n=y):(Tree.sum z f g).run n=y:=by subst h; exact hk
theorem vp {b:Bool} {s t:Tree α} {c:Bool} (h:b=c) (hs:c=true→s.run n=y) (ht:c=false→t.run n=y):(Tree.cond b s t).run n=y:=by
 subst h; cases b
 ·exact ht rfl
 ·exact hs rfl
end
theorem jm {k:Nat} (h:k≤4611686018427387904):qw ((k:Int) + 1):=by unfold qw; omega
end Go.Rx
end
noncomputable section
namespace Go.Rx
end Go.Rx
end
noncomputable section
namespace Go.Rx
def qS:Ty:=.ag [.b,.i .i64,.i .i64,.s]
abbrev ql:=Bool×Int×Int×List UInt8
def ql.qhu (x:ql):Bool:=x.1
def ql.vV (x:ql):Int:=x.2.1
def ql.Len (x:ql):Int:=x.2.2.1
def ql.Lit (x:ql):List UInt8:=x.2.2.2
def ql.mk (x0:Bool) (x1:Int) (x2:Int) (x3:List UInt8):ql:=(x0,x1,x2,x3)
instance ql.dec:DecidableEq ql:=JN qS
def qk:Ty:=.ag [.i .i64,.i .i64]
abbrev qd:=Int×Int
def qd.N (x:qd):Int:=x.1
def qd.Rep (x:qd):Int:=x.2
def qd.mk (x0:Int) (x1:Int):qd:=(x0,x1)
instance qd.dec:DecidableEq qd:=JN qk
def qx:Ty:=.ag [qk,.s]
abbrev qe:=qd×List UInt8
def qe.S (x:qe):qd:=x.1
def qe.V (x:qe):List UInt8:=x.2
def qe.mk (x0:qd) (x1:List UInt8):qe:=(x0,x1)
instance qe.dec:DecidableEq qe:=JN qx
def qo:Ty:=.ag [.i .i64,qx]
abbrev qc:=Int×qe
def qc.No (x:qc):Int:=x.1
def qc.C (x:qc):qe:=x.2
def qc.mk (x0:Int) (x1:qe):qc:=(x0,x1)
instance qc.dec:DecidableEq qc:=JN qo
def qf:Ty:=.ag [.ba 16,qk,.sl 4 qo]
abbrev qa:=Vector UInt8 16×qd×List qc
def qa.ID (x:qa):Vector UInt8 16:=x.1
def qa.qB (x:qa):qd:=x.2.1
def qa.F (x:qa):List qc:=x.2.2
def qa.mk (x0:Vector UInt8 16) (x1:qd) (x2:List qc):qa:=(x0,x1,x2)
instance qa.dec:DecidableEq qa:=JN qf
def qi:Ty:=.ag [.sl 19 qf]
abbrev qb:=List qa
def qb.R (x:qb):List qa:=x
def qb.mk (x0:List qa):qb:=(x0)
instance qb.dec:DecidableEq qb:=JN qi
def Qt:Ty:=.ag [.i .u32,.ba 32]
abbrev zm:=Int×Vector UInt8 32
def zm.vR (x:zm):Int:=x.1
def zm.mk (x0:Int) (x1:Vector UInt8 32):zm:=(x0,x1)
instance zm.dec:DecidableEq zm:=JN Qt
def zg:Ty:=.ag [.i .i64,qk,.i .i64,.ba 32,.sl 33 Qt]
abbrev qv:=Int×qd×Int×Vector UInt8 32×List zm
def qv.No (x:qv):Int:=x.1
def qv.S (x:qv):qd:=x.2.1
def qv.Len (x:qv):Int:=x.2.2.1
def qv.D (x:qv):Vector UInt8 32:=x.2.2.2.1
def qv.B (x:qv):List zm:=x.2.2.2.2
def qv.mk (x0:Int) (x1:qd) (x2:Int) (x3:Vector UInt8 32) (x4:List zm):qv:=(x0,x1,x2,x3,x4)
instance qv.dec:DecidableEq qv:=JN zg
def qW:Ty:=.ag [.ba 16,qk,.sl 37 zg]
abbrev qp:=Vector UInt8 16×qd×List qv
def qp.ID (x:qp):Vector UInt8 16:=x.1
def qp.qB (x:qp):qd:=x.2.1
def qp.F (x:qp):List qv:=x.2.2
def qp.mk (x0:Vector UInt8 16) (x1:qd) (x2:List qv):qp:=(x0,x1,x2)
instance qp.dec:DecidableEq qp:=JN qW
def qH:Ty:=.ag [.ba 32,.sl 19 qW]
abbrev qt:=Vector UInt8 32×List qp
def qt.L (x:qt):List qp:=x.2
def qt.mk (x0:Vector UInt8 32) (x1:List qp):qt:=(x0,x1)
instance qt.dec:DecidableEq qt:=JN qH
def ja:Ty:=.ag [.i .i64,.ba 16,qk,.i .i64,.s,.sl 4 qS,.ba 16,.i .i64,.ba 32]
abbrev qh:=Int×Vector UInt8 16×qd×Int×List UInt8×List ql×Vector UInt8 16×Int×Vector UInt8 32
def qh.Kind (x:qh):Int:=x.1
def qh.ID (x:qh):Vector UInt8 16:=x.2.1
def qh.S (x:qh):qd:=x.2.2.1
def qh.No (x:qh):Int:=x.2.2.2.1
def qh.V (x:qh):List UInt8:=x.2.2.2.2.1
def qh.P (x:qh):List ql:=x.2.2.2.2.2.1
def qh.vV (x:qh):Vector UInt8 16:=x.2.2.2.2.2.2.1
def qh.Xw (x:qh):Int:=x.2.2.2.2.2.2.2.1
def qh.D (x:qh):Vector UInt8 32:=x.2.2.2.2.2.2.2.2
def qh.mk (x0:Int) (x1:Vector UInt8 16) (x2:qd) (x3:Int) (x4:List UInt8) (x5:List ql) (x6:Vector UInt8 16) (x7:Int) (x8:Vector UInt8 32):qh:=(x0,x1,x2,x3,x4,x5,x6,x7,x8)
instance qh.dec:DecidableEq qh:=JN ja
def jW:Ty:=.ag [qi,ja]
abbrev zk:=qb×qh
def zk.b (x:zk):qb:=x.1
def zk.o (x:zk):qh:=x.2
def zk.mk (x0:qb) (x1:qh):zk:=(x0,x1)
instance zk.dec:DecidableEq zk:=JN jW
end Go.Rx
end
set_option maxRecDepth 100000
noncomputable section
namespace Go.Rx
open Go.Proofs
theorem qg:Tryz.prog.follows .mixedOrders=true:=by kernel_rfl
noncomputable instance qZb:CT:=⟨ctF Tryz.prog⟩
def qBM:Ent:=qXV 170
theorem qM2:ze Tryz.prog qBM:=qWK (fn:=Tryz.f170) (by kernel_rfl) (by kernel_rfl) (by kernel_rfl) (by kernel_rfl) (by kernel_rfl)
noncomputable def qR_:Code:=Tryz.f102.body.getD .skip
theorem qtV:FnF Tryz.prog 102 Tryz.f102 qR_:=⟨qg,by kernel_rfl,by kernel_rfl,by kernel_rfl⟩
def qFx:TH:={ live:=[(0,[0]),(1,[0,4]),(2,[2]),(3,[2])],vecs:=[5],esc:=true }
def qGB (N:Nat):List Ent:=[]
theorem qCt (N:Nat):qQ Tryz.prog (qGB N):=trivial
def qr2 (a0:List UInt8) (z:Unit):TV×THp:=(.v 100050 (((([]:List UInt8))++a0).length),[(100050,.vec false 1 .bl ((([]:List UInt8))++a0:List UInt8))])
def qiG (a0:List UInt8):Tree (Unit):=
 .chk (List.isEmpty a0=false) <|
 .chk (jG ((([]:List UInt8)).length) 0 (((([]:List UInt8))++a0).length) 1) <|
 .ret ()
def qnx (a0:List UInt8):Option (Unit):=(qiG a0).run some
def qFE:List (Nat×qz):=[]
theorem qBs:YJ Tryz.prog ⟨102,[],[.x .bl],[],[]⟩ [.bl] (fun x=>qiG x.1) (fun x=>qr2 x.1):=
 Xz (H:=qFx) (L:=qK (qFE)) 0 qtV (qCt 0) (qn (by kernel_rfl) trivial) (rg0 (by kernel_rfl)) fun x=>by kernel_rfl
def qCx:TH:={ live:=[(0,[0]),(1,[0,4]),(2,[2]),(3,[2])],vecs:=[5],esc:=true }
def qB_ (N:Nat):List Ent:=[]
theorem qwL (N:Nat):qQ Tryz.prog (qB_ N):=trivial
def qAu (z:Unit):TV×THp:=(.v 100050 0,[(100050,.vec false 1 .bl ([]:List UInt8))])
def qmy:Tree (Unit):=
 .chk (0=0) <|
 .ret ()
def qGu:Option (Unit):=(qmy).run some
def qAZ:List (Nat×qz):=[]
theorem qwD:YJ Tryz.prog ⟨102,[],[.k (.es 0)],[],[]⟩ [] (fun x=>qmy) (fun _=>qAu):=
 Xz (H:=qCx) (L:=qK (qAZ)) 0 qtV (qwL 0) (qn (by kernel_rfl) trivial) (rg0 (by kernel_rfl)) fun x=>by kernel_rfl
def qAI:TH:={ live:=[(0,[0]),(1,[0,4]),(2,[2]),(3,[2])],vecs:=[5],esc:=true }
def qAs (N:Nat):List Ent:=[]
theorem qxn (N:Nat):qQ Tryz.prog (qAs N):=trivial
def qAC (z:Unit):TV×THp:=(.nils,[])
def qmx:Tree (Unit):=
 .ret ()
def qGg:Option (Unit):=(qmx).run some
def qBw:List (Nat×qz):=[]
theorem qwH:YJ Tryz.prog ⟨102,[],[.k (.es 1)],[],[]⟩ [] (fun x=>qmx) (fun _=>qAC):=
 Xz (H:=qAI) (L:=qK (qBw)) 0 qtV (qxn 0) (qn (by kernel_rfl) trivial) (rg0 (by kernel_rfl)) fun x=>by kernel_rfl
def qm7 (z:Unit):Unit:=()
def qBa (z:Unit):Unit:=()
def Kv (a0:List UInt8):Option (Unit):=
 bif a0.isEmpty then
  (qGu).bind fun z0=>(qGg).bind fun z1=>chk (qm7 z0=qBa z1) (some (qm7 z0))
 else qnx a0
def qoQ:Ent:=smF ⟨102,[],[.x .bl],[],[]⟩ [.bl] (Unit) (fun x=>Kv x.1) cs1 fun x=>qr2 x.1
theorem qCq:ze Tryz.prog (qoQ):=qd5 fun x z h l=>by
 obtain ⟨a0,_⟩:=x
 replace h:Kv a0=some z:=h
 unfold Kv at h
 rcases qim h with ⟨e,h2⟩ | ⟨_,h2⟩<;>clear h
 ·have e:=List.isEmpty_iff.1 e
  subst e
  obtain ⟨z0,c0,h2⟩:=bind_some h2
  obtain ⟨z1,c1,h2⟩:=bind_some h2
  obtain ⟨hE,h2⟩:=Yn h2
  obtain rfl:=Option.some.inj h2
  refine qif (t:=.bl) (x:=[]) rfl (TV.ers []) (TV.ers []) (by exact qwD (()) _ c0 l) ?_
  rw [hE]
  exact (qM9 (n:=100050) (sz:=1) (x:=qF .bl ([]:List UInt8)) rfl (by kernel_rfl) (by kernel_rfl) (qwH (()) _ c1 l))
 ·exact qBs (a0,()) z h2 l
noncomputable def qTh:Code:=Tryz.f103.body.getD .skip
theorem qSg:FnF Tryz.prog 103 Tryz.f103 qTh:=⟨qg,by kernel_rfl,by kernel_rfl,by kernel_rfl⟩
def qLs:TH:={ live:=[(0,[0]),(1,[0])] }
def qLT (N:Nat):List Ent:=[]
theorem qFy (N:Nat):qQ Tryz.prog (qLT N):=trivial
def qL2 (z:Unit):TV×THp:=(.tv (.wa 8) ((((((((((Vector.replicate 8 0)).setIfInBounds 0 ((UInt32.ofNat 1779033703))).setIfInBounds 1 ((UInt32.ofNat 3144134277))).setIfInBounds 2 ((UInt32.ofNat 1013904242))).setIfInBounds 3 ((UInt32.ofNat 2773480762))).setIfInBounds 4 ((UInt32.ofNat 1359893119))).setIfInBounds 5 ((UInt32.ofNat 2600822924))).setIfInBounds 6 ((UInt32.ofNat 528734635))).setIfInBounds 7 ((UInt32.ofNat 1541459225)):Vector UInt32 8),[])
def qyl:Tree (Unit):=
 .chk (0 < 8) <|
 .chk (1 < 8) <|
 .chk (2 < 8) <|
 .chk (3 < 8) <|
 .chk (4 < 8) <|
 .chk (5 < 8) <|
 .chk (6 < 8) <|
 .chk (7 < 8) <|
 .ret ()
def qvI:Option (Unit):=(qyl).run some
def qKv:List (Nat×qz):=[]
def qyf:Ent:=smF ⟨103,[],[],[],[]⟩ [] (Unit) (fun x=>qvI) cs1 fun _=>qL2
theorem qJh:ze Tryz.prog (qyf):=
 zc (H:=qLs) (L:=qK (qKv)) (ts:=[]) (T:=fun x=>qyl) 0 qSg (qFy 0) (qn (by kernel_rfl) trivial) (rg0 (by kernel_rfl)) fun x=>by kernel_rfl
noncomputable def qSd:Code:=Tryz.f104.body.getD .skip
theorem qR2:FnF Tryz.prog 104 Tryz.f104 qSd:=⟨qg,by kernel_rfl,by kernel_rfl,by kernel_rfl⟩
def qLi:TH:={ live:=[(0,[0]),(1,[0])] }
def qLl (N:Nat):List Ent:=[]
theorem qGd (N:Nat):qQ Tryz.prog (qLl N):=trivial
def qLW (z:Unit):TV×THp:=(.tv (.wa 64) ((((((((((((((((((((((((((((((((((((((((((((((((((((((((((((((((((Vector.replicate 64 0)).setIfInBounds 0 ((UInt32.ofNat 1116352408))).setIfInBounds 1 ((UInt32.ofNat 1899447441))).setIfInBounds 2 ((UInt32.ofNat 3049323471))).setIfInBounds 3 ((UInt32.ofNat 3921009573))).setIfInBounds 4 ((UInt32.ofNat 961987163))).setIfInBounds 5 ((UInt32.ofNat 1508970993))).setIfInBounds 6 ((UInt32.ofNat 2453635748))).setIfInBounds 7 ((UInt32.ofNat 2870763221))).setIfInBounds 8 ((UInt32.ofNat 3624381080))).setIfInBounds 9 ((UInt32.ofNat 310598401))).setIfInBounds 10 ((UInt32.ofNat 607225278))).setIfInBounds 11 ((UInt32.ofNat 1426881987))).setIfInBounds 12 ((UInt32.ofNat 1925078388))).setIfInBounds 13 ((UInt32.ofNat 2162078206))).setIfInBounds 14 ((UInt32.ofNat 2614888103))).setIfInBounds 15 ((UInt32.ofNat 3248222580))).setIfInBounds 16 ((UInt32.ofNat 3835390401))).setIfInBounds 17 ((UInt32.ofNat 4022224774))).setIfInBounds 18 ((UInt32.ofNat 264347078))).setIfInBounds 19 ((UInt32.ofNat 604807628))).setIfInBounds 20 ((UInt32.ofNat 770255983))).setIfInBounds 21 ((UInt32.ofNat 1249150122))).setIfInBounds 22 ((UInt32.ofNat 1555081692))).setIfInBounds 23 ((UInt32.ofNat 1996064986))).setIfInBounds 24 ((UInt32.ofNat 2554220882))).setIfInBounds 25 ((UInt32.ofNat 2821834349))).setIfInBounds 26 ((UInt32.ofNat 2952996808))).setIfInBounds 27 ((UInt32.ofNat 3210313671))).setIfInBounds 28 ((UInt32.ofNat 3336571891))).setIfInBounds 29 ((UInt32.ofNat 3584528711))).setIfInBounds 30 ((UInt32.ofNat 113926993))).setIfInBounds 31 ((UInt32.ofNat 338241895))).setIfInBounds 32 ((UInt32.ofNat 666307205))).setIfInBounds 33 ((UInt32.ofNat 773529912))).setIfInBounds 34 ((UInt32.ofNat 1294757372))).setIfInBounds 35 ((UInt32.ofNat 1396182291))).setIfInBounds 36 ((UInt32.ofNat 1695183700))).setIfInBounds 37 ((UInt32.ofNat 1986661051))).setIfInBounds 38 ((UInt32.ofNat 2177026350))).setIfInBounds 39 ((UInt32.ofNat 2456956037))).setIfInBounds 40 ((UInt32.ofNat 2730485921))).setIfInBounds 41 ((UInt32.ofNat 2820302411))).setIfInBounds 42 ((UInt32.ofNat 3259730800))).setIfInBounds 43 ((UInt32.ofNat 3345764771))).setIfInBounds 44 ((UInt32.ofNat 3516065817))).setIfInBounds 45 ((UInt32.ofNat 3600352804))).setIfInBounds 46 ((UInt32.ofNat 4094571909))).setIfInBounds 47 ((UInt32.ofNat 275423344))).setIfInBounds 48 ((UInt32.ofNat 430227734))).setIfInBounds 49 ((UInt32.ofNat 506948616))).setIfInBounds 50 ((UInt32.ofNat 659060556))).setIfInBounds 51 ((UInt32.ofNat 883997877))).setIfInBounds 52 ((UInt32.ofNat 958139571))).setIfInBounds 53 ((UInt32.ofNat 1322822218))).setIfInBounds 54 ((UInt32.ofNat 1537002063))).setIfInBounds 55 ((UInt32.ofNat 1747873779))).setIfInBounds 56 ((UInt32.ofNat 1955562222))).setIfInBounds 57 ((UInt32.ofNat 2024104815))).setIfInBounds 58 ((UInt32.ofNat 2227730452))).setIfInBounds 59 ((UInt32.ofNat 2361852424))).setIfInBounds 60 ((UInt32.ofNat 2428436474))).setIfInBounds 61 ((UInt32.ofNat 2756734187))).setIfInBounds 62 ((UInt32.ofNat 3204031479))).setIfInBounds 63 ((UInt32.ofNat 3329325298)):Vector UInt32 64),[])
def qxI:Tree (Unit):=
 .chk (0 < 64) <|
 .chk (1 < 64) <|
 .chk (2 < 64) <|
 .chk (3 < 64) <|
 .chk (4 < 64) <|
 .chk (5 < 64) <|
 .chk (6 < 64) <|
 .chk (7 < 64) <|
 .chk (8 < 64) <|
 .chk (9 < 64) <|
 .chk (10 < 64) <|
 .chk (11 < 64) <|
 .chk (12 < 64) <|
 .chk (13 < 64) <|
 .chk (14 < 64) <|
 .chk (15 < 64) <|
 .chk (16 < 64) <|
 .chk (17 < 64) <|
 .chk (18 < 64) <|
 .chk (19 < 64) <|
 .chk (20 < 64) <|
 .chk (21 < 64) <|
 .chk (22 < 64) <|
 .chk (23 < 64) <|
 .chk (24 < 64) <|
 .chk (25 < 64) <|
 .chk (26 < 64) <|
 .chk (27 < 64) <|
 .chk (28 < 64) <|
 .chk (29 < 64) <|
 .chk (30 < 64) <|
 .chk (31 < 64) <|
 .chk (32 < 64) <|
 .chk (33 < 64) <|
 .chk (34 < 64) <|
 .chk (35 < 64) <|
 .chk (36 < 64) <|
 .chk (37 < 64) <|
 .chk (38 < 64) <|
 .chk (39 < 64) <|
 .chk (40 < 64) <|
 .chk (41 < 64) <|
 .chk (42 < 64) <|
 .chk (43 < 64) <|
 .chk (44 < 64) <|
 .chk (45 < 64) <|
 .chk (46 < 64) <|
 .chk (47 < 64) <|
 .chk (48 < 64) <|
 .chk (49 < 64) <|
 .chk (50 < 64) <|
 .chk (51 < 64) <|
 .chk (52 < 64) <|
 .chk (53 < 64) <|
 .chk (54 < 64) <|
 .chk (55 < 64) <|
 .chk (56 < 64) <|
 .chk (57 < 64) <|
 .chk (58 < 64) <|
 .chk (59 < 64) <|
 .chk (60 < 64) <|
 .chk (61 < 64) <|
 .chk (62 < 64) <|
 .chk (63 < 64) <|
 .ret ()
def quF:Option (Unit):=(qxI).run some
def qLm:List (Nat×qz):=[]
def qx9:Ent:=smF ⟨104,[],[],[],[]⟩ [] (Unit) (fun x=>quF) cs1 fun _=>qLW
theorem qIM:ze Tryz.prog (qx9):=
 zc (H:=qLi) (L:=qK (qLm)) (ts:=[]) (T:=fun x=>qxI) 0 qR2 (qGd 0) (qn (by kernel_rfl) trivial) (rg0 (by kernel_rfl)) fun x=>by kernel_rfl
noncomputable def qTk:Code:=Tryz.f199.body.getD .skip
theorem qSp:FnF Tryz.prog 199 Tryz.f199 qTk:=⟨qg,by kernel_rfl,by kernel_rfl,by kernel_rfl⟩
def qkx:TH:={ live:=[(0,[0,1]),(1,[0,5]),(2,[4])] }
def qku (N:Nat):List Ent:=[]
theorem qiN (N:Nat):qQ Tryz.prog (qku N):=trivial
def qlL (z:Int):TV×THp:=(.tv (.i .u32) z,[])
def X8 (a0:Int) (a1:Int):Tree (Int):=
 .chk (0≤(qlO .u64 (IntKind.u64.wrap a1) 31)) <|
 let w1:Int:=qfx .u32 a0 (min (qlO .u64 (IntKind.u64.wrap a1) 31).toNat 32)
 let w2:Int:=qX8 .u64 ((32:Int)) (qlO .u64 (IntKind.u64.wrap a1) 31)
 .chk (0≤w2) <|
 .ret (uOr .u32 w1 (Zz a0 (min w2.toNat 32)))
def Yx (a0:Int) (a1:Int):Option (Int):=(X8 a0 a1).run some
def qls:List (Nat×qz):=[]
def qb7:Ent:=smF ⟨199,[],[.x (.i .u32),.x (.i .i64)],[],[]⟩ [(.i .u32),(.i .i64)] (Int) (fun x=>Yx x.1 x.2.1) cs1 fun _=>qlL
theorem qj6:ze Tryz.prog (qb7):=
 zc (H:=qkx) (L:=qK (qls)) (ts:=[(.i .u32),(.i .i64)]) (T:=fun x=>X8 x.1 x.2.1) 0 qSp (qiN 0) (qn (by kernel_rfl) trivial) (rg0 (by kernel_rfl)) fun x=>by kernel_rfl
noncomputable def qQl:Code:=Tryz.f157.body.getD .skip
theorem qSn:FnF Tryz.prog 157 Tryz.f157 qQl:=⟨qg,by kernel_rfl,by kernel_rfl,by kernel_rfl⟩
def qK9:TH:={ live:=[(0,[0,1]),(1,[4])] }
def qLb (N:Nat):List Ent:=[qb7]
theorem qFK (N:Nat):qQ Tryz.prog (qLb N):=⟨qj6,trivial⟩
def qLu (z:Int):TV×THp:=(.tv (.i .u32) z,[])
def qnr (a0:Int) (a1:Int):Tree (Int):=
 .chk (qw (0 - a1)) <|
 .bind (Yx a0 (0 - a1)) fun r1=>
 .ret r1
def jv (a0:Int) (a1:Int):Option (Int):=(qnr a0 a1).run some
def qLh:List (Nat×qz):=[]
def qnM:Ent:=smF ⟨157,[],[.x (.i .u32),.x (.i .i64)],[],[]⟩ [(.i .u32),(.i .i64)] (Int) (fun x=>jv x.1 x.2.1) cs1 fun _=>qLu
theorem quv:ze Tryz.prog (qnM):=
 zc (H:=qK9) (L:=qK (qLh)) (ts:=[(.i .u32),(.i .i64)]) (T:=fun x=>qnr x.1 x.2.1) 0 qSn (qFK 0) (qn (by kernel_rfl) trivial) (rg0 (by kernel_rfl)) fun x=>by kernel_rfl
noncomputable def quk:Code:=Tryz.f156.body.getD .skip
theorem qPq:FnF Tryz.prog 156 Tryz.f156 quk:=⟨qg,by kernel_rfl,by kernel_rfl,by kernel_rfl⟩
def qgU:TH:={ live:=[(0,[0,2]),(1,[0,2,3]),(2,[0,2,3,7]),(3,[0,2,3,7,8]),(4,[0,2,3,4,7]),(5,[0,2,3,4,7,11]),(6,[0,2,3,7]),(7,[0,2,3,4,5,6,7]),(8,[0,2,3,7]),(9,[0,2,3,7]),(10,[2])] }
def qpz (N:Nat):List Ent:=[qnM]
theorem qkI (N:Nat):qQ Tryz.prog (qpz N):=⟨quv,trivial⟩
abbrev YL:=Vector UInt32 64×List UInt8
abbrev JF:=Vector UInt32 64×Int×Bool
def Xr (f:YL) (y:JF):Ex×TSt:=(.exit 0,⟨0,86,[],[(0,.tv .bl f.2),(2,.p 20 [] 0),(3,.p 30 [] 0),(7,xi y.2.1),(8,xb y.2.2)],[(20,.cell false (.tv (.wa 64) f.1)),(30,.cell false (.tv (.wa 64) (y.1:Vector UInt32 64)))],false,[]⟩)
def qw6 (N:Nat):List (Nat×qz):=[]
abbrev Xx:=Vector UInt32 64×Int
def qjq:SP:=⟨0,86,[],[(0,.x .bl),(2,.k (.p 20 [] 0)),(3,.k (.p 30 [] 0)),(7,.x (.i .i64))],[(20,.cell false (.x (.wa 64))),(30,.cell false (.x (.wa 64)))],false,[]⟩
def qxo (f:YL) (v:Xx):TSt:=zH qjq [dv (.wa 64) f.1,dv (.wa 64) v.1,dv .bl f.2,dv (.i .i64) v.2]
def Zk (N:Nat) (o_3:Vector UInt32 64) (s0_3:List UInt8) (v:Xx):Tree (Xx⊕JF):=
 .cond (decide (v.2 < ((64:Int)))) (
 .cond (decide (v.2 < ((16:Int)))) (
 .chk (qw (((4:Int)) * v.2)) <|
 .bind (zl s0_3 (((4:Int)) * v.2)) fun e1=>
 let w2:Int:=IntKind.u32.wrap ((e1.toNat:Nat):Int)
 .chk (0≤(24:Int)) <|
 .chk (qw (((4:Int)) * v.2)) <|
 .chk (qw ((((4:Int)) * v.2) + 1)) <|
 .bind (zl s0_3 ((((4:Int)) * v.2) + 1)) fun e3=>
 let w4:Int:=IntKind.u32.wrap ((e3.toNat:Nat):Int)
 .chk (0≤(16:Int)) <|
 let w5:Int:=uOr .u32 (qfx .u32 w2 24) (qfx .u32 w4 16)
 .chk (qw (((4:Int)) * v.2)) <|
 .chk (qw ((((4:Int)) * v.2) + 2)) <|
 .bind (zl s0_3 ((((4:Int)) * v.2) + 2)) fun e6=>
 let w7:Int:=IntKind.u32.wrap ((e6.toNat:Nat):Int)
 .chk (0≤(8:Int)) <|
 .chk (qw (((4:Int)) * v.2)) <|
 .chk (qw ((((4:Int)) * v.2) + 3)) <|
 .bind (zl s0_3 ((((4:Int)) * v.2) + 3)) fun e8=>
 let w9:Int:=IntKind.u32.wrap ((e8.toNat:Nat):Int)
 let w10:Int:=uOr .u32 (uOr .u32 w5 (qfx .u32 w7 8)) w9
 .chk (0≤v.2∧v.2 < ((64:Nat):Int)) <|
 .chk (inW w10) <|
 .chk (v.2.toNat < 64) <|
 .chk (qw (v.2 + 1)) <|
 .ret (.inl (v.1.setIfInBounds v.2.toNat (UInt32.ofNat w10.toNat),v.2 + 1))) <|
 .chk (qw (v.2 - 15)) <|
 .chk (0≤(v.2 - 15)∧(v.2 - 15) < ((64:Nat):Int)) <|
 .chk ((v.2 - 15).toNat < 64) <|
 .chk (qw (v.2 - 2)) <|
 .chk (0≤(v.2 - 2)∧(v.2 - 2) < ((64:Nat):Int)) <|
 .chk ((v.2 - 2).toNat < 64) <|
 .chk (qw (v.2 - 16)) <|
 .chk (0≤(v.2 - 16)∧(v.2 - 16) < ((64:Nat):Int)) <|
 .chk ((v.2 - 16).toNat < 64) <|
 .chk (qw (v.2 - 7)) <|
 .chk (0≤(v.2 - 7)∧(v.2 - 7) < ((64:Nat):Int)) <|
 .chk ((v.2 - 7).toNat < 64) <|
 let w1:Int:=Ys .u32 (((v.1.toList.getD ((v.2 - 16).toNat) 0).toNat:Nat):Int) (((v.1.toList.getD ((v.2 - 7).toNat) 0).toNat:Nat):Int)
 .bind (jv (((v.1.toList.getD ((v.2 - 15).toNat) 0).toNat:Nat):Int) 7) fun r2=>
 .bind (jv (((v.1.toList.getD ((v.2 - 15).toNat) 0).toNat:Nat):Int) 18) fun r3=>
 .chk (0≤(3:Int)) <|
 let w4:Int:=Zz (((v.1.toList.getD ((v.2 - 15).toNat) 0).toNat:Nat):Int) 3
 let w5:Int:=Ys .u32 w1 (qeI .u32 (qeI .u32 r2 r3) w4)
 .bind (jv (((v.1.toList.getD ((v.2 - 2).toNat) 0).toNat:Nat):Int) 17) fun r6=>
 .bind (jv (((v.1.toList.getD ((v.2 - 2).toNat) 0).toNat:Nat):Int) 19) fun r7=>
 .chk (0≤(10:Int)) <|
 let w8:Int:=Zz (((v.1.toList.getD ((v.2 - 2).toNat) 0).toNat:Nat):Int) 10
 let w9:Int:=Ys .u32 w5 (qeI .u32 (qeI .u32 r6 r7) w8)
 .chk (0≤v.2∧v.2 < ((64:Nat):Int)) <|
 .chk (inW w9) <|
 .chk (v.2.toNat < 64) <|
 .chk (qw (v.2 + 1)) <|
 .ret (.inl (v.1.setIfInBounds v.2.toNat (UInt32.ofNat w9.toNat),v.2 + 1))) <|
 .ret (.inr (v.1,v.2,decide (v.2 < ((64:Int)))))
def qjk (N n:Nat) (f:YL) (v:Xx):Option JF:=qV (Zk N f.1 f.2) some n v
theorem qxf (N:Nat) (f:YL) (n:Nat) (v:Xx) (y:JF) (h:qjk N n f v=some y):LG Tryz.prog qgU 156 (qN quk 3) (qxo f v) (Xr f y):=
 zr qg (E:=qpz N) (L:=qK (qw6 N)) (st:=Xr f) (g:=some) (R:=Xr f) (qkI N) (qn (by kernel_rfl) trivial) (rg0 (by kernel_rfl)) (fun v=>by kernel_rfl) (qZ (st:=Xr f) fun y=>by rfl) (js0 rfl) n v y h
def qf7 (N:Nat) (o_3:Vector UInt32 64) (s0_3:List UInt8) (o_3_2:Vector UInt32 64) (s7_3:Int):Option JF:=qjk N N (o_3,s0_3) (o_3_2,s7_3)
def qjg (N:Nat):qz:=smL qjq [(.wa 64),(.wa 64),.bl,(.i .i64)] JF (fun x=>qf7 N x.1 x.2.2.1 x.2.1 x.2.2.2.1) cs1 fun x=>Xr (x.1,x.2.2.1)
theorem qth (N:Nat):jl Tryz.prog qgU 156 (qN quk 3) (qjg N):=zA fun x z h=>qxf N (x.1,x.2.2.1) N (x.2.1,x.2.2.2.1) z h
def qDO (z:Vector UInt32 64):TV×THp:=(.tv (.wa 64) z,[])
def qhb (N:Nat) (a0:List UInt8):Tree (Vector UInt32 64):=
 .bind (qf7 N ((Vector.replicate 64 0)) a0 ((Vector.replicate 64 0)) 0) fun z1=>
 .ret z1.1
def qgx (N:Nat) (a0:List UInt8):Option (Vector UInt32 64):=(qhb N a0).run some
def qDj (N:Nat):List (Nat×qz):=[(3,qjg N)]
def qo9 (N:Nat):Ent:=smF ⟨156,[],[.x .bl],[],[]⟩ [.bl] (Vector UInt32 64) (fun x=>qgx N x.1) cs1 fun _=>qDO
theorem qAT (N:Nat):ze Tryz.prog (qo9 N):=
 zc (H:=qgU) (L:=qK (qDj N)) (ts:=[.bl]) (T:=fun x=>qhb N x.1) 0 qPq (qkI N) (qn (by kernel_rfl) ⟨qth N,trivial⟩) (rg0 (by kernel_rfl)) fun x=>by kernel_rfl
noncomputable def qhU:Code:=Tryz.f105.body.getD .skip
theorem qSr:FnF Tryz.prog 105 Tryz.f105 qhU:=⟨qg,by kernel_rfl,by kernel_rfl,by kernel_rfl⟩
def Wk:TH:={ live:=[(0,[0,2,6]),(1,[0,2,6,7]),(2,[0,2,6,7,19]),(3,[0,2,6,7,19,20]),(4,[0,2,6,7,8,19]),(5,[0,2,6,7,8,9,10,19]),(6,[0,2,6,7,9,11,19]),(7,[0,2,6,7,11,12,19]),(8,[0,2,6,7,11,12,19]),(9,[0,2,6,7,11,19]),(10,[0,2,6,7,19]),(11,[0,2,6,7,19]),(12,[0,7,95]),(13,[0,7,95,96]),(14,[0,7,13,95]),(15,[0,7,95]),(16,[0,7,95])] }
def qeJ (N:Nat):List Ent:=[qo9 N,qnM]
theorem qcq (N:Nat):qQ Tryz.prog (qeJ N):=⟨qAT N,quv,trivial⟩
abbrev Wq:=Vector UInt32 8×Vector UInt32 64×Vector UInt32 64
abbrev Zv:=Vector UInt32 8×Int×Bool
def J1 (f:Wq) (y:Zv):Ex×TSt:=(.exit 0,⟨1,110,[50,60],[(0,.p 50 [] 0),(2,.p 60 [] 0),(6,.p 100060 [] 0),(7,.p 100070 [] 0),(19,xi y.2.1),(20,xb y.2.2)],[(50,.cell false (.tv (.wa 8) f.1)),(60,.cell false (.tv (.wa 64) f.2.1)),(100060,.cell false (.tv (.wa 64) f.2.2)),(100070,.cell false (.tv (.wa 8) (y.1:Vector UInt32 8)))],false,[]⟩)
def qsM (N:Nat):List (Nat×qz):=[]
abbrev J5:=Vector UInt32 8×Int
def qgM:SP:=⟨1,110,[50,60],[(0,.k (.p 50 [] 0)),(2,.k (.p 60 [] 0)),(6,.k (.p 100060 [] 0)),(7,.k (.p 100070 [] 0)),(19,.x (.i .i64))],[(50,.cell false (.x (.wa 8))),(60,.cell false (.x (.wa 64))),(100060,.cell false (.x (.wa 64))),(100070,.cell false (.x (.wa 8)))],false,[]⟩
def qsG (f:Wq) (v:J5):TSt:=zH qgM [dv (.wa 8) f.1,dv (.wa 64) f.2.1,dv (.wa 64) f.2.2,dv (.wa 8) v.1,dv (.i .i64) v.2]
def J8 (N:Nat) (o_3:Vector UInt32 8) (o_3_2:Vector UInt32 64) (o_3_3:Vector UInt32 64) (v:J5):Tree (J5⊕Zv):=
 .cond (decide (v.2 < ((64:Int)))) (
 .chk (0≤(0:Int)∧(0:Int) < ((8:Nat):Int)) <|
 .chk (0 < 8) <|
 .chk (0≤(4:Int)∧(4:Int) < ((8:Nat):Int)) <|
 .chk (4 < 8) <|
 .chk (0≤(7:Int)∧(7:Int) < ((8:Nat):Int)) <|
 .chk (7 < 8) <|
 .bind (jv (((v.1.toList.getD 4 0).toNat:Nat):Int) 6) fun r1=>
 .bind (jv (((v.1.toList.getD 4 0).toNat:Nat):Int) 11) fun r2=>
 .bind (jv (((v.1.toList.getD 4 0).toNat:Nat):Int) 25) fun r3=>
 let w4:Int:=Ys .u32 (((v.1.toList.getD 7 0).toNat:Nat):Int) (qeI .u32 (qeI .u32 r1 r2) r3)
 .chk (0≤(5:Int)∧(5:Int) < ((8:Nat):Int)) <|
 .chk (5 < 8) <|
 let w5:Int:=qlO .u32 (((v.1.toList.getD 4 0).toNat:Nat):Int) (((v.1.toList.getD 5 0).toNat:Nat):Int)
 let w6:Int:=qeI .u32 (4294967295) (((v.1.toList.getD 4 0).toNat:Nat):Int)
 .chk (0≤(6:Int)∧(6:Int) < ((8:Nat):Int)) <|
 .chk (6 < 8) <|
 let w7:Int:=qlO .u32 w6 (((v.1.toList.getD 6 0).toNat:Nat):Int)
 .chk (0≤v.2∧v.2 < ((64:Nat):Int)) <|
 .chk (v.2.toNat < 64) <|
 let w8:Int:=Ys .u32 (Ys .u32 w4 (qeI .u32 w5 w7)) (((o_3_2.toList.getD v.2.toNat 0).toNat:Nat):Int)
 .chk (0≤v.2∧v.2 < ((64:Nat):Int)) <|
 .chk (v.2.toNat < 64) <|
 let w9:Int:=Ys .u32 w8 (((o_3_3.toList.getD v.2.toNat 0).toNat:Nat):Int)
 .bind (jv (((v.1.toList.getD 0 0).toNat:Nat):Int) 2) fun r10=>
 .bind (jv (((v.1.toList.getD 0 0).toNat:Nat):Int) 13) fun r11=>
 .bind (jv (((v.1.toList.getD 0 0).toNat:Nat):Int) 22) fun r12=>
 .chk (0≤(1:Int)∧(1:Int) < ((8:Nat):Int)) <|
 .chk (1 < 8) <|
 let w13:Int:=qlO .u32 (((v.1.toList.getD 0 0).toNat:Nat):Int) (((v.1.toList.getD 1 0).toNat:Nat):Int)
 .chk (0≤(2:Int)∧(2:Int) < ((8:Nat):Int)) <|
 .chk (2 < 8) <|
 let w14:Int:=qlO .u32 (((v.1.toList.getD 0 0).toNat:Nat):Int) (((v.1.toList.getD 2 0).toNat:Nat):Int)
 .chk (0≤(1:Int)∧(1:Int) < ((8:Nat):Int)) <|
 .chk (1 < 8) <|
 .chk (0≤(2:Int)∧(2:Int) < ((8:Nat):Int)) <|
 .chk (2 < 8) <|
 let w15:Int:=qlO .u32 (((v.1.toList.getD 1 0).toNat:Nat):Int) (((v.1.toList.getD 2 0).toNat:Nat):Int)
 let w16:Int:=Ys .u32 (qeI .u32 (qeI .u32 r10 r11) r12) (qeI .u32 (qeI .u32 w13 w14) w15)
 .chk (0≤(0:Int)∧(0:Int) < ((8:Nat):Int)) <|
 .chk (inW (Ys .u32 w9 w16)) <|
 .chk (0 < 8) <|
 .chk (0≤(4:Int)∧(4:Int) < ((8:Nat):Int)) <|
 .chk (4 < 8) <|
 let w17:Int:=Ys .u32 (((((qar v.1 1 7).setIfInBounds 0 (UInt32.ofNat (Ys .u32 w9 w16).toNat)).toList.getD 4 0).toNat:Nat):Int) w9
 .chk (0≤(4:Int)∧(4:Int) < ((8:Nat):Int)) <|
 .chk (inW w17) <|
 .chk (4 < 8) <|
 .chk (qw (v.2 + 1)) <|
 .ret (.inl (((qar v.1 1 7).setIfInBounds 0 (UInt32.ofNat (Ys .u32 w9 w16).toNat)).setIfInBounds 4 (UInt32.ofNat w17.toNat),v.2 + 1))) <|
 .ret (.inr (v.1,v.2,decide (v.2 < ((64:Int)))))
def qgK (N n:Nat) (f:Wq) (v:J5):Option Zv:=qV (J8 N f.1 f.2.1 f.2.2) some n v
theorem qsT (N:Nat) (f:Wq) (n:Nat) (v:J5) (y:Zv) (h:qgK N n f v=some y):LG Tryz.prog Wk 105 (qN qhU 3) (qsG f v) (J1 f y):=
 zr qg (E:=qeJ N) (L:=qK (qsM N)) (st:=J1 f) (g:=some) (R:=J1 f) (qcq N) (qn (by kernel_rfl) trivial) (rg0 (by kernel_rfl)) (fun v=>by kernel_rfl) (qZ (st:=J1 f) fun y=>by rfl) (js0 rfl) n v y h
def qdu (N:Nat) (o_3:Vector UInt32 8) (o_3_2:Vector UInt32 64) (o_3_3:Vector UInt32 64) (o_3_4:Vector UInt32 8) (s19_3:Int):Option Zv:=qgK N N (o_3,o_3_2,o_3_3) (o_3_4,s19_3)
def qgO (N:Nat):qz:=smL qgM [(.wa 8),(.wa 64),(.wa 64),(.wa 8),(.i .i64)] Zv (fun x=>qdu N x.1 x.2.1 x.2.2.1 x.2.2.2.1 x.2.2.2.2.1) cs1 fun x=>J1 (x.1,x.2.1,x.2.2.1)
theorem qq9 (N:Nat):jl Tryz.prog Wk 105 (qN qhU 3) (qgO N):=zA fun x z h=>qsT N (x.1,x.2.1,x.2.2.1) N (x.2.2.2.1,x.2.2.2.2.1) z h
abbrev XJ:=Vector UInt32 64×Vector UInt32 8
abbrev Q3:=Vector UInt32 8×Int×Bool
def Jw (f:XJ) (y:Q3):Ex×TSt:=(.exit 2,⟨1,110,[50,60],[(0,.p 50 [] 0),(7,.p 100070 [] 0),(95,xi y.2.1),(96,xb y.2.2)],[(50,.cell false (.tv (.wa 8) (y.1:Vector UInt32 8))),(60,.cell false (.tv (.wa 64) f.1)),(100070,.cell false (.tv (.wa 8) f.2))],false,[]⟩)
def qqI (N:Nat):List (Nat×qz):=[]
abbrev Jq:=Vector UInt32 8×Int
def qfM:SP:=⟨1,110,[50,60],[(0,.k (.p 50 [] 0)),(7,.k (.p 100070 [] 0)),(95,.x (.i .i64))],[(50,.cell false (.x (.wa 8))),(60,.cell false (.x (.wa 64))),(100070,.cell false (.x (.wa 8)))],false,[]⟩
def qra (f:XJ) (v:Jq):TSt:=zH qfM [dv (.wa 8) v.1,dv (.wa 64) f.1,dv (.wa 8) f.2,dv (.i .i64) v.2]
def XC (N:Nat) (o_13_2:Vector UInt32 64) (o_13_3:Vector UInt32 8) (v:Jq):Tree (Jq⊕Q3):=
 .cond (decide (v.2 < ((8:Int)))) (
 .chk (0≤v.2∧v.2 < ((8:Nat):Int)) <|
 .chk (v.2.toNat < 8) <|
 .chk (0≤v.2∧v.2 < ((8:Nat):Int)) <|
 .chk (v.2.toNat < 8) <|
 let w1:Int:=Ys .u32 (((v.1.toList.getD v.2.toNat 0).toNat:Nat):Int) (((o_13_3.toList.getD v.2.toNat 0).toNat:Nat):Int)
 .chk (0≤v.2∧v.2 < ((8:Nat):Int)) <|
 .chk (inW w1) <|
 .chk (v.2.toNat < 8) <|
 .chk (qw (v.2 + 1)) <|
 .ret (.inl (v.1.setIfInBounds v.2.toNat (UInt32.ofNat w1.toNat),v.2 + 1))) <|
 .ret (.inr (v.1,v.2,decide (v.2 < ((8:Int)))))
def qfB (N n:Nat) (f:XJ) (v:Jq):Option Q3:=qV (XC N f.1 f.2) some n v
theorem qrf (N:Nat) (f:XJ) (n:Nat) (v:Jq) (y:Q3) (h:qfB N n f v=some y):LG Tryz.prog Wk 105 (qN qhU 13) (qra f v) (Jw f y):=
 zr qg (E:=qeJ N) (L:=qK (qqI N)) (st:=Jw f) (g:=some) (R:=Jw f) (qcq N) (qn (by kernel_rfl) trivial) (rg0 (by kernel_rfl)) (fun v=>by kernel_rfl) (qZ (st:=Jw f) fun y=>by rfl) (js0 rfl) n v y h
def qcv (N:Nat) (o_13_2:Vector UInt32 64) (o_13_3:Vector UInt32 8) (o_13:Vector UInt32 8) (s95_13:Int):Option Q3:=qfB N N (o_13_2,o_13_3) (o_13,s95_13)
def qfw (N:Nat):qz:=smL qfM [(.wa 8),(.wa 64),(.wa 8),(.i .i64)] Q3 (fun x=>qcv N x.2.1 x.2.2.1 x.1 x.2.2.2.1) cs1 fun x=>Jw (x.2.1,x.2.2.1)
theorem qpg (N:Nat):jl Tryz.prog Wk 105 (qN qhU 13) (qfw N):=zA fun x z h=>qrf N (x.2.1,x.2.2.1) N (x.1,x.2.2.2.1) z h
def qzw (a1:Vector UInt32 64) (z:Vector UInt32 8):TV×THp:=(.tup [],[(50,.cell false (.tv (.wa 8) z)),(60,.cell false (.tv (.wa 64) a1))])
def qeK (N:Nat) (a0:Vector UInt32 8) (a1:Vector UInt32 64) (a2:List UInt8):Tree (Vector UInt32 8):=
 .bind (qgx N a2) fun r1=>
 .bind (qdu N a0 a1 r1 a0 0) fun z2=>
 .bind (qcv N a1 z2.1 a0 0) fun z3=>
 .ret z3.1
def Kn (N:Nat) (a0:Vector UInt32 8) (a1:Vector UInt32 64) (a2:List UInt8):Option (Vector UInt32 8):=(qeK N a0 a1 a2).run some
def qyo (N:Nat):List (Nat×qz):=[(3,qgO N),(13,qfw N)]
def qkz (N:Nat):Ent:=smF ⟨105,[],[.k (.p 50 [] 0),.x .bl,.k (.p 60 [] 0)],[],[(50,.cell false (.x (.wa 8))),(60,.cell false (.x (.wa 64)))]⟩ [(.wa 8),(.wa 64),.bl] (Vector UInt32 8) (fun x=>Kn N x.1 x.2.1 x.2.2.1) cs1 fun x=>qzw x.2.1
theorem qxw (N:Nat):ze Tryz.prog (qkz N):=
 zc (H:=Wk) (L:=qK (qyo N)) (ts:=[(.wa 8),(.wa 64),.bl]) (T:=fun x=>qeK N x.1 x.2.1 x.2.2.1) 0 qSr (qcq N) (qn (by kernel_rfl) ⟨qq9 N,qpg N,trivial⟩) (rg0 (by kernel_rfl)) fun x=>by kernel_rfl
noncomputable def YB:Code:=Tryz.f59.body.getD .skip
theorem qTJ:FnF Tryz.prog 59 Tryz.f59 YB:=⟨qg,by kernel_rfl,by kernel_rfl,by kernel_rfl⟩
def XP:TH:={ live:=[(0,[0,2]),(1,[0,2,3]),(2,[0,2,3,16]),(3,[0,2,3]),(4,[0,2,3,20]),(5,[0,2,3,20,21]),(6,[0,2,3,4,20]),(7,[0,2,3,20]),(8,[0,2,3,20]),(9,[2,3,5,6]),(10,[2,3,5,6,40]),(11,[2,3,5,6]),(12,[2,3,5,6]),(13,[2,5,7]),(14,[2,5,7,46]),(15,[2,5,7,46,47]),(16,[2,5,7,8,46]),(17,[2,5,7,46]),(18,[2,5,7,46]),(19,[2])],fresh:=[10] }
def qfb (N:Nat):List Ent:=[qoQ,qyf,qx9,qkz N]
theorem qa2 (N:Nat):qQ Tryz.prog (qfb N):=⟨qCq,qJh,qIM,qxw N,trivial⟩
abbrev qfN:=Vector UInt8 32×List UInt8
abbrev Kg:=List UInt8×Bool
def qcl (f:qfN) (y:Kg):Ex×TSt:=(.exit 0,⟨0,63,[],[(0,.tv .bl f.2),(2,.p 20 [] 0),(3,.v 100050 y.1.length),(16,xb y.2)],[(20,.cell false (.tv (.ba 32) f.1)),(100050,.vec false 1 .bl (y.1:List UInt8))],false,[]⟩)
def qJT (N:Nat):List (Nat×qz):=[]
abbrev qbM:=List UInt8
def qvi:SP:=⟨0,63,[],[(0,.x .bl),(2,.k (.p 20 [] 0)),(3,.vs 100050)],[(20,.cell false (.x (.ba 32))),(100050,.vec false 1)],false,[]⟩
def qJ4 (f:qfN) (v:qbM):TSt:=zH qvi [dv .bl v,dv (.ba 32) f.1,dv .bl f.2]
def qcf (N:Nat) (o_2_2:Vector UInt8 32) (s0_2:List UInt8) (v:qbM):Tree (qbM⊕Kg):=
 .chk ((64:Int)≠0) <|
 .cond (!decide ((((v.length:Nat):Int).tmod 64)=56)) (
 .chk (jG v.length v.length ((v++[(UInt8.ofNat 0)]).length) 1) <|
 .ret (.inl (v++[(UInt8.ofNat 0)]))) <|
 .ret (.inr (v,!decide ((((v.length:Nat):Int).tmod 64)=56)))
def quy (N n:Nat) (f:qfN) (v:qbM):Option Kg:=qV (qcf N f.1 f.2) some n v
theorem qJR (N:Nat) (f:qfN) (n:Nat) (v:qbM) (y:Kg) (h:quy N n f v=some y):LG Tryz.prog XP 59 (qN YB 2) (qJ4 f v) (qcl f y):=
 zr qg (E:=qfb N) (L:=qK (qJT N)) (st:=qcl f) (g:=some) (R:=qcl f) (qa2 N) (qn (by kernel_rfl) trivial) (rg0 (by kernel_rfl)) (fun v=>by kernel_rfl) (qZ (st:=qcl f) fun y=>by rfl) (js0 rfl) n v y h
def qj1 (N:Nat) (o_2_2:Vector UInt8 32) (s0_2:List UInt8) (o_2:List UInt8):Option Kg:=quy N N (o_2_2,s0_2) o_2
def quf (N:Nat):qz:=smL qvi [.bl,(.ba 32),.bl] Kg (fun x=>qj1 N x.2.1 x.2.2.1 x.1) cs1 fun x=>qcl (x.2.1,x.2.2.1)
theorem qF2 (N:Nat):jl Tryz.prog XP 59 (qN YB 2) (quf N):=zA fun x z h=>qJR N (x.2.1,x.2.2.1) N x.1 z h
abbrev qf1:=Vector UInt8 32×List UInt8
abbrev Kf:=List UInt8×Int×Bool
def qcy (f:qf1) (y:Kf):Ex×TSt:=(.exit 2,⟨0,63,[],[(0,.tv .bl f.2),(2,.p 20 [] 0),(3,.v 100050 y.1.length),(20,xi y.2.1),(21,xb y.2.2)],[(20,.cell false (.tv (.ba 32) f.1)),(100050,.vec false 1 .bl (y.1:List UInt8))],false,[]⟩)
def qHB (N:Nat):List (Nat×qz):=[]
abbrev qbI:=List UInt8×Int
def qu2:SP:=⟨0,63,[],[(0,.x .bl),(2,.k (.p 20 [] 0)),(3,.vs 100050),(20,.x (.i .i64))],[(20,.cell false (.x (.ba 32))),(100050,.vec false 1)],false,[]⟩
def qH0 (f:qf1) (v:qbI):TSt:=zH qu2 [dv .bl v.1,dv (.ba 32) f.1,dv .bl f.2,dv (.i .i64) v.2]
def qfG (N:Nat) (o_5_2:Vector UInt8 32) (s0_5:List UInt8) (v:qbI):Tree (qbI⊕Kf):=
 .cond (decide (v.2 < ((8:Int)))) (
 let w1:Int:=IntKind.u64.wrap ((s0_5.length:Nat):Int)
 .chk (qw (((7:Int)) - v.2)) <|
 .chk (qw (((8:Int)) * (((7:Int)) - v.2))) <|
 .chk (0≤(((8:Int)) * (((7:Int)) - v.2))) <|
 let w2:Int:=Zz (qXL .u64 w1 8) (min (((8:Int)) * (((7:Int)) - v.2)).toNat 64)
 .chk (inB (IntKind.u8.wrap w2)) <|
 .chk (jG v.1.length v.1.length ((v.1++[UInt8.ofNat (IntKind.u8.wrap w2).toNat]).length) 1) <|
 .chk (qw (v.2 + 1)) <|
 .ret (.inl (v.1++[UInt8.ofNat (IntKind.u8.wrap w2).toNat],v.2 + 1))) <|
 .ret (.inr (v.1,v.2,decide (v.2 < ((8:Int)))))
def qvw (N n:Nat) (f:qf1) (v:qbI):Option Kf:=qV (qfG N f.1 f.2) some n v
theorem qI0 (N:Nat) (f:qf1) (n:Nat) (v:qbI) (y:Kf) (h:qvw N n f v=some y):LG Tryz.prog XP 59 (qN YB 5) (qH0 f v) (qcy f y):=
 zr qg (E:=qfb N) (L:=qK (qHB N)) (st:=qcy f) (g:=some) (R:=qcy f) (qa2 N) (qn (by kernel_rfl) trivial) (rg0 (by kernel_rfl)) (fun v=>by kernel_rfl) (qZ (st:=qcy f) fun y=>by rfl) (js0 rfl) n v y h
def qpW (N:Nat) (o_5_2:Vector UInt8 32) (s0_5:List UInt8) (o_5:List UInt8) (s20_5:Int):Option Kf:=qvw N N (o_5_2,s0_5) (o_5,s20_5)
def qun (N:Nat):qz:=smL qu2 [.bl,(.ba 32),.bl,(.i .i64)] Kf (fun x=>qpW N x.2.1 x.2.2.1 x.1 x.2.2.2.1) cs1 fun x=>qcy (x.2.1,x.2.2.1)
theorem qF6 (N:Nat):jl Tryz.prog XP 59 (qN YB 5) (qun N):=zA fun x z h=>qI0 N (x.2.1,x.2.2.1) N (x.1,x.2.2.2.1) z h
abbrev ZK:=List UInt8×Vector UInt8 32×Vector UInt32 8×Vector UInt32 64
abbrev QY:=Unit⊕(Vector UInt32 8×List UInt8×Bool)
def ZH (f:ZK):QY→Ex×TSt
 | .inl y=>(.exit 4,⟨0,63,[],[(2,.p 20 [] 0),(3,.v 100050 f.1.length),(5,.p 50 [] 0),(6,.p 60 [] 0),(40,xb (decide (((0:Int)) < ((f.1.length:Nat):Int))))],[(20,.cell false (.tv (.ba 32) f.2.1)),(50,.cell false (.tv (.wa 8) f.2.2.1)),(60,.cell false (.tv (.wa 64) f.2.2.2)),(100050,.vec false 1 .bl f.1)],false,[]⟩)
 | .inr y=>(.exit 4,⟨0,63,[],[(2,.p 20 [] 0),(3,.tv .bl (y.2.1:List UInt8)),(5,.p 50 [] 0),(6,.p 60 [] 0),(40,xb y.2.2)],[(20,.cell false (.tv (.ba 32) f.2.1)),(50,.cell false (.tv (.wa 8) (y.1:Vector UInt32 8))),(60,.cell false (.tv (.wa 64) f.2.2.2))],false,[]⟩)
def qsz (N:Nat):List (Nat×qz):=[]
abbrev Vj:=Vector UInt32 8×List UInt8
def qzA:SP:=⟨0,63,[],[(2,.k (.p 20 [] 0)),(3,.x .bl),(5,.k (.p 50 [] 0)),(6,.k (.p 60 [] 0))],[(20,.cell false (.x (.ba 32))),(50,.cell false (.x (.wa 8))),(60,.cell false (.x (.wa 64)))],false,[]⟩
def qlD (f:ZK) (v:Vj):TSt:=zH qzA [dv (.ba 32) f.2.1,dv (.wa 8) v.1,dv (.wa 64) f.2.2.2,dv .bl v.2]
def qal (N:Nat) (o_10:List UInt8) (o_10_2:Vector UInt8 32) (o_10_3:Vector UInt32 8) (o_10_4:Vector UInt32 64) (v:Vj):Tree (Vj⊕QY):=
 .cond (decide (((0:Int)) < ((v.2.length:Nat):Int))) (
 .chk (0≤(0:Int)∧(0:Int)≤(64:Int)∧(64:Int)≤((v.2.length:Nat):Int)) <|
 .bind (Kn N v.1 o_10_4 ((v.2.take 64).drop 0)) fun r1=>
 .chk (0≤(64:Int)∧(64:Int)≤((v.2.length:Nat):Int)) <|
 .ret (.inl (r1,v.2.drop 64))) <|
 .ret (.inr (.inr ((v.1,v.2,decide (((0:Int)) < ((v.2.length:Nat):Int))))))
def qlw (N n:Nat) (f:ZK) (v:Vj):Option QY:=qV (qal N f.1 f.2.1 f.2.2.1 f.2.2.2) some n v
theorem qzE (N:Nat) (f:ZK) (n:Nat) (v:Vj) (y:QY) (h:qlw N n f v=some y):LG Tryz.prog XP 59 (qN YB 10) (qlD f v) (ZH f y):=
 zr qg (E:=qfb N) (L:=qK (qsz N)) (st:=ZH f) (g:=some) (R:=ZH f) (qa2 N) (qn (by kernel_rfl) trivial) (rg0 (by kernel_rfl)) (fun v=>by kernel_rfl) (qZ (st:=ZH f) fun y=>by rcases y with _ | _<;>rfl) (js0 rfl) n v y h
abbrev qaE:=Unit
def qsC:SP:=⟨0,63,[],[(2,.k (.p 20 [] 0)),(3,.vs 100050),(5,.k (.p 50 [] 0)),(6,.k (.p 60 [] 0))],[(20,.cell false (.x (.ba 32))),(50,.cell false (.x (.wa 8))),(60,.cell false (.x (.wa 64))),(100050,.vec false 1)],false,[]⟩
def qGa (f:ZK) (v:qaE):TSt:=zH qsC [dv .bl f.1,dv (.ba 32) f.2.1,dv (.wa 8) f.2.2.1,dv (.wa 64) f.2.2.2]
abbrev qi0:=Vj⊕QY
def qec (N:Nat) (o_10:List UInt8) (o_10_2:Vector UInt8 32) (o_10_3:Vector UInt32 8) (o_10_4:Vector UInt32 64) (v:qaE):Tree (qaE⊕qi0):=
 .cond (decide (((0:Int)) < ((o_10.length:Nat):Int))) (
 .chk (0≤(0:Int)∧(0:Int)≤(64:Int)∧(64:Int)≤((o_10.length:Nat):Int)) <|
 .chk (o_10.length=o_10.length) <|
 .bind (Kn N o_10_3 o_10_4 ((o_10.take 64).drop 0)) fun r1=>
 .chk (0≤(64:Int)∧(64:Int)≤((o_10.length:Nat):Int)) <|
 .chk (o_10.length=o_10.length) <|
 .ret (.inr (.inl (r1,o_10.drop 64)))) <|
 .ret (.inr (.inr ((.inl ()))))
def qi7 (N n:Nat) (f:ZK):qi0→Option QY
 | .inl w=>qlw N n f w
 | .inr w=>some w
def qFU (f:ZK):qi0→Ex×TSt
 | .inl w=>(.normal,qlD f w)
 | .inr w=>ZH f w
def qsl (N n:Nat) (f:ZK) (v:qaE):Option QY:=qV (qec N f.1 f.2.1 f.2.2.1 f.2.2.2) (qi7 N n f) n v
theorem qFs (N:Nat) (f:ZK) (n:Nat) (v:qaE) (y:QY) (h:qsl N n f v=some y):LG Tryz.prog XP 59 (qN YB 10) (qGa f v) (ZH f y):=
 zr qg (E:=qfb N) (L:=qK (qsz N)) (st:=qFU f) (g:=(qi7 N n f)) (R:=ZH f) (qa2 N) (qn (by kernel_rfl) trivial) (rg0 (by kernel_rfl)) (fun v=>by kernel_rfl) (fun w y h=>by
 rcases w with w | w
 ·exact qzE N f n w y h
 ·exact qZ (st:=ZH f) (fun y=>by rcases y with _ | _<;>rfl) w y h
) (js0 rfl) n v y h
def qdU (N:Nat) (o_10:List UInt8) (o_10_2:Vector UInt8 32) (o_10_3:Vector UInt32 8) (o_10_4:Vector UInt32 64):Option QY:=qsl N N (o_10,o_10_2,o_10_3,o_10_4) ()
def qr4 (N:Nat):qz:=smL qsC [.bl,(.ba 32),(.wa 8),(.wa 64)] QY (fun x=>qdU N x.1 x.2.1 x.2.2.1 x.2.2.2.1) (csS cs1) fun x=>ZH (x.1,x.2.1,x.2.2.1,x.2.2.2.1)
theorem qC3 (N:Nat):jl Tryz.prog XP 59 (qN YB 10) (qr4 N):=zA fun x z h=>qFs N (x.1,x.2.1,x.2.2.1,x.2.2.2.1) N () z h
abbrev qep:=Vector UInt8 32×Vector UInt32 8
abbrev WC:=Vector UInt8 32×Int×Bool
def qaJ (f:qep) (y:WC):Ex×TSt:=(.exit 6,⟨0,63,[],[(2,.p 20 [] 0),(5,.p 50 [] 0),(7,.p 70 [] 0),(46,xi y.2.1),(47,xb y.2.2)],[(20,.cell false (.tv (.ba 32) f.1)),(50,.cell false (.tv (.wa 8) f.2)),(70,.cell false (.tv (.ba 32) (y.1:Vector UInt8 32)))],false,[]⟩)
def qGp (N:Nat):List (Nat×qz):=[]
abbrev qaL:=Vector UInt8 32×Int
def qr6:SP:=⟨0,63,[],[(2,.k (.p 20 [] 0)),(5,.k (.p 50 [] 0)),(7,.k (.p 70 [] 0)),(46,.x (.i .i64))],[(20,.cell false (.x (.ba 32))),(50,.cell false (.x (.wa 8))),(70,.cell false (.x (.ba 32)))],false,[]⟩
def qGG (f:qep) (v:qaL):TSt:=zH qr6 [dv (.ba 32) f.1,dv (.wa 8) f.2,dv (.ba 32) v.1,dv (.i .i64) v.2]
def qeg (N:Nat) (o_15:Vector UInt8 32) (o_15_2:Vector UInt32 8) (v:qaL):Tree (qaL⊕WC):=
 .cond (decide (v.2 < ((32:Int)))) (
 .chk ((4:Int)≠0) <|
 .chk (qw (v.2.tdiv 4)) <|
 .chk (0≤(v.2.tdiv 4)∧(v.2.tdiv 4) < ((8:Nat):Int)) <|
 .chk ((v.2.tdiv 4).toNat < 8) <|
 .chk ((4:Int)≠0) <|
 .chk (qw (((8:Int)) * (v.2.tmod 4))) <|
 .chk (qw (((24:Int)) - (((8:Int)) * (v.2.tmod 4)))) <|
 .chk (0≤(((24:Int)) - (((8:Int)) * (v.2.tmod 4)))) <|
 let w1:Int:=Zz (((o_15_2.toList.getD ((v.2.tdiv 4).toNat) 0).toNat:Nat):Int) (min (((24:Int)) - (((8:Int)) * (v.2.tmod 4))).toNat 32)
 .chk (0≤v.2∧v.2 < ((32:Nat):Int)) <|
 .chk (inB (IntKind.u8.wrap w1)) <|
 .chk (v.2.toNat < 32) <|
 .chk (qw (v.2 + 1)) <|
 .ret (.inl (v.1.setIfInBounds v.2.toNat (UInt8.ofNat (IntKind.u8.wrap w1).toNat),v.2 + 1))) <|
 .ret (.inr (v.1,v.2,decide (v.2 < ((32:Int)))))
def qr_ (N n:Nat) (f:qep) (v:qaL):Option WC:=qV (qeg N f.1 f.2) some n v
theorem qFI (N:Nat) (f:qep) (n:Nat) (v:qaL) (y:WC) (h:qr_ N n f v=some y):LG Tryz.prog XP 59 (qN YB 15) (qGG f v) (qaJ f y):=
 zr qg (E:=qfb N) (L:=qK (qGp N)) (st:=qaJ f) (g:=some) (R:=qaJ f) (qa2 N) (qn (by kernel_rfl) trivial) (rg0 (by kernel_rfl)) (fun v=>by kernel_rfl) (qZ (st:=qaJ f) fun y=>by rfl) (js0 rfl) n v y h
def qhI (N:Nat) (o_15:Vector UInt8 32) (o_15_2:Vector UInt32 8) (o_15_3:Vector UInt8 32) (s46_15:Int):Option WC:=qr_ N N (o_15,o_15_2) (o_15_3,s46_15)
def qr3 (N:Nat):qz:=smL qr6 [(.ba 32),(.wa 8),(.ba 32),(.i .i64)] WC (fun x=>qhI N x.1 x.2.1 x.2.2.1 x.2.2.2.1) cs1 fun x=>qaJ (x.1,x.2.1)
theorem qDp (N:Nat):jl Tryz.prog XP 59 (qN YB 15) (qr3 N):=zA fun x z h=>qFI N (x.1,x.2.1) N (x.2.2.1,x.2.2.2.1) z h
def qu3 (z:Vector UInt8 32):TV×THp:=(.tv (.ba 32) z,[])
def qtl (N:Nat) (a0:List UInt8):Tree (Vector UInt8 32):=
 .bind (Kv a0) fun r1=>
 .chk (jG (((([]:List UInt8))++a0).length) (((([]:List UInt8))++a0).length) ((((([]:List UInt8))++a0)++[(UInt8.ofNat 128)]).length) 1) <|
 .bind (zY [((((([]:List UInt8))++a0)++[(UInt8.ofNat 128)]).length,(((([]:List UInt8))++a0)++[(UInt8.ofNat 128)]).length)] (qj1 N ((Vector.replicate 32 0)) a0 (((([]:List UInt8))++a0)++[(UInt8.ofNat 128)]))) fun z2=>
 .bind (zY [(z2.1.length,z2.1.length)] (qpW N ((Vector.replicate 32 0)) a0 z2.1 0)) fun z3=>
 .bind (qvI) fun r4=>
 .bind (quF) fun r5=>
 .bind (zY [(z3.1.length,z3.1.length)] (qdU N z3.1 ((Vector.replicate 32 0)) ((((((((((Vector.replicate 8 0)).setIfInBounds 0 ((UInt32.ofNat 1779033703))).setIfInBounds 1 ((UInt32.ofNat 3144134277))).setIfInBounds 2 ((UInt32.ofNat 1013904242))).setIfInBounds 3 ((UInt32.ofNat 2773480762))).setIfInBounds 4 ((UInt32.ofNat 1359893119))).setIfInBounds 5 ((UInt32.ofNat 2600822924))).setIfInBounds 6 ((UInt32.ofNat 528734635))).setIfInBounds 7 ((UInt32.ofNat 1541459225))) ((((((((((((((((((((((((((((((((((((((((((((((((((((((((((((((((((Vector.replicate 64 0)).setIfInBounds 0 ((UInt32.ofNat 1116352408))).setIfInBounds 1 ((UInt32.ofNat 1899447441))).setIfInBounds 2 ((UInt32.ofNat 3049323471))).setIfInBounds 3 ((UInt32.ofNat 3921009573))).setIfInBounds 4 ((UInt32.ofNat 961987163))).setIfInBounds 5 ((UInt32.ofNat 1508970993))).setIfInBounds 6 ((UInt32.ofNat 2453635748))).setIfInBounds 7 ((UInt32.ofNat 2870763221))).setIfInBounds 8 ((UInt32.ofNat 3624381080))).setIfInBounds 9 ((UInt32.ofNat 310598401))).setIfInBounds 10 ((UInt32.ofNat 607225278))).setIfInBounds 11 ((UInt32.ofNat 1426881987))).setIfInBounds 12 ((UInt32.ofNat 1925078388))).setIfInBounds 13 ((UInt32.ofNat 2162078206))).setIfInBounds 14 ((UInt32.ofNat 2614888103))).setIfInBounds 15 ((UInt32.ofNat 3248222580))).setIfInBounds 16 ((UInt32.ofNat 3835390401))).setIfInBounds 17 ((UInt32.ofNat 4022224774))).setIfInBounds 18 ((UInt32.ofNat 264347078))).setIfInBounds 19 ((UInt32.ofNat 604807628))).setIfInBounds 20 ((UInt32.ofNat 770255983))).setIfInBounds 21 ((UInt32.ofNat 1249150122))).setIfInBounds 22 ((UInt32.ofNat 1555081692))).setIfInBounds 23 ((UInt32.ofNat 1996064986))).setIfInBounds 24 ((UInt32.ofNat 2554220882))).setIfInBounds 25 ((UInt32.ofNat 2821834349))).setIfInBounds 26 ((UInt32.ofNat 2952996808))).setIfInBounds 27 ((UInt32.ofNat 3210313671))).setIfInBounds 28 ((UInt32.ofNat 3336571891))).setIfInBounds 29 ((UInt32.ofNat 3584528711))).setIfInBounds 30 ((UInt32.ofNat 113926993))).setIfInBounds 31 ((UInt32.ofNat 338241895))).setIfInBounds 32 ((UInt32.ofNat 666307205))).setIfInBounds 33 ((UInt32.ofNat 773529912))).setIfInBounds 34 ((UInt32.ofNat 1294757372))).setIfInBounds 35 ((UInt32.ofNat 1396182291))).setIfInBounds 36 ((UInt32.ofNat 1695183700))).setIfInBounds 37 ((UInt32.ofNat 1986661051))).setIfInBounds 38 ((UInt32.ofNat 2177026350))).setIfInBounds 39 ((UInt32.ofNat 2456956037))).setIfInBounds 40 ((UInt32.ofNat 2730485921))).setIfInBounds 41 ((UInt32.ofNat 2820302411))).setIfInBounds 42 ((UInt32.ofNat 3259730800))).setIfInBounds 43 ((UInt32.ofNat 3345764771))).setIfInBounds 44 ((UInt32.ofNat 3516065817))).setIfInBounds 45 ((UInt32.ofNat 3600352804))).setIfInBounds 46 ((UInt32.ofNat 4094571909))).setIfInBounds 47 ((UInt32.ofNat 275423344))).setIfInBounds 48 ((UInt32.ofNat 430227734))).setIfInBounds 49 ((UInt32.ofNat 506948616))).setIfInBounds 50 ((UInt32.ofNat 659060556))).setIfInBounds 51 ((UInt32.ofNat 883997877))).setIfInBounds 52 ((UInt32.ofNat 958139571))).setIfInBounds 53 ((UInt32.ofNat 1322822218))).setIfInBounds 54 ((UInt32.ofNat 1537002063))).setIfInBounds 55 ((UInt32.ofNat 1747873779))).setIfInBounds 56 ((UInt32.ofNat 1955562222))).setIfInBounds 57 ((UInt32.ofNat 2024104815))).setIfInBounds 58 ((UInt32.ofNat 2227730452))).setIfInBounds 59 ((UInt32.ofNat 2361852424))).setIfInBounds 60 ((UInt32.ofNat 2428436474))).setIfInBounds 61 ((UInt32.ofNat 2756734187))).setIfInBounds 62 ((UInt32.ofNat 3204031479))).setIfInBounds 63 ((UInt32.ofNat 3329325298))))) fun z6=>
 .sum z6 (fun z7=>
 .bind (qhI N ((Vector.replicate 32 0)) ((((((((((Vector.replicate 8 0)).setIfInBounds 0 ((UInt32.ofNat 1779033703))).setIfInBounds 1 ((UInt32.ofNat 3144134277))).setIfInBounds 2 ((UInt32.ofNat 1013904242))).setIfInBounds 3 ((UInt32.ofNat 2773480762))).setIfInBounds 4 ((UInt32.ofNat 1359893119))).setIfInBounds 5 ((UInt32.ofNat 2600822924))).setIfInBounds 6 ((UInt32.ofNat 528734635))).setIfInBounds 7 ((UInt32.ofNat 1541459225))) ((Vector.replicate 32 0)) 0) fun z8=>
 .ret z8.1) fun z7=>
 .bind (qhI N ((Vector.replicate 32 0)) z7.1 ((Vector.replicate 32 0)) 0) fun z8=>
 .ret z8.1
def ZZ (N:Nat) (a0:List UInt8):Option (Vector UInt8 32):=(qtl N a0).run some
def qQp (N:Nat):List (Nat×qz):=[(2,quf N),(5,qun N),(10,qr4 N),(15,qr3 N)]
def qvm (N:Nat):Ent:=smF ⟨59,[],[.x .bl],[],[]⟩ [.bl] (Vector UInt8 32) (fun x=>ZZ N x.1) cs1 fun _=>qu3
theorem qLU (N:Nat):YJ Tryz.prog ⟨59,[],[.x .bl],[],[]⟩ [.bl] (fun x=>qtl N x.1) (fun _=>qu3):=
 Xz (H:=XP) (L:=qK (qQp N)) 0 qTJ (qa2 N) (qn (by kernel_rfl) ⟨qF2 N,qF6 N,qC3 N,qDp N,trivial⟩) (rg0 (by kernel_rfl)) fun x=>by kernel_rfl
theorem qrn (N:Nat):ze Tryz.prog (qvm N):=qd5 (qLU N)
noncomputable def qRG:Code:=Tryz.f154.body.getD .skip
theorem qS7:FnF Tryz.prog 154 Tryz.f154 qRG:=⟨qg,by kernel_rfl,by kernel_rfl,by kernel_rfl⟩
def qNF:TH:={ live:=[(0,[0,1,2]),(1,[6])],dec:=[10] }
def qPn (N:Nat):List Ent:=[]
theorem qIk (N:Nat):qQ Tryz.prog (qPn N):=trivial
def qN7 (z:Bool):TV×THp:=(xb z,[])
def qqf (a0:Int) (a1:Int) (a2:Int):Tree (Bool):=
 .cond (decide (a1≤a0)) (
 .ret (decide (a0≤a2))) <|
 .ret false
def qg0 (a0:Int) (a1:Int) (a2:Int):Option (Bool):=(qqf a0 a1 a2).run some
def qNj:List (Nat×qz):=[]
def qBi:Ent:=smF ⟨154,[],[.x (.i .i64),.x (.i .i64),.x (.i .i64)],[],[]⟩ [(.i .i64),(.i .i64),(.i .i64)] (Bool) (fun x=>qg0 x.1 x.2.1 x.2.2.1) cs1 fun _=>qN7
theorem qK5:ze Tryz.prog (qBi):=
 zc (H:=qNF) (L:=qK (qNj)) (ts:=[(.i .i64),(.i .i64),(.i .i64)]) (T:=fun x=>qqf x.1 x.2.1 x.2.2.1) 0 qS7 (qIk 0) (qn (by kernel_rfl) trivial) (rg0 (by kernel_rfl)) fun x=>by kernel_rfl
noncomputable def qTZ:Code:=Tryz.f97.body.getD .skip
theorem qVg:FnF Tryz.prog 97 Tryz.f97 qTZ:=⟨qg,by kernel_rfl,by kernel_rfl,by kernel_rfl⟩
def qKw:TH:={ live:=[(0,[1]),(1,[1,4]),(2,[2]),(3,[2])],dec:=[8,13,23] }
def qLk (N:Nat):List Ent:=[qBi]
theorem qGx (N:Nat):qQ Tryz.prog (qLk N):=⟨qK5,trivial⟩
def qK8 (z:Bool):TV×THp:=(xb z,[])
def qnE (a0:ql):Tree (Bool):=
 .cond (ql.qhu a0) (
 .bind (qg0 (ql.vV a0) 0 200) fun r1=>
 .cond r1 (
 .bind (qg0 (ql.Len a0) 1 200) fun r2=>
 .cond r2 (
 .ret (decide ((ql.Lit a0)=[]))) <|
 .ret false) <|
 .ret false) <|
 .cond (eqE qS a0 (ql.mk false 0 0 (ql.Lit a0))) (
 .bind (qg0 (((ql.Lit a0).length:Nat):Int) 1 200) fun r1=>
 .ret r1) <|
 .ret false
def qnf (a0:ql):Option (Bool):=(qnE a0).run some
def qKO:List (Nat×qz):=[]
def qx3:Ent:=smF ⟨97,[],[.x qS],[],[]⟩ [qS] (Bool) (fun x=>qnf x.1) cs1 fun _=>qK8
theorem qIO:ze Tryz.prog (qx3):=
 zc (H:=qKw) (L:=qK (qKO)) (ts:=[qS]) (T:=fun x=>qnE x.1) 0 qVg (qGx 0) (qn (by kernel_rfl) trivial) (rg0 (by kernel_rfl)) fun x=>by kernel_rfl
noncomputable def qyY:Code:=Tryz.f57.body.getD .skip
theorem qU4:FnF Tryz.prog 57 Tryz.f57 qyY:=⟨qg,by kernel_rfl,by kernel_rfl,by kernel_rfl⟩
def qnw:TH:={ live:=[(0,[0]),(1,[0,3]),(2,[0,3,6,7,8]),(3,[0,3,6,7,8,9]),(4,[0,3,5,6,7,8]),(5,[0,3,5,6,7,8,14]),(6,[2]),(7,[0,3,6,7,8]),(8,[0,3,6,7,8]),(9,[2])],dec:=[27] }
def qxE (N:Nat):List Ent:=[qx3]
theorem qsq (N:Nat):qQ Tryz.prog (qxE N):=⟨qIO,trivial⟩
abbrev qcK:=List ql×List ql×Int
abbrev X0:=Unit⊕(Int×Int×Bool)
def Ks (f:qcK):X0→Ex×TSt
 | .inl y=>(.ret,⟨0,31,[],[(2,.bc false)],[],false,[]⟩)
 | .inr y=>(.exit 0,⟨0,31,[],[(0,.tv (.sl 4 qS) f.1),(3,xi y.1),(6,.tv (.sl 4 qS) f.2.1),(7,xi f.2.2),(8,xi y.2.1),(9,xb y.2.2)],[],false,[]⟩)
def qDn (N:Nat):List (Nat×qz):=[]
abbrev Kq:=Int×Int
def qpk:SP:=⟨0,31,[],[(0,.x (.sl 4 qS)),(3,.x (.i .i64)),(6,.x (.sl 4 qS)),(7,.x (.i .i64)),(8,.x (.i .i64))],[],false,[]⟩
def qCH (f:qcK) (v:Kq):TSt:=zH qpk [dv (.sl 4 qS) f.1,dv (.i .i64) v.1,dv (.sl 4 qS) f.2.1,dv (.i .i64) f.2.2,dv (.i .i64) v.2]
def qc0 (N:Nat) (s0_3:List ql) (s6_3:List ql) (s7_3:Int) (v:Kq):Tree (Kq⊕X0):=
 .cond (decide (v.2 < s7_3)) (
 .bind (zl s6_3 v.2) fun e1=>
 .bind (qnf e1) fun r2=>
 .cond (!r2) (
 .ret (.inr (.inl ()))) <|
 .chk (qw ((ql.Len e1) + (((ql.Lit e1).length:Nat):Int))) <|
 .chk (qw (v.1 + ((ql.Len e1) + (((ql.Lit e1).length:Nat):Int)))) <|
 .chk (qw (v.2 + 1)) <|
 .ret (.inl (v.1 + ((ql.Len e1) + (((ql.Lit e1).length:Nat):Int)),v.2 + 1))) <|
 .ret (.inr (.inr ((v.1,v.2,decide (v.2 < s7_3)))))
def qpl (N n:Nat) (f:qcK) (v:Kq):Option X0:=qV (qc0 N f.1 f.2.1 f.2.2) some n v
theorem qEb (N:Nat) (f:qcK) (n:Nat) (v:Kq) (y:X0) (h:qpl N n f v=some y):LG Tryz.prog qnw 57 (qN qyY 3) (qCH f v) (Ks f y):=
 zr qg (E:=qxE N) (L:=qK (qDn N)) (st:=Ks f) (g:=some) (R:=Ks f) (qsq N) (qn (by kernel_rfl) trivial) (rg0 (by kernel_rfl)) (fun v=>by kernel_rfl) (qZ (st:=Ks f) fun y=>by rcases y with _ | _<;>rfl) (js0 rfl) n v y h
def qkT (N:Nat) (s0_3:List ql) (s6_3:List ql) (s7_3:Int) (s3_3:Int) (s8_3:Int):Option X0:=qpl N N (s0_3,s6_3,s7_3) (s3_3,s8_3)
def qpi (N:Nat):qz:=smL qpk [(.sl 4 qS),(.i .i64),(.sl 4 qS),(.i .i64),(.i .i64)] X0 (fun x=>qkT N x.1 x.2.2.1 x.2.2.2.1 x.2.1 x.2.2.2.2.1) (csS cs1) fun x=>Ks (x.1,x.2.2.1,x.2.2.2.1)
theorem qA6 (N:Nat):jl Tryz.prog qnw 57 (qN qyY 3) (qpi N):=zA fun x z h=>qEb N (x.1,x.2.2.1,x.2.2.2.1) N (x.2.1,x.2.2.2.2.1) z h
def qxL (z:Bool):TV×THp:=(xb z,[])
def qnu (N:Nat) (a0:List ql):Tree (Bool):=
 .bind (qkT N a0 a0 ((a0.length:Nat):Int) 0 0) fun z1=>
 .sum z1 (fun z2=>
 .ret false) fun z2=>
 .cond (decide (((a0.length:Nat):Int)≤((60:Int)))) (
 .ret (decide (z2.1≤200))) <|
 .ret false
def XQ (N:Nat) (a0:List ql):Option (Bool):=(qnu N a0).run some
def qLG (N:Nat):List (Nat×qz):=[(3,qpi N)]
def qxW (N:Nat):Ent:=smF ⟨57,[],[.x (.sl 4 qS)],[],[]⟩ [(.sl 4 qS)] (Bool) (fun x=>XQ N x.1) cs1 fun _=>qxL
theorem qsc (N:Nat):YJ Tryz.prog ⟨57,[],[.x (.sl 4 qS)],[],[]⟩ [(.sl 4 qS)] (fun x=>qnu N x.1) (fun _=>qxL):=
 Xz (H:=qnw) (L:=qK (qLG N)) 0 qU4 (qsq N) (qn (by kernel_rfl) ⟨qA6 N,trivial⟩) (rg0 (by kernel_rfl)) fun x=>by kernel_rfl
theorem qJc (N:Nat):ze Tryz.prog (qxW N):=qd5 (qsc N)
end Go.Rx
end
set_option maxRecDepth 100000
noncomputable section
namespace Go.Rx
open Go.Proofs
def dg0:Vector UInt8 32:=#v[118,99,1,96,12,203,54,193,231,208,135,248,148,70,232,115,2,206,24,51,13,41,70,141,54,182,85,66,245,240,1,254]
theorem qY2:ZZ 300 [97,98,99,100,101,102,103,104,105,106,107,108,109,110,111,112,113,114,115,116,117,118,119,120,121,122,97,98,99,100,101,102,103,104,105,106,107,108,109,110,111,112,113,114,115,116,117,118,119,120,121,122,48,49,50,51,52,53,54,55]=some dg0:=by kernel_rfl
def dg1:Vector UInt8 32:=#v[156,86,204,81,179,116,195,186,24,146,16,213,182,212,191,87,121,13,53,28,150,196,124,2,25,14,207,30,67,6,53,171]
theorem qYQ:ZZ 300 [97,98,99,100,101,102,103,104]=some dg1:=by kernel_rfl
def dg2:Vector UInt8 32:=#v[210,120,154,41,244,139,239,233,106,112,239,62,62,175,87,151,95,105,33,101,21,94,150,136,11,49,12,130,172,1,46,191]
theorem qYT:ZZ 300 [105,106,107,108,109,110,111,112]=some dg2:=by kernel_rfl
def dg3:Vector UInt8 32:=#v[197,135,227,42,18,8,86,19,65,60,61,101,45,92,124,89,175,109,180,168,38,2,55,155,210,178,96,146,177,239,196,90]
theorem qYL:ZZ 300 [113,114,115,116,117,118,119,120]=some dg3:=by kernel_rfl
def dg4:Vector UInt8 32:=#v[150,239,24,103,147,186,12,250,10,198,74,13,101,159,194,215,120,120,169,117,53,109,88,75,249,161,180,99,146,230,6,179]
theorem qYF:ZZ 300 [121,122,97,98,99,100,101,102]=some dg4:=by kernel_rfl
def dg5:Vector UInt8 32:=#v[71,69,62,151,123,59,72,28,8,76,212,55,99,253,173,147,178,76,67,11,113,116,208,32,42,226,148,15,71,113,226,162]
theorem qYH:ZZ 300 [103,104,105,106,107,108,109,110]=some dg5:=by kernel_rfl
def dg6:Vector UInt8 32:=#v[79,211,71,63,143,235,195,159,150,217,168,101,174,14,19,18,178,121,233,148,48,227,126,52,73,64,212,160,105,116,19,143]
theorem qYW:ZZ 300 [111,112,113,114,115,116,117,118]=some dg6:=by kernel_rfl
def dg7:Vector UInt8 32:=#v[119,101,167,149,102,39,23,25,205,5,183,106,113,236,217,203,73,79,160,221,18,60,226,167,162,47,4,177,225,61,223,192]
theorem qYN:ZZ 300 [119,120,121,122,48,49,50,51]=some dg7:=by kernel_rfl
def dg8:Vector UInt8 32:=#v[198,195,154,198,5,20,157,22,8,45,30,162,190,152,144,103,130,95,236,29,151,198,234,218,62,84,180,251,158,162,179,113]
theorem qYY:ZZ 300 [1,7,0,0,0,0,0,0,0,0,0,0,0,0,0,0,0,0,1,2,9,60,97,98,99,100,101,102,103,104,105,106,107,108,109,110,111,112,113,114,115,116,117,118,119,120,121,122,97,98,99,100,101,102,103,104,105,106,107,108,109,110,111,112,113,114,115,116,117,118,119,120,121,122,48,49,50,51,52,53,54,55]=some dg8:=by kernel_rfl
def qYn:List (List UInt8×Vector UInt8 32):=[([97,98,99,100,101,102,103,104,105,106,107,108,109,110,111,112,113,114,115,116,117,118,119,120,121,122,97,98,99,100,101,102,103,104,105,106,107,108,109,110,111,112,113,114,115,116,117,118,119,120,121,122,48,49,50,51,52,53,54,55],dg0),([97,98,99,100,101,102,103,104],dg1),([105,106,107,108,109,110,111,112],dg2),([113,114,115,116,117,118,119,120],dg3),([121,122,97,98,99,100,101,102],dg4),([103,104,105,106,107,108,109,110],dg5),([111,112,113,114,115,116,117,118],dg6),([119,120,121,122,48,49,50,51],dg7),([1,7,0,0,0,0,0,0,0,0,0,0,0,0,0,0,0,0,1,2,9,60,97,98,99,100,101,102,103,104,105,106,107,108,109,110,111,112,113,114,115,116,117,118,119,120,121,122,97,98,99,100,101,102,103,104,105,106,107,108,109,110,111,112,113,114,115,116,117,118,119,120,121,122,48,49,50,51,52,53,54,55],dg8)]
theorem qWH:qNp (ZZ 300) qYn:=⟨qY2,qYQ,qYT,qYL,qYF,qYH,qYW,qYN,qYY,trivial⟩
def qIW:Ent:=smF ⟨59,[],[.x .bl],[],[]⟩ [.bl] (Vector UInt8 32) (fun x=>qJH qYn x.1) cs1 fun _=>qu3
theorem qWY:ze Tryz.prog qIW:=qYi (qrn 300) fun x z h=>qMB qWH x.1 z h
end Go.Rx
end
set_option maxRecDepth 100000
noncomputable section
namespace Go.Rx
open Go.Proofs
def qXy:List (Nat×TH):=[(10,{ live:=[(1,[1]),(2,[1,3]),(3,[3,5]),(4,[3,5,7]),(5,[7,8]),(6,[0])],dec:=[37,44,52,59,68,73],rd:=[(1,[1]),(2,[3]),(3,[5])] }),
 (14,{ live:=[(0,[2,3]),(1,[4])] }),
 (16,{ live:=[(0,[2,3]),(1,[4])] }),
 (19,{ live:=[(0,[3,4,5,6]),(1,[6])],fresh:=[10] }),
 (21,{ live:=[(0,[1,2]),(1,[1,2,13]),(2,[2,3]),(3,[1,2,4]),(4,[2,4,19,20,21]),(5,[2,4,19,20,21,22]),(6,[2,4,6,19,20,21]),(7,[2,4,6,7,19,20,21]),(8,[2,4,7,19,20,21,31,32,33]),(9,[2,4,7,19,20,21,31,32,33,34]),(10,[2,4,7,9,19,20,21,31,32,33]),(11,[2,4,7,9,10,19,20,21,31,32,33]),(12,[2,4,7,19,20,21,31,32,33]),(13,[2,4,7,19,20,21,31,32,33]),(14,[2,4,19,20,21]),(15,[2,4,19,20,21]),(16,[2,3])],rd:=[(6,[6]),(10,[9])] }),
 (22,{ live:=[(0,[1]),(1,[1,23]),(2,[2]),(3,[2])],dec:=[6,11,18,27,32,37,43] }),
 (23,{ live:=[(0,[1]),(1,[3]),(2,[2])] }),
 (24,{ live:=[(0,[0,2]),(1,[2])] }),
 (25,{ live:=[(0,[2,3,4]),(1,[2,3,4,22]),(2,[4,5]),(3,[2,3,4,6]),(4,[2,3,4,6,7]),(5,[4,6,7,30,31,32]),(6,[4,6,7,30,31,32,33]),(7,[4,6,7,9,30,31,32]),(8,[4,6,7,9,10,11,30,31,32]),(9,[4,6,7,9,10,30,31,32,44]),(10,[4,6,7,9,30,31,32]),(11,[4,6,7,30,31,32]),(12,[4,6,7,30,31,32]),(13,[4,6,7,30,31,32]),(14,[4,6,7,67]),(15,[4,5]),(16,[4,6,7]),(17,[4,6,7,12]),(18,[4,6,12,71,72,73]),(19,[4,6,12,71,72,73,74]),(20,[4,6,12,14,71,72,73]),(21,[4,6,12,71,72,73]),(22,[4,6,12,71,72,73]),(23,[4,5])],dec:=[18],rd:=[(7,[9]),(8,[10]),(20,[14])] }),
 (33,{ live:=[(0,[3,5,6,7,9,10]),(1,[3,5,6,7,9,10,27]),(2,[10,11]),(3,[10,11])],dec:=[15,19,23] }),
 (34,{ live:=[(1,[0])] }),
 (36,{ live:=[(0,[2,3,4]),(1,[2,3,4,7]),(2,[2,7,14,15,16]),(3,[2,7,14,15,16,17]),(4,[2,7,9,14,15,16]),(5,[2,7,9,14,15,16,23]),(6,[2,7,9,14,15,16]),(7,[2,7,9,14,15,16,33,34,35]),(8,[2,7,9,14,15,16,33,34,35,36]),(9,[2,7,9,11,14,15,16,33,34,35]),(10,[2,7,9,14,15,16,33,34,35]),(11,[2,7,9,14,15,16,33,34,35]),(12,[2,7,14,15,16]),(13,[6])],rd:=[(4,[9]),(9,[11])] }),
 (37,{ live:=[(0,[2,3,4]),(1,[4])] }),
 (39,{ live:=[(0,[2,3,4,5]),(1,[5])] }),
 (41,{ live:=[(0,[0,3,4]),(1,[0,3,4,5]),(2,[0,3,4,5,6]),(3,[3,4,5,6,9]),(4,[3,5,6,7]),(5,[5,6,7,8]),(6,[5,6,7,8,20]),(8,[4])],dec:=[16],rd:=[(4,[7])] }),
 (42,{ live:=[(0,[3,4,5]),(1,[6])],esc:=true }),
 (50,{ live:=[(0,[1]),(1,[1,6,7,8]),(2,[1,6,7,8,9]),(3,[1,3,4,6,7,8]),(4,[1,6,7,8,32]),(5,[2]),(6,[1,6,7,8]),(7,[2])],dec:=[16,19],rd:=[(3,[4])] }),
 (51,{ live:=[(0,[1,2]),(1,[2,3]),(2,[2])] }),
 (52,{ live:=[(0,[0]),(1,[0,6]),(2,[2]),(3,[0,3]),(4,[0,3,9]),(5,[0,3]),(6,[0,3]),(7,[2])] }),
 (53,{ live:=[(0,[2,3]),(1,[2,3,5]),(2,[4])],dec:=[11,18,25,33,40,47,54,61] }),
 (54,{ live:=[(0,[1,2]),(1,[1,2,3]),(2,[1,2,3,12]),(3,[1,2,3,12,13]),(4,[2,3]),(5,[1,2,3,12,21]),(6,[2,3]),(7,[1,2,3,35]),(8,[2,3]),(9,[2])] }),
 (55,{ live:=[(0,[1]),(1,[2])],dec:=[6,10,15,20] }),
 (56,{ live:=[(0,[0]),(1,[2])],dec:=[5] }),
 (57,{ live:=[(0,[0]),(1,[0,3]),(2,[0,3,6,7,8]),(3,[0,3,6,7,8,9]),(4,[0,3,5,6,7,8]),(5,[0,3,5,6,7,8,14]),(6,[2]),(7,[0,3,6,7,8]),(8,[0,3,6,7,8]),(9,[2])],dec:=[27],rd:=[(4,[5])] }),
 (58,{ live:=[(0,[1]),(1,[1,12]),(2,[2,3]),(3,[1,4]),(4,[1,6]),(5,[1,6,7]),(6,[1,6,7,32]),(7,[1,6,7,32,33]),(8,[6]),(9,[1,6,7,32,43]),(10,[6]),(11,[1,6,7,58]),(12,[1,6,7,8]),(13,[6]),(14,[2,3])],rd:=[(0,[1])] }),
 (59,{ live:=[(0,[0,2]),(1,[0,2,3]),(2,[0,2,3,16]),(3,[0,2,3]),(4,[0,2,3,20]),(5,[0,2,3,20,21]),(6,[0,2,3,4,20]),(7,[0,2,3,20]),(8,[0,2,3,20]),(9,[2,3,5,6]),(10,[2,3,5,6,40]),(11,[2,3,5,6]),(12,[2,3,5,6]),(13,[2,5,7]),(14,[2,5,7,46]),(15,[2,5,7,46,47]),(16,[2,5,7,8,46]),(17,[2,5,7,46]),(18,[2,5,7,46]),(19,[2])],fresh:=[10] }),
 (60,{ live:=[(0,[0]),(1,[0,3]),(2,[0,3,9,10,11]),(3,[0,3,9,10,11,12]),(4,[0,3,5,9,10,11]),(5,[0,3,9,10,11]),(6,[0,3,9,10,11,20]),(7,[0,3,9,10,11]),(8,[0,3,9,10,11]),(9,[0,6]),(10,[6,25,26,27]),(11,[6,25,26,27,28]),(12,[6,8,25,26,27]),(13,[6,25,26,27]),(14,[6,25,26,27]),(15,[2])],raw:=[106],fresh:=[24] }),
 (61,{ live:=[(0,[1,2]),(1,[1,2]),(2,[2])] }),
 (62,{ live:=[(0,[2,3,4]),(1,[2,3,4,23]),(2,[4,5]),(3,[2,3,4,6]),(4,[2,3,4,6]),(5,[2,3,4,6]),(6,[4,6,7]),(7,[4,7,43]),(8,[7,8]),(10,[4,5])],dec:=[12,17],fresh:=[43],rd:=[(8,[8])] }),
 (63,{ live:=[(0,[0,1,4])] }),
 (64,{ live:=[(0,[2,3]),(1,[4])] }),
 (80,{ live:=[(0,[1,2,3,6]),(1,[2,3,6,8,9]),(2,[2,3,6,8,9,18]),(3,[6,7]),(4,[6,7])],rd:=[(1,[8])] }),
 (81,{ live:=[(0,[1,2,3,4,5]),(1,[5])] }),
 (82,{ live:=[(0,[2,3]),(1,[2,3,14]),(2,[4]),(3,[2,3,5]),(4,[5,17]),(5,[5,6]),(6,[5,6,21]),(8,[4])],dec:=[10],fresh:=[17],rd:=[(5,[6])] }),
 (84,{ live:=[(0,[0,1,2,3,18]),(1,[0,1,2,3,5]),(2,[0,1,2,3,5,6]),(3,[0,1,2,3,6,7,8,9]),(4,[0,1,2,3,6,7,8,42]),(5,[0,1,2,3,6,7,8,10]),(6,[0,1,2,3,6,10]),(7,[0,1,2,3,6,52]),(8,[0,2,6,11]),(9,[0,2,6,11,64]),(10,[0,6]),(11,[0,6,75])],rd:=[(1,[5]),(3,[7]),(8,[11])] }),
 (85,{ live:=[(0,[2,3,4,6]),(1,[2,3,4,6,9]),(2,[2,4,6,9,18]),(3,[9,10,20]),(4,[9,10,11]),(5,[9,10,11,13]),(6,[9,10,11,28]),(8,[6,14,15]),(9,[6,7,8])],fresh:=[18],rd:=[(1,[9]),(3,[10]),(4,[11]),(5,[12]),(8,[14])] }),
 (86,{ live:=[(0,[3,4,5,6]),(1,[5,6,8]),(2,[6,8,10]),(3,[6,8,10,22]),(4,[6,7]),(5,[6,7])],rd:=[(1,[8])] }),
 (87,{ live:=[(0,[0,1]),(1,[0,1,5]),(2,[0,1,5,6,7]),(3,[0,1,5,6,7,16]),(4,[4]),(5,[0,1,5,6,7,8]),(6,[0,1,5,6,7,8,29]),(7,[0,1,5,6,7]),(8,[0,1,5,6,7]),(9,[0,1,5,6,7]),(10,[0,1,5,6,7])] }),
 (92,{ live:=[(0,[1]),(1,[1,21]),(2,[2]),(3,[1,23,24,25]),(4,[1,23,24,25,26]),(5,[1,3,4,23,24,25]),(6,[1,4,5,23,24,25]),(7,[1,23,24,25,74]),(8,[2]),(9,[1,23,24,25]),(10,[2])],dec:=[10,15,32,37,40,55,60,66],rd:=[(5,[4])] }),
 (93,{ live:=[(0,[2,3]),(1,[4])],dec:=[8] }),
 (94,{ live:=[(0,[1]),(1,[1,15]),(2,[2,3]),(3,[1,4]),(4,[4,22,23,24]),(5,[4,22,23,24,25]),(6,[4,6,22,23,24]),(7,[4,6,7,22,23,24]),(8,[4,6,22,23,24]),(9,[4,22,23,24,47,48,49]),(10,[4,22,23,24,47,48,49,50]),(11,[4,10,22,23,24,47,48,49]),(12,[4,10,11,22,23,24,47,48,49]),(13,[4,22,23,24,47,48,49]),(14,[4,22,23,24,47,48,49]),(15,[4,22,23,24]),(16,[2,3])],fresh:=[20],esc:=true,rd:=[(6,[6]),(11,[10])] }),
 (95,{ live:=[(0,[0,2]),(1,[2])] }),
 (96,{ live:=[(0,[0,1]),(1,[4])] }),
 (97,{ live:=[(0,[1]),(1,[1,4]),(2,[2]),(3,[2])],dec:=[8,13,23] }),
 (98,{ live:=[(0,[1]),(1,[1,6]),(2,[2,3]),(3,[2,3])],fresh:=[15],esc:=true }),
 (99,{ live:=[(0,[0]),(1,[0,3]),(2,[0,3,9,10,11]),(3,[0,3,9,10,11,12]),(4,[0,3,5,9,10,11]),(5,[0,3,9,10,11]),(6,[0,3,9,10,11,20]),(7,[0,3,9,10,11]),(8,[0,3,9,10,11]),(9,[0,6]),(10,[6,25,26,27]),(11,[6,25,26,27,28]),(12,[6,8,25,26,27]),(13,[6,25,26,27]),(14,[6,25,26,27]),(15,[2])],raw:=[155],fresh:=[24] }),
 (100,{ live:=[(0,[0]),(1,[2])],fresh:=[6],esc:=true }),
 (101,{ live:=[(0,[0]),(1,[0,9]),(2,[2,3]),(3,[0,4]),(4,[4,14,15,16]),(5,[4,14,15,16,17]),(6,[4,6,14,15,16]),(7,[4,6,14,15,16,21]),(8,[4,14,15,16]),(9,[4,14,15,16]),(10,[4,14,15,16]),(11,[2,3])],rd:=[(6,[6])] }),
 (102,{ live:=[(0,[0]),(1,[0,4]),(2,[2]),(3,[2])],vecs:=[5],esc:=true }),
 (103,{ live:=[(0,[0]),(1,[0])] }),
 (104,{ live:=[(0,[0]),(1,[0])] }),
 (105,{ live:=[(0,[0,2,6]),(1,[0,2,6,7]),(2,[0,2,6,7,19]),(3,[0,2,6,7,19,20]),(4,[0,2,6,7,8,19]),(5,[0,2,6,7,8,9,10,19]),(6,[0,2,6,7,9,11,19]),(7,[0,2,6,7,11,12,19]),(8,[0,2,6,7,11,12,19]),(9,[0,2,6,7,11,19]),(10,[0,2,6,7,19]),(11,[0,2,6,7,19]),(12,[0,7,95]),(13,[0,7,95,96]),(14,[0,7,13,95]),(15,[0,7,95]),(16,[0,7,95])],rd:=[(0,[6])] }),
 (106,{ live:=[(0,[0,1]),(1,[0,1,6]),(2,[0,1]),(3,[0,1]),(4,[0,1,16]),(5,[0]),(6,[4])],esc:=true,nil:=[(5,[⟨.sl 0,900001060,(.sl 19 (.ag [(.ba 16),(.ag [(.i .i64),(.i .i64)]),(.sl 4 (.ag [(.i .i64),(.ag [(.ag [(.i .i64),(.i .i64)]),.s])]))]))⟩])] }),
 (107,{ live:=[(0,[0]),(1,[0,4]),(2,[2]),(3,[2])],vecs:=[5],esc:=true }),
 (108,{ live:=[(0,[0,3]),(1,[0,9,10,11]),(2,[0,9,10,11,12]),(3,[0,5,9,10,11]),(4,[0,5,6,7,9,10,11]),(5,[0,5,6,9,10,11,22]),(6,[0,9,10,11]),(7,[0,9,10,11]),(8,[0,9,10,11])],rd:=[(3,[5]),(4,[6])] }),
 (109,{ live:=[(0,[2,3,4]),(1,[2,3,4,7]),(2,[4]),(3,[4])] }),
 (110,{ live:=[(0,[2,3]),(1,[4])],esc:=true }),
 (111,{ live:=[(0,[0,1,2,3,4,10]),(1,[0,1,2,3,4,10,11]),(2,[0,1,2,3,4,10,11,12]),(3,[0,1,2,3,4,10,11,12,25]),(5,[0,1,2,3,4,10,11,12,32]),(7,[0,1,2,3,4,10,11,12,39]),(8,[0,1,2,3,4,10,11,12]),(9,[0,1,2,3,4,10,11,12]),(10,[0,1,2,3,4,10,11,12,13,14]),(11,[0,1,2,3,4,10,11,12,13,14,56]),(12,[0,1,2,3,4,10,11,12,13]),(13,[0,1,2,3,4,10,11,12,13]),(14,[0,1,2,3,4,10,11,12,13,14]),(15,[0,1,2,3,4,10,11,12,13,75]),(16,[0,1,2,3,4,10,11,12,13,80]),(17,[0,1,2,3,4,10,11,12,13,97]),(18,[0,2,3,4,10,11,15]),(19,[0,1,2,3,4,10,11]),(20,[0,1,2,3,4,12,16,17]),(21,[0,1,2,3,4,11,12,16]),(22,[0,1,2,3,4,11,12,16,18,19]),(23,[0,1,2,3,4,11,16,18,19,20]),(24,[0,1,2,3,4,11,16,18,19,20,125]),(25,[0,1,2,3,4,10,11,16]),(26,[0,2,3,4,10,11,16]),(27,[0,1,2,3,4,10,11]),(28,[0,1,2,3,4,10,11,16]),(29,[0,1,3,4,10,11,16]),(30,[0,1,2,3,4,10,11])],dec:=[69,72,83] }),
 (112,{ live:=[(0,[0]),(1,[2]),(2,[2])] }),
 (113,{ live:=[(0,[0,1]),(1,[4])] }),
 (117,{ live:=[(0,[1]),(1,[2])],dec:=[7] }),
 (122,{ live:=[(0,[1,2,4]),(1,[1,2,4,6]),(2,[1,4,6,12]),(3,[1,4,6,12]),(4,[4,6,12]),(5,[4,5]),(6,[4,6,21]),(7,[4,5]),(8,[4,5])],rd:=[(1,[6])] }),
 (123,{ live:=[(0,[1,2]),(1,[1,2,3]),(2,[2,3,9,10,11]),(3,[2,3,9,10,11,12]),(4,[2,3,5,9,10,11]),(5,[2,3,5,9,10,11]),(6,[2,3,9,10,11,20,21,22]),(7,[2,3,9,10,11,20,21,22,23]),(8,[2,3,7,9,10,11,20,21,22]),(9,[2,3,9,10,11,20,21,22]),(10,[2,3,9,10,11,20,21,22]),(11,[2,3,9,10,11]),(12,[2])],rd:=[(4,[5]),(8,[7])] }),
 (124,{ live:=[(0,[1]),(1,[1,6,7,8]),(2,[1,6,7,8,9]),(3,[1,3,4,6,7,8]),(4,[1,6,7,8,32]),(5,[2]),(6,[1,6,7,8]),(7,[2])],dec:=[16,19],rd:=[(3,[4])] }),
 (125,{ live:=[(0,[2,3]),(1,[4])],esc:=true }),
 (130,{ live:=[(0,[1]),(1,[2])],esc:=true }),
 (131,{ live:=[(0,[2,3,4]),(1,[2,4,6]),(2,[2,4,6,12]),(3,[4,5]),(4,[4,5])] }),
 (132,{ live:=[(0,[0,1]),(1,[0,1,7,8]),(2,[0,1,7,8,9]),(3,[0,1,5,7,8]),(4,[0,1,5,7,8,16]),(5,[4]),(6,[0,1,7,8]),(7,[4])] }),
 (133,{ live:=[(0,[1,2]),(1,[3])] }),
 (134,{ live:=[(0,[0,4]),(1,[0,4,5]),(2,[0,4,5,24])],dec:=[12] }),
 (135,{ live:=[(0,[0,1,4]),(1,[0,1,4,8])] }),
 (136,{ live:=[(0,[0,1]),(1,[0,1,16]),(2,[4]),(3,[5,6]),(4,[5,25]),(5,[4]),(6,[4])],dec:=[10] }),
 (148,{ live:=[(0,[1]),(1,[2])],dec:=[7,12] }),
 (149,{ live:=[(0,[2,3]),(1,[4])],dec:=[8] }),
 (150,{ live:=[(0,[0]),(1,[0,3]),(2,[0,3,4]),(3,[0,3,4,10,11]),(4,[0,3,4,10,11,12]),(5,[0,3,4,5,10,11]),(6,[0,3,4,10,11]),(7,[0,3,4,10,11]),(8,[4]),(9,[2])],esc:=true }),
 (151,{ live:=[(0,[1]),(1,[1,8]),(2,[2,3]),(3,[1,4]),(4,[2,3])],fresh:=[12],esc:=true }),
 (152,{ live:=[(0,[0]),(1,[0,3,4]),(2,[0,3,4,7,8]),(3,[0,3,4,7,8,9]),(4,[0,3,4,5,7,8]),(5,[0,3,4,7,8]),(6,[0,3,4,7,8]),(7,[0,3,4,7,8]),(8,[2])] }),
 (153,{ live:=[(0,[0,1]),(1,[0,1,10]),(2,[4]),(3,[0,1,12,13]),(4,[0,1,12,13,14]),(5,[0,1,5,12,13]),(6,[0,1,12,13,24]),(7,[4]),(8,[0,1,12,13]),(9,[4])] }),
 (154,{ live:=[(0,[0,1,2]),(1,[6])],dec:=[10] }),
 (155,{ live:=[(0,[0,1]),(1,[0,1,6]),(2,[0,1]),(3,[0,1]),(4,[0,1,16]),(5,[0]),(6,[4])],esc:=true,nil:=[(5,[⟨.sl 0,900001550,.bl⟩])] }),
 (156,{ live:=[(0,[0,2]),(1,[0,2,3]),(2,[0,2,3,7]),(3,[0,2,3,7,8]),(4,[0,2,3,4,7]),(5,[0,2,3,4,7,11]),(6,[0,2,3,7]),(7,[0,2,3,4,5,6,7]),(8,[0,2,3,7]),(9,[0,2,3,7]),(10,[2])] }),
 (157,{ live:=[(0,[0,1]),(1,[4])] }),
 (158,{ live:=[(0,[2,3,4]),(1,[2,3,4,7]),(2,[4]),(3,[4])] }),
 (159,{ live:=[(0,[0,1,2,7]),(1,[0,1,2,7,8]),(2,[0,1,2,4,7]),(3,[0,1,2,4,5,6,7]),(4,[0,1,2,7,30]),(5,[0,1,2,7])],dec:=[17,23],rd:=[(3,[5])] }),
 (160,{ live:=[(0,[0,1,2,3,8]),(1,[0,1,2,3,8,14]),(2,[0,1,2,3,8]),(3,[0,1,2,3,8,9]),(4,[0,1,2,3,8,9,34]),(5,[0,1,2,3,8,9]),(6,[0,1,2,3,8,9])],dec:=[21] }),
 (161,{ live:=[(0,[0,1,2,3,8]),(1,[0,1,2,3,8,9]),(2,[0,3,8,9,10]),(3,[0,3,8,9,10,11]),(4,[0,3,8,9,10,11,21]),(5,[0,3,8,9,10,11]),(6,[0,3,8,9,10,11]),(7,[0,3,8,9,12]),(8,[0,3,8,9,12,33]),(9,[0,3,8,9,12]),(10,[0,3,8,9,12]),(11,[0,3,8,9,12])] }),
 (162,{ live:=[(0,[0,1,8]),(1,[0,1,8,17]),(2,[0,1,8,9]),(3,[0,1,8,9,10]),(4,[0,1,8,9,10,11]),(5,[0,1,8,9,10,11,35]),(6,[0,1,8,9,10,11]),(7,[0,1,8,9,10,11,12]),(8,[0,1,8,9,10,11,12,45]),(9,[0,1,8,9,10,11,12]),(10,[0,1,8,9,10,11])] }),
 (163,{ live:=[(0,[0,1,2,3]),(1,[0,1,3,10]),(2,[0,1,3,10,11]),(3,[0,1,3,10,11,12]),(4,[0,1,3,10,11,12,13]),(5,[0,3,10,11,12,13,14]),(6,[0,3,10,11,12,13,14,34]),(7,[0,3,11,12,13,14,36]),(8,[0,3,11,12,13,14]),(9,[0,3,11,12,13,14]),(10,[0,3,11,12,13,14]),(11,[11,13]),(12,[13,55]),(13,[8,9]),(14,[13,55,57]),(15,[8,9]),(16,[13,60]),(17,[8,9])] }),
 (164,{ live:=[(0,[0,2,8]),(1,[0,8,9]),(2,[0,8,9,15]),(3,[0,8,9]),(4,[0,8,9]),(5,[0,8,9])] }),
 (165,{ live:=[(0,[0,1,2,3]),(1,[0,1,2,3,9]),(2,[0,1,2,3,9,10]),(3,[0,1,2,3,9,10,16]),(4,[0,1,2,3,9,10]),(5,[0,1,2,3,9,10,36]),(6,[0,1,2,3,9,10]),(7,[0,1,2,3,9,10,41]),(8,[8]),(9,[0,1,2,3,9,10,45]),(10,[8]),(11,[0,1,2,3,9,10]),(12,[0,1,2,3,9,10,65]),(13,[0,1,2,3,9,10,11]),(14,[0,1,2,3,9,10,11,69]),(15,[0,1,2,3,9,10,11]),(16,[0,1,2,3,9,10,11,84]),(17,[0,1,2,3,9,10,11]),(18,[0,1,2,3,9,10,104]),(19,[0,1,2,3,9,10,12]),(20,[0,1,2,3,9,10,12,109]),(21,[0,1,2,3,9,10,12]),(22,[0,1,2,3,9,10,12,124]),(23,[0,1,2,3,9,10,12]),(24,[8])],dec:=[22] }),
 (166,{ live:=[(0,[0,1,2,3,4]),(1,[0,1,2,4]),(2,[0,1,4,11,12]),(3,[0,1,4,11,12,47]),(4,[0,1,4,11,12]),(5,[0,1,4,11,12,65]),(6,[0,1,4,11,12]),(7,[0,1,4,11,12,70]),(8,[0,1,4,11,12]),(9,[0,1,4,11,12]),(10,[0,1,4,11,12]),(11,[10])],dec:=[34,53] }),
 (167,{ live:=[(0,[0,1,2,3,4]),(1,[0,1,2,4]),(2,[0,1,4,12,13]),(3,[0,1,4,12,13,47]),(4,[0,1,4,12,13]),(5,[0,1,4,12,13,66]),(6,[0,1,4,12,13]),(7,[0,1,4,12,13,71]),(8,[13]),(9,[10,11]),(10,[0,1,4,12,13]),(11,[0,1,4,12,13]),(12,[0,1,4,12,13]),(13,[0,1,4,12,13,120]),(14,[0,1,4,12,13]),(15,[0,1,4,12,13,139]),(16,[0,1,4,12,13]),(17,[0,1,4,12,13,144]),(18,[0,1,4,12,13]),(19,[0,1,4,12,13]),(20,[0,1,4,12,13]),(21,[13]),(22,[10,11])],dec:=[35,53,108,126] }),
 (168,{ live:=[(0,[0,2]),(1,[0,2,4]),(2,[0]),(3,[0,2]),(4,[0,2,8]),(5,[0,2]),(6,[0,2]),(7,[2])] }),
 (169,{ live:=[(0,[0,2]),(1,[0,2,4]),(2,[0]),(3,[0,2]),(4,[0,2,8]),(5,[0,2]),(6,[0,2]),(7,[0,2,14]),(8,[0,2]),(9,[0,2]),(10,[2])] }),
 (177,{ live:=[(0,[1]),(1,[1,6,7,8]),(2,[1,6,7,8,9]),(3,[1,3,4,6,7,8]),(4,[1,6,7,8,33]),(5,[2]),(6,[1,6,7,8]),(7,[2])],dec:=[18,21,38,43],rd:=[(3,[4])] }),
 (178,{ live:=[(0,[0,2,12,13,14]),(1,[0,2,12,13,14,15]),(2,[0,2,5,12,13,14]),(3,[0,2,5,6,12,13,14]),(4,[0,2,5,6,8,12,13,14]),(5,[0,2,5,6,8,12,13,14,32]),(6,[0,2,5,6,8,12,13,14]),(7,[0,2,6,8,12,13,14,37,38,39]),(8,[0,2,6,8,12,13,14,37,38,39,40]),(9,[0,2,6,8,10,12,13,14,37,38,39]),(10,[0,2,6,8,10,12,13,14,37,38,39,48]),(11,[0,2,6,8,12,13,14,37,38,39]),(12,[0,2,6,8,12,13,14,37,38,39]),(13,[0,2,12,13,14,59]),(14,[0,2,12,13,14])],fresh:=[58],rd:=[(2,[5]),(3,[6]),(9,[10])] }),
 (179,{ live:=[(0,[3,4,5]),(1,[3,4,7]),(2,[3,4,7,12]),(3,[6]),(4,[3,4,7,19]),(5,[6]),(6,[3,4,7,22]),(7,[6]),(8,[6])] }),
 (185,{ live:=[(0,[0,8,9,10]),(1,[0,8,9,10,11]),(2,[0,4,8,9,10]),(3,[0,4,8,9,10,15,16,17]),(4,[0,4,8,9,10,15,16,17,18]),(5,[0,4,6,8,9,10,15,16,17]),(6,[0,4,8,9,10,15,16,17,33]),(7,[0,4,8,9,10,15,16,17]),(8,[0,8,9,10])],rd:=[(2,[4]),(5,[6])] }),
 (186,{ live:=[(0,[0,1]),(1,[0,1,7,8]),(2,[0,1,7,8,9]),(3,[0,1,5,7,8]),(4,[0,1,5,7,8,16]),(5,[4]),(6,[0,1,7,8]),(7,[4])] }),
 (187,{ live:=[(0,[1,2]),(1,[3])] }),
 (188,{ live:=[(0,[1,2]),(1,[1,2]),(2,[1,2,10,11]),(3,[1,2,10,11,12]),(4,[1,2,3,10,11]),(5,[1,2,10,11]),(6,[1,2,10,11]),(7,[2])],fresh:=[6] }),
 (189,{ live:=[(0,[0,1]),(1,[0,1,5]),(2,[0,5,25]),(3,[4]),(4,[4])],dec:=[13] }),
 (190,{ live:=[(0,[0,1]),(1,[1,7,8,9]),(2,[1,7,8,9,10]),(3,[1,6,7,8,9]),(4,[1,7,8,9,16]),(5,[4]),(6,[1,7,8,9]),(7,[4])],rd:=[(3,[6])] }),
 (191,{ live:=[(0,[0]),(1,[0,3]),(2,[3,9,10,11]),(3,[3,9,10,11,12]),(4,[3,4,5,9,10,11]),(5,[3,4,5,7,9,10,11]),(6,[3,4,5,9,10,11,23]),(7,[3,9,10,11]),(8,[3,9,10,11]),(9,[2])],rd:=[(4,[5])] }),
 (195,{ live:=[(0,[0]),(1,[0,3]),(2,[3,6,7,8]),(3,[3,6,7,8,9]),(4,[3,5,6,7,8]),(5,[3,5,6,7,8,14]),(6,[2]),(7,[3,6,7,8]),(8,[2])] }),
 (196,{ live:=[(0,[0,1]),(1,[0,1,5]),(2,[0,1,5,6]),(3,[0,1,6,11]),(4,[12]),(5,[4]),(6,[4]),(7,[0,1,13]),(8,[4]),(9,[0,1,16]),(10,[4]),(11,[19]),(12,[4]),(13,[4])] }),
 (197,{ live:=[(0,[0]),(1,[0,3]),(2,[0,3]),(3,[0,3,7]),(4,[0,3]),(5,[0,3]),(6,[2])] }),
 (198,{ live:=[(0,[0,1]),(1,[4])] }),
 (199,{ live:=[(0,[0,1]),(1,[0,5]),(2,[4])] }),
 (200,{ live:=[(0,[2,3]),(1,[5]),(2,[13,14]),(3,[13,14,15]),(4,[7,13,14]),(5,[8,13,14]),(6,[8,13,14,20]),(7,[4]),(8,[13,14]),(9,[4])],rd:=[(1,[5])] }),
 (201,{ live:=[(0,[0,2,3,4,10]),(1,[0,2,3,4,10,11]),(2,[0,2,3,4,10,11,18]),(3,[0,2,3,4,10,11,40]),(4,[0,2,3,4,10,11]),(5,[0,2,3,4,10,11,58]),(6,[0,2,3,4,11]),(7,[0,2,3,4,10])],dec:=[23] }),
 (202,{ live:=[(0,[0]),(1,[2])] }),
 (203,{ live:=[(0,[0]),(1,[0]),(2,[0]),(3,[0]),(4,[2])] }),
 (204,{ live:=[(0,[0,1,2,3]),(1,[8])] }),
 (205,{ live:=[(0,[0,1,2,3,4,5]),(1,[0,1,2,3,4,5]),(2,[0,1,2,4,5]),(3,[2]),(4,[12])] }),
 (211,{ live:=[(0,[2,3]),(1,[4])],dec:=[8,13,18,23,32,37] }),
 (212,{ live:=[(0,[1,2]),(1,[3])] }),
 (213,{ live:=[(0,[2,3]),(1,[4])],dec:=[8] }),
 (215,{ live:=[(0,[0]),(1,[0,4]),(2,[2]),(3,[2])],vecs:=[5],esc:=true }),
 (216,{ live:=[(0,[0]),(1,[0,4]),(2,[2]),(3,[2])],vecs:=[5],esc:=true }),
 (217,{ live:=[(0,[0]),(1,[2])] }),
 (218,{ live:=[(0,[0,1]),(1,[2])] }),
 (219,{ live:=[(0,[2,3,4]),(1,[2,3,4,7]),(2,[6]),(3,[12]),(4,[6]),(5,[6])] }),
 (220,{ live:=[(0,[0,1]),(1,[2])] }),
 (221,{ live:=[(0,[2,3,4]),(1,[2,3,4,7]),(2,[6]),(3,[12]),(4,[6]),(5,[6])] }),
 (222,{ live:=[(0,[0,1]),(1,[2])] }),
 (223,{ live:=[(0,[0,1]),(1,[0,1,5]),(2,[0,1,5,6]),(3,[0,1,6,11]),(4,[12]),(5,[4]),(6,[4]),(7,[0,1,13]),(8,[4]),(9,[0,1,16]),(10,[4]),(11,[19]),(12,[4]),(13,[4])] }),
 (224,{ live:=[(0,[0,1,2,3,4]),(1,[1,2,3,22]),(2,[1,2]),(3,[10,11]),(4,[10,11])] }),
 (226,{ live:=[(0,[0]),(1,[0,4]),(2,[2]),(3,[2])] }),
 (227,{ live:=[(0,[0]),(1,[2])] })]
def qW6 (k:FuncId):TH:=(get qXy k).getD {}
theorem qXt:qtd Tryz.prog [41,62,82,85]:=⟨qqn (fn:=Tryz.f41) (c:=Tryz.f41.body.getD .skip) (by kernel_rfl) (by kernel_rfl) (by kernel_rfl),qqn (fn:=Tryz.f62) (c:=Tryz.f62.body.getD .skip) (by kernel_rfl) (by kernel_rfl) (by kernel_rfl),qqn (fn:=Tryz.f82) (c:=Tryz.f82.body.getD .skip) (by kernel_rfl) (by kernel_rfl) (by kernel_rfl),qqn (fn:=Tryz.f85) (c:=Tryz.f85.body.getD .skip) (by kernel_rfl) (by kernel_rfl) (by kernel_rfl),trivial⟩
def qI1:Option Bool:=some true
theorem qN4:qOA Tryz.prog qW6 [41,62,82,85] [qIW,qBM] 400 30 10=some (.pv (.b true),[]):=by kernel_rfl
def qHr:Ent:=smF ⟨10,[],[],[],[]⟩ [] Bool (fun _=>qI1) cs1 fun _ z=>(xb z,[])
theorem qRu:ze Tryz.prog qHr:=qWF Tryz.prog (fun _=>rfl) qg (base:=[qIW,qBM]) ⟨qWY,qM2,trivial⟩ qXt qN4
end Go.Rx
end
noncomputable section
namespace Go.Rx
open Go.RowKit
variable {P:Program} {γ:Hm} {G:Gh} {w w':World}
theorem qLe {K : FuncId} {fn : Func} {c : Code} (hf : P.funcs[K]? = some fn) (hb : fn.body = some c) (hname : (fn.name == "runtime.NumGoroutine") = false) {args : List AV} {h h' : Ob} {r : AV}
    (hc:∀ γ G w vas,qL h γ G w→zB h γ G w args vas→Calls P K vas.toArray w fun e w''=>∃ v,e=.returned v∧∃ γ' G',qL h' γ' G' w''∧Trans h γ G w h' γ' G' w''∧qM h' γ' G' w'' r v) (l:Nat) :
    Valid P l (.fn (.func K) [] []) args h (.ret r) h':=by
 intro γ G w vf vas H hvf hva
 have h1:=zx rfl rfl hvf
 simp only [qm] at h1
 obtain ⟨va,vc,h1,h2,h3⟩:=h1
 simp only [zB] at h2 h3
 subst h2; subst h3
 simp only [List.cons.injEq,and_true] at h1
 subst h1
 refine ⟨r,rfl,?_⟩
 unfold X2
 have hrun:(do let d ← Deferred.ofValue (.func (.func K) ([]:List Value).toArray ([]:List Value).toArray) vas.toArray; invoke d.target d.args:Sem Next).run P w=.ok (.enter K vas.toArray) w:=by
  simp only [Deferred.ofValue,Sem.run_bind,Sem.run_pure,Result.andThen_ok,invoke,callFunc,run_program,hf,hname,hb,Option.isNone_some,Bool.false_eq_true,if_false]
  simp
 rw [hrun]
 exact hc γ G w vas H hva
theorem qKI {K : FuncId} {fn : Func} {c : Code} (hf : P.funcs[K]? = some fn) (hb : fn.body = some c) (hname : (fn.name == "runtime.NumGoroutine") = false) {args : List AV} {h h' : Ob} {r : AV} {l : Nat} {vas : List Value}
    (hv:Valid P l (.fn (.func K) [] []) args h (.ret r) h') (H:qL h γ G w) (ha:zB h γ G w args vas) :
    Calls P K vas.toArray w fun e w''=>∃ v,e=.returned v∧∃ γ' G',qL h' γ' G' w''∧Trans h γ G w h' γ' G' w''∧qM h' γ' G' w'' r v:=by
 obtain ⟨r',e,hc⟩:=hv γ G w (.func (.func K) ([]:List Value).toArray ([]:List Value).toArray) vas H (zy rfl (by simp only [qm,zB]; exact ⟨[],[],rfl,rfl,rfl⟩)) ha
 cases e
 unfold X2 at hc
 have hrun:(do let d ← Deferred.ofValue (.func (.func K) ([]:List Value).toArray ([]:List Value).toArray) vas.toArray; invoke d.target d.args:Sem Next).run P w=.ok (.enter K vas.toArray) w:=by
  simp only [Deferred.ofValue,Sem.run_bind,Sem.run_pure,Result.andThen_ok,invoke,callFunc,run_program,hf,hname,hb,Option.isNone_some,Bool.false_eq_true,if_false]
  simp
 rw [hrun] at hc
 exact hc
theorem qqN (H:qL [] γ G w) (hb:Below w.heap.size w w'):qL [] γ G w'∧Trans [] γ G w [] γ G w':=
 qo7 H G w' hb.size (fun b h=>hb.block b h) (fun _ _ h=>h) (fun _ _ h h'=>absurd h h') ⟨hb.os,hb.output⟩
end Go.Rx
end
namespace Go.Proofs
open Go.Shelf Go.RowKit
set_option maxRecDepth 100000
set_option maxHeartbeats 2000000
theorem qMO:(Tryz.prog.info? 238).map (·.size)=some 2:=by kernel_rfl
theorem qW1:liesAt Tryz.prog Tryz.prog.depth 238 (2 / Tryz.prog.cellsOf 238) 0 238 1=true:=by kernel_rfl
theorem qVr (b : Nat) (w : World) (h0 : w.cell? ⟨b, 0, none⟩ = some (.pointer (some ⟨b, 0, none⟩))) :
    Calls Tryz.prog 210 #[.pointer (some ⟨b,0,none⟩)] w fun e w'=>e=.returned (.tuple #[])∧w'=w:=by
 obtain ⟨j,hj,_⟩:=Option.map_eq_some_iff.1 qMO
 go_enter Tryz.func210,Tryz.ntmps210
 go_wp2
 rw [Lib.run_neq_ptr_same w _ Tryz.underlying236 hj]
 go_wp2
 go_end0
 exact ⟨rfl,rfl⟩
theorem qPC (b : Nat) (w : World) (h0 : w.cell? ⟨b, 0, none⟩ = some (.pointer none)) (hsh : w.shape? b = some (238, 2)) (hfz : w.frozen? ⟨b, 0, none⟩ = false) :
    Calls Tryz.prog 210 #[.pointer (some ⟨b,0,none⟩)] w fun e w'=>e=.returned (.tuple #[])∧w'=w.setCell ⟨b,0,none⟩ (.pointer (some ⟨b,0,none⟩)):=by
 obtain ⟨j,hj,hjs⟩:=Option.map_eq_some_iff.1 qMO
 go_enter Tryz.func210,Tryz.ntmps210
 go_wp2
 rw [Lib.run_to_unsafe w ⟨b,0,none⟩ Tryz.underlying236 Tryz.underlying283 hj (by rw [hjs]; decide) hsh (Nat.zero_lt_succ 1)]
 simp only [Result.andThen]
 rw [Oper.upon_value]
 go_wp2
 rw [run_callFunc_extern Tryz.func225 (by kernel_rfl) (by kernel_rfl) (by kernel_rfl) (e:=Extern.AbiNoEscape.same) (by kernel_rfl)]
 rw [Lib.run_noEscape]
 simp only [Result.andThen]
 rw [Oper.upon_value]
 go_wp2
 rw [Lib.run_from_unsafe w ⟨b,0,none⟩ Tryz.underlying283 Tryz.underlying236 hj hsh qW1]
 simp only [Result.andThen]
 rw [Oper.upon_value]
 go_wp2
 go_end0
 exact ⟨rfl,rfl⟩
theorem qS3 (B b : Nat) (bs : List Value) (w : World) (h : Lib.IsBuilderF 238 5 B b bs w) :
    Calls Tryz.prog 210 #[.pointer (some ⟨b,0,none⟩)] w fun e w'=>e=.returned (.tuple #[])∧(Lib.BuilderAtF 238 5 B b (.pointer (some ⟨b,0,none⟩)) bs w'∧Below B w w'∧Lib.OthersKept 5 (some b) w w'):=by
 rcases h with h | h
 ·refine (qPC b w h.cell0 h.shape h.frozen0).mono ?_
  rintro e w' ⟨rfl,rfl⟩
  exact ⟨rfl,h.used _,(Below.refl B w).setCell (p:=⟨b,0,none⟩) h.1 _,(Lib.OthersKept.refl _ _ w).setCell ⟨b,0,none⟩ rfl _⟩
 ·refine (qVr b w h.cell0).mono ?_
  rintro e w' ⟨rfl,rfl⟩
  exact ⟨rfl,h,Below.refl B _,Lib.OthersKept.refl _ _ _⟩
theorem infoByte:(Tryz.prog.info? 5).map (fun i=>(i.zero,i.size,i.bytes))=some (some (.int .u8 0),1,1):=by kernel_rfl
theorem qtp (B b : Nat) (bs : List Value) (s : ByteArray) (w : World) (h : Lib.IsBuilderF 238 5 B b bs w) (hlen : bs.length + s.size ≤ 140737488355328) (hBw : B ≤ w.heap.size) :
    Calls Tryz.prog 173 #[.pointer (some ⟨b,0,none⟩),.string s] w fun e w'=>e=.returned (.tuple #[.int .i64 s.size,.nilIface])∧(Lib.BuilderAtF 238 5 B b (.pointer (some ⟨b,0,none⟩)) (bs++Lib.strCells s) w'∧Below B w w'∧Lib.OthersKept 5 (some b) w w'):=by
 obtain ⟨i0,hi,hz0,hz1,hz2⟩:=info_parts infoByte
 go_enter Tryz.func173,Tryz.ntmps173
 go_wp2_with (go_at_call 210; refine (qS3 B b bs _ h).mono ?_)
 rintro e w1 ⟨rfl,h1,hb1,hk1⟩
 obtain ⟨hB,v,hbk,hown,hne⟩:=h1
 have c0:w1.cell? ⟨b,0,none⟩=some (.pointer (some ⟨b,0,none⟩)):=by rw [Lib.cell_of_heap hbk]; rfl
 have c1:w1.cell? ⟨b,1,none⟩=some v:=by rw [Lib.cell_of_heap hbk]; rfl
 go_wp2_with (at_builtin; refine Lib.wpList_append_own_stringF _ rfl _ _ 95 9 rfl B 5 i0 Tryz.underlying95 Tryz.underlying9 hi hz0 hz1 hz2 _ _ _ rfl hown s rfl ?c3 ?c4 ?c5 ?_)
 case c3=>unfold maxLen; omega
 case c4=>omega
 case c5=>have:=hb1.size; omega
 intro v' w2 hown' hgrow _
 have hlt:b < w1.heap.size:=by
  rcases Nat.lt_or_ge b w1.heap.size with h' | h'
  ·exact h'
  ·simp [Array.getElem?_eq_none h'] at hbk
 have hb2:w2.heap[b]?=some (.cells #[.pointer (some ⟨b,0,none⟩),v] 238 (0,0)):=by
  rw [hgrow.block b hlt (fun e=>hne e.symm)]
  exact hbk
 have d0:w2.cell? ⟨b,0,none⟩=some (.pointer (some ⟨b,0,none⟩)):=by rw [Lib.cell_of_heap hb2]; rfl
 have d1:w2.cell? ⟨b,1,none⟩=some v:=by rw [Lib.cell_of_heap hb2]; rfl
 have f1:w2.frozen? ⟨b,1,none⟩=false:=Lib.frozen_of_heap hb2 1
 obtain ⟨ao,n',cap,rfl⟩:∃ ao n' cap,v'=.slice ao n' cap:=by
  rcases hown'.2 with ⟨hv,_⟩ | ⟨g,cap,cur,fz,hv,_⟩
  ·exact ⟨_,_,_,hv⟩
  ·exact ⟨_,_,_,hv⟩
 go_wp2
 go_ret2
 refine ⟨rfl,?_,?_,(hk1.grown hgrow (Lib.ownsRowF_kind hown)).setCell ⟨b,1,none⟩ rfl _⟩
 ·exact Lib.BuilderAtF.put (T:=238) (e:=5) hB hb2 (bs':=bs++Lib.strCells s) (by simpa [Lib.strCells_length] using hown') (by decide)
 ·exact (hb1.grown hgrow (by have:=hb1.size; omega) (fun k hk=>(hown.lt k hk).1)).setCell (p:=⟨b,1,none⟩) hB _
def qRg:Go.Shelf.Ren:=⟨fun | 169=>174 | n=>n,fun | 70=>236 | 9=>9 | 0=>0 | 72=>238 | 37=>95 | 127=>270 | 3=>3 | 5=>5 | n=>n,fun | n=>n⟩
theorem qXd:Go.Proofs.Lays.n169 Tryz.prog qRg:={
 mixed:=by kernel_rfl
 f169:=Tryz.func174.trans (congrArg some (by kernel_rfl))
 t0:=Tryz.underlying0
 a0:=Tryz.isAgg0
 z0:=Tryz.sizeOf0
 v0:=Tryz.zeroValue0
 t3:=Tryz.underlying3
 a3:=Tryz.isAgg3
 z3:=Tryz.sizeOf3
 v3:=Tryz.zeroValue3
 t9:=Tryz.underlying9
 a9:=Tryz.isAgg9
 z9:=Tryz.sizeOf9
 v9:=Tryz.zeroValue9
 t37:=Tryz.underlying95
 a37:=Tryz.isAgg95
 z37:=Tryz.sizeOf95
 v37:=Tryz.zeroValue95
 t70:=Tryz.underlying236
 a70:=Tryz.isAgg236
 z70:=Tryz.sizeOf236
 v70:=Tryz.zeroValue236
 t72:=Tryz.underlying238
 a72:=Tryz.isAgg238
 z72:=Tryz.sizeOf238
 v72:=Tryz.zeroValue238
 t127:=Tryz.underlying270
 a127:=Tryz.isAgg270
 z127:=Tryz.sizeOf270
 v127:=Tryz.zeroValue270 }
theorem qTw:Builder.Extra Tryz.prog qRg:={
 sizeBuilder:=by kernel_rfl
 liesBuilder:=by kernel_rfl
 t5:=Tryz.underlying5
 a5:=Tryz.isAgg5
 z5:=Tryz.sizeOf5
 v5:=Tryz.zeroValue5
 infoByte:=by kernel_rfl
 cellsByte:=by kernel_rfl
 sizeByte:=by kernel_rfl
 neB5:=by decide }
theorem qPe (B b : Nat) (l : List UInt8) (w : World) (h : Lib.IsBuilderF 238 5 B b (Lib.byteCells l) w) (hBw : B ≤ w.heap.size) :
    Calls Tryz.prog 174 #[.pointer (some ⟨b,0,none⟩)] w fun e w'=>e=.returned (.string ⟨l.toArray⟩)∧(Lib.IsBuilderF 238 5 B b (Lib.byteCells l) w'∧Below B w w'∧Lib.OthersKept 5 (some b) w w'):=Any.Builder_String_any_k qXd qTw B b l w h hBw
end Go.Proofs
set_option maxRecDepth 100000
noncomputable section
namespace Go.Rx
open Go.Proofs Go.RowKit
def qfr (a:List UInt8):List ql→List UInt8→Option (List UInt8×Bool)
 | [],acc=>some (acc,true)
 | p :: l, acc => bif ql.qhu p then
     chk (qw (((a.length:Nat):Int) - ql.vV p)) (bif decide (((a.length:Nat):Int) - ql.vV p < ql.Len p) then some ([],false) else
      chk (qw (ql.vV p + ql.Len p)∧(0≤ql.vV p∧ql.vV p≤ql.vV p + ql.Len p∧ql.vV p + ql.Len p≤((a.length:Nat):Int))∧acc.length + (ql.Lit p).length + a.length≤35184372088832)
       (qfr a l (acc++ql.Lit p++(a.take (ql.vV p + ql.Len p).toNat).drop (ql.vV p).toNat)))
  else chk (acc.length + (ql.Lit p).length≤35184372088832) (qfr a l (acc++ql.Lit p))
def qhy (N:Nat) (a0:List UInt8) (a1:List ql):Option (List UInt8×Bool):=(XQ N a1).bind fun m=>bif m then chk (a1.length≤1000000000) (qfr a0 a1 []) else some ([],false)
theorem qE6 {γ : Hm} {G : Gh} {w : World} {N : Nat} {l : List ql} {m : Bool} (hm : XQ N l = some m) (H : qL [] γ G w) {v : Value} (hr : qG G w (qF (.sl 4 qS) l) [v]) :
    Calls Tryz.prog 57 #[v] w fun e w'=>e=.returned (.bool m)∧∃ γ' G',qL [] γ' G' w'∧Trans [] γ G w [] γ' G' w':=by
 have hv:=qsc N (l,()) m hm 0
 refine (qKI (vas:=[v]) Tryz.func57 rfl (by kernel_rfl) hv H ?_).mono ?_
 ·exact ⟨[v],v,[],rfl,hr,rfl,rfl⟩
 ·rintro e w' ⟨u,rfl,γ',G',h1,h2,h3⟩
  refine ⟨?_,γ',G',h1,h2⟩
  have h3:qM [] γ' G' w' (.pv (.b m)) u:=h3
  rw [Kk.1 h3]
def qDW (w:World) (b off:Nat) (l:List ql):Prop:=∀ k p,l[k]?=some p→w.cell? ⟨b,off + k * 4,none⟩=some (.bool (ql.qhu p))∧w.cell? ⟨b,off + k * 4 + 1,none⟩=some (.int .i64 (ql.vV p))∧
 w.cell? ⟨b,off + k * 4 + 2,none⟩=some (.int .i64 (ql.Len p))∧w.cell? ⟨b,off + k * 4 + 3,none⟩=some (.string ⟨(ql.Lit p).toArray⟩)
set_option maxHeartbeats 4000000 in
theorem qV8 {γ : Hm} {G : Gh} {w : World} {N : Nat} {base : List UInt8} {l : List ql} (hm : XQ N l = some false) (H : qL [] γ G w) {v : Value} (hr : qG G w (qF (.sl 4 qS) l) [v]) :
    Calls Tryz.prog 116 #[.string ⟨base.toArray⟩,v] w fun e w'=>e=.returned (.tuple #[.string ⟨#[]⟩,.bool false])∧∃ γ' G',qL [] γ' G' w'∧Trans [] γ G w [] γ' G' w':=by
 go_enter Tryz.func116,Tryz.ntmps116
 go_wp2_with (go_at_call 57; refine (qE6 hm H hr).mono ?_)
 rintro e w1 ⟨rfl,γ',G',h1,h2⟩
 go_wp2
 go_ret2
 exact ⟨rfl,γ',G',h1,h2⟩
theorem qRq {t:Ty} (l:List (El t)):(l.map (qF t)).length=l.length∧(∀ (k:Nat) (p:El t),l[k]?=some p→(l.map (qF t))[k]?=some (qF t p))∧(l.map (qF t)=[]→l=[]):=
 ⟨List.length_map ..,fun k p h=>by rw [List.getElem?_map,h]; rfl,List.map_eq_nil_iff.1⟩
theorem qH_ {G : Gh} {w : World} {l : List ql} {v : Value} (hg : ∀ b o, G b o → b < w.heap.size) (hr : qG G w (qF (.sl 4 qS) l) [v]) :
    ∃ a cap,v=.slice a l.length cap∧(l=[]∨∃ b off,a=some ⟨b,off,none⟩∧b < w.heap.size∧qDW w b off l):=by
 obtain ⟨f1,f2,f3⟩:=qRq (t:=qS) l
 have hr:qG G w (.l 4 (List.map (qF qS) l)) [v]:=hr
 generalize List.map (qF qS) l=xs at f1 f2 f3 hr
 have f1:xs.length=l.length:=f1
 obtain ⟨a,cap,h1,_,h3,h4⟩:=hr
 rw [f1] at h1
 refine ⟨a,cap,(List.cons.inj h1).1,?_⟩
 rcases h4 with h4 | ⟨b,off,vs,rfl,hv,hc,hi⟩
 ·exact .inl (f3 h4)
 ·by_cases hl:l=[]
  ·exact .inl hl
  right
  have hlen:=zt.len _ _ hv
  have hsz:=PV.WO 4 xs h3
  rw [hsz,f1] at hlen
  have hpos:0 < l.length:=List.length_pos_iff.2 hl
  refine ⟨b,off,rfl,hg b (off + 0) (hi 0 (by omega)),fun k p hp=>?_⟩
  have hk:=(List.getElem?_eq_some_iff.1 hp).1
  obtain ⟨c,d,e,rfl,hd,hcl,_,_⟩:=zt.at hv (k:=k) (y:=qF qS p) (f2 k p hp)
  rw [PV.WO 4 _ (fun x hx=>h3 x (List.mem_of_mem_take hx)),List.length_take,f1,Nat.min_eq_left (by omega)] at hcl
  have hd:d=[.bool (ql.qhu p),.int .i64 (ql.vV p),.int .i64 (ql.Len p),.string ⟨(ql.Lit p).toArray⟩]:=by
   obtain ⟨d1,r1,rfl,e1,d2,r2,rfl,e2,d3,r3,rfl,e3,d4,r4,rfl,e4,rfl⟩:=hd
   have e1:d1=[.bool (ql.qhu p)]:=e1
   have e2:d2=[.int .i64 (ql.vV p)]:=e2
   have e3:d3=[.int .i64 (ql.Len p)]:=e3
   have e4:d4=[.string ⟨(ql.Lit p).toArray⟩]:=e4
   rw [e1,e2,e3,e4]; rfl
  subst hd
  have cell:∀ j,j < 4→w.cell? ⟨b,off + k * 4 + j,none⟩=([.bool (ql.qhu p),.int .i64 (ql.vV p),.int .i64 (ql.Len p),.string ⟨(ql.Lit p).toArray⟩]:List Value)[j]?:=fun j hj=>by
   rw [show off + k * 4 + j=off + (k * 4 + j) by omega,hc (k * 4 + j) (by simp only [List.length_append,List.length_cons,List.length_nil]; omega),List.append_assoc,List.getElem?_append_right (by omega),show k * 4 + j - c.length=j by omega,List.getElem?_append_left (by simpa using hj)]
  exact ⟨cell 0 (by omega),cell 1 (by omega),cell 2 (by omega),cell 3 (by omega)⟩
theorem qFY {B:Nat} {w w':World} {b off:Nat} {l:List ql} (h:qDW w b off l) (hb:Below B w w') (ha:b < B):qDW w' b off l:=fun k p hp=>by
 have c:∀ j,w'.cell? ⟨b,j,none⟩=w.cell? ⟨b,j,none⟩:=fun j=>hb.cell (p:=⟨b,j,none⟩) ha
 rw [c,c,c,c]
 exact h k p hp
set_option maxHeartbeats 4000000 in
theorem qQY {γ : Hm} {G : Gh} {w : World} {N : Nat} {base : List UInt8} {l : List ql} {z : List UInt8 × Bool} (hm : XQ N l = some true) (hl9 : l.length ≤ 1000000000) (hz : qfr base l [] = some z) (H : qL [] γ G w) {v : Value} (hr : qG G w (qF (.sl 4 qS) l) [v]) :
    Calls Tryz.prog 116 #[.string ⟨base.toArray⟩,v] w fun e w'=>e=.returned (.tuple #[.string ⟨z.1.toArray⟩,.bool z.2])∧∃ γ' G',qL [] γ' G' w'∧Trans [] γ G w [] γ' G' w':=by
 go_enter Tryz.func116,Tryz.ntmps116
 go_wp2_with (go_at_call 57; refine (qE6 hm H hr).mono ?_)
 rintro e w1 ⟨rfl,γ1,G1,h1,h2⟩
 obtain ⟨a,cap,rfl,hp⟩:=qH_ h1.gok (qG.mono h2.keeps _ _ hr)
 go_wp2
 go_loopw [14] (fun i wr=>∃ (k:Nat) (acc:List UInt8),k≤l.length∧i=.int .i64 k∧Lib.IsBuilderF 238 5 w1.heap.size w1.heap.size (Lib.byteCells acc) wr∧Below w1.heap.size w1 wr∧qfr base (l.drop k) acc=some z) (fun i _=>l.length - (intOf i).toNat)
 case atStart=>
  exact ⟨0,[],Nat.zero_le _,rfl,Lib.IsBuilderF.of (Lib.fresh_isBuilder 238 5 w1),(Below.refl _ w1).alloc (Nat.le_refl _) _,hz⟩
 case round=>
  obtain ⟨k,acc,hk,rfl,hI,hbw,hA⟩:=hrel
  by_cases hlt:k < l.length
  ·obtain ⟨b,off,rfl,hbl,hpa⟩:=hp.resolve_left (fun e=>by subst e; exact absurd hlt (Nat.not_lt_zero k))
   obtain ⟨p,hpk⟩:∃ p,l[k]?=some p:=⟨_,List.getElem?_eq_getElem hlt⟩
   obtain ⟨q0,q1,q2,q3⟩:=qFY hpa hbw hbl k p hpk
   have hdr:l.drop k=p::l.drop (k + 1):=by
    rw [List.drop_eq_getElem_cons hlt]
    rw [List.getElem?_eq_getElem hlt] at hpk
    rw [Option.some.inj hpk]
   rw [hdr] at hA
   unfold qfr at hA
   cases hc:ql.qhu p with
   | false=>
    rw [hc] at hA q0
    replace hA:=Yn hA
    obtain ⟨hle,hA⟩:=hA
    generalize ql.vV p=pf at *
    generalize ql.Len p=pl at *
    generalize ql.Lit p=pt at *
    have hs1:w1.heap.size < wr.heap.size:=hI.elim (fun x=>x.lt) (fun x=>x.lt)
    have hsz:(Lib.byteCells acc).length + (⟨pt.toArray⟩:ByteArray).size≤140737488355328:=by rw [Lib.byteCells_length]; show acc.length + pt.toArray.size≤_; rw [List.size_toArray]; omega
    go_wp2_with (go_at_call 173; refine (qtp w1.heap.size w1.heap.size _ ⟨pt.toArray⟩ _ (hI.alloc _) hsz (by simp; omega)).mono ?_)
    rintro e W1 ⟨rfl,b1,b2,k1⟩
    have hh:W1.heap[wr.heap.size]?=some (.cells #[Value.bool false,Value.int IntKind.i64 pf,Value.int IntKind.i64 pl,Value.string { data:=pt.toArray }] 133):=k1 _ _ (heap_alloc_new wr _) (fun e=>by have:=Option.some.inj e; omega) (by simp)
    have g0:W1.cell? ⟨wr.heap.size,0,none⟩=some (.bool false):=by rw [Lib.cell_of_heap hh]; rfl
    go_wp2
    go_roundw
    case rel=>
     refine ⟨k + 1,acc++pt,hlt,by go_num,?_,?_,hA⟩
     ·rw [Lib.byteCells_append]; exact Or.inr b1
     ·exact (hbw.alloc (Nat.le_of_lt hs1) _).trans b2
    case measure=>simp [intOf]; omega
   | true=>
    rw [hc] at hA q0
    replace hA:=Yn hA
    obtain ⟨hin,hA⟩:=hA
    unfold qw at hin
    generalize ql.vV p=pf at *
    generalize ql.Len p=pl at *
    generalize ql.Lit p=pt at *
    by_cases hs:((base.length:Nat):Int) - pf < pl
    ·rw [decide_eq_true hs] at hA
     have hA:z=([],false):=(Option.some.inj hA).symm
     subst hA
     go_wp2
     go_ret2
     have hb:=hbw.alloc hbw.size (.cells #[Value.bool true,Value.int IntKind.i64 pf,Value.int IntKind.i64 pl,Value.string { data:=pt.toArray }] 133)
     exact ⟨rfl,γ1,G1,(qqN h1 hb).1,h2.then (qqN h1 hb).2⟩
    ·rw [decide_eq_false hs] at hA
     replace hA:=Yn hA
     obtain ⟨⟨hin2,⟨hb1,hb2,hb3⟩,hle⟩,hA⟩:=hA
     unfold qw at hin2
     have hs1:w1.heap.size < wr.heap.size:=hI.elim (fun x=>x.lt) (fun x=>x.lt)
     have hsz:(Lib.byteCells acc).length + (⟨pt.toArray⟩:ByteArray).size≤140737488355328:=by rw [Lib.byteCells_length]; show acc.length + pt.toArray.size≤_; rw [List.size_toArray]; omega
     go_wp2_with (go_at_call 173; refine (qtp w1.heap.size w1.heap.size _ ⟨pt.toArray⟩ _ (hI.alloc _) hsz (by simp; omega)).mono ?_)
     rintro e W1 rfl b1 b2 k1
     have hh:W1.heap[wr.heap.size]?=some (.cells #[Value.bool true,Value.int IntKind.i64 pf,Value.int IntKind.i64 pl,Value.string { data:=pt.toArray }] 133):=k1 _ _ (heap_alloc_new wr _) (fun e=>by have:=Option.some.inj e; omega) (by simp)
     have g0:W1.cell? ⟨wr.heap.size,0,none⟩=some (.bool true):=by rw [Lib.cell_of_heap hh]; rfl
     have g1:W1.cell? ⟨wr.heap.size,1,none⟩=some (.int .i64 pf):=by rw [Lib.cell_of_heap hh]; rfl
     have g2:W1.cell? ⟨wr.heap.size,2,none⟩=some (.int .i64 pl):=by rw [Lib.cell_of_heap hh]; rfl
     go_wp2_with (go_at_call 173; refine (qtp w1.heap.size w1.heap.size _ _ _ (Or.inr b1) ?z1 ?z2).mono ?_)
     case z1=>
      rw [List.length_append,Lib.byteCells_length,Lib.strCells_eq,Lib.byteCells_length,qjQ]
      show acc.length + pt.length + ((base.take (pf + pl).toNat).drop pf.toNat).toArray.size≤_
      rw [List.size_toArray,List.length_drop,List.length_take]; omega
     case z2=>have:=b2.size; simp at this; omega
     rintro e W2 ⟨rfl,c1,c2,k2⟩
     go_wp2
     go_roundw
     case rel=>
      refine ⟨k + 1,acc++pt++(base.take (pf + pl).toNat).drop pf.toNat,hlt,by go_num,?_,?_,hA⟩
      ·rw [qjQ] at c1
       rw [Lib.byteCells_append,Lib.byteCells_append]
       exact Or.inr c1
      ·exact ((hbw.alloc hbw.size _).trans b2).trans c2
     case measure=>simp [intOf]; omega
  ·have hke:k=l.length:=by omega
   rw [hke,List.drop_length] at hA
   have hA:z=(acc,true):=(Option.some.inj hA).symm
   subst hA
   go_wp2_with (go_at_call 174; refine (qPe w1.heap.size w1.heap.size acc _ hI hbw.size).mono ?_)
   rintro e W1 ⟨rfl,_,b1,_⟩
   go_wp2
   go_ret2
   have hb:=hbw.trans b1
   exact ⟨rfl,γ1,G1,(qqN h1 hb).1,h2.then (qqN h1 hb).2⟩
def qsw (N:Nat):Ent:=smF ⟨116,[],[.x .s,.x (.sl 4 qS)],[],[]⟩ [.s,(.sl 4 qS)] (List UInt8×Bool) (fun x=>qhy N x.1 x.2.1) cs1 fun _ z=>(.tup [.tv .s z.1,xb z.2],[])
theorem qDq (N:Nat):ze Tryz.prog (qsw N):=qd5 fun x z h l=>by
 obtain ⟨a,ps,_⟩:=x
 have h:(XQ N ps).bind (fun m=>bif m then chk (ps.length≤1000000000) (qfr a ps []) else some ([],false))=some z:=h
 refine qLe (fn:=Tryz.f116) Tryz.func116 rfl (by kernel_rfl) (fun γ G w vas H ha=>?_) l
 have ha:zB [] γ G w [.pv (.s a),.pv (qF (.sl 4 qS) ps)] vas:=ha
 simp only [zB] at ha
 obtain ⟨c1,v1,r1,rfl,hc1,ho1,c2,v2,r2,rfl,hc2,ho2,rfl⟩:=ha
 have e2:c2=[v2]:=ho2
 have e1:c1=[v1]:=ho1
 subst e1; subst e2
 have hc1:[v1]=[.string ⟨a.toArray⟩]:=hc1
 obtain rfl:=(List.cons.inj hc1).1
 have hc2:qG G w (qF (.sl 4 qS) ps) [v2]:=hc2
 have fin:∀ {e:Ending} {w':World},(e=.returned (.tuple #[.string ⟨z.1.toArray⟩,.bool z.2])∧∃ γ' G',qL [] γ' G' w'∧Trans [] γ G w [] γ' G' w')→∃ v,e=.returned v∧∃ γ' G',qL [] γ' G' w'∧Trans [] γ G w [] γ' G' w'∧qM [] γ' G' w' (.tup [.pv (.s z.1),.pv (.b z.2)]) v:=by
  rintro e w' ⟨rfl,γ',G',h1,h2⟩
  exact ⟨_,rfl,γ',G',h1,h2,_,rfl,[.string ⟨z.1.toArray⟩],_,_,rfl,rfl,rfl,[.bool z.2],_,_,rfl,rfl,rfl,rfl⟩
 cases hm:XQ N ps with
 | none=>rw [hm] at h; cases h
 | some m=>
  rw [hm,Option.bind_some] at h
  cases m with
  | false=>
   have h:z=([],false):=(Option.some.inj h).symm
   subst h
   exact (qV8 hm H hc2).mono fun e w' he=>fin he
  | true=>
   obtain ⟨hl,h⟩:=Yn h
   exact (qQY hm hl h H hc2).mono fun e w' he=>fin he
end Go.Rx
end
