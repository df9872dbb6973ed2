/- A part of the proof of OpBoth: the law returns true for every input, and its arguments read as before. No condition. -/
import Derived.Test.YtigkkdoljkhcfaaGreatProg
import Derived.Laws.BitsAllLaws
import Derived.Test.YtigkkdoljkhcfaaGreatComE
set_option linter.unusedSimpArgs false
set_option linter.unusedVariables false
set_option linter.unusedSectionVars false
noncomputable section
namespace Go.Rx
theorem Wq {α R:Type} (n:α→Option R):∀ t:Tree α,t.run n=(t.run some).bind n
 | .ret a=>rfl
 | .no=>rfl
 | .cond b s t=>by
  simp only [Tree.run]
  cases b
  ·exact Wq n t
  ·exact Wq n s
 | @Tree.chk _ p d t=>by
  simp only [Tree.run,chk]
  split
  ·exact Wq n t
  ·rfl
 | .bind o k=>by
  simp only [Tree.run]
  cases o with
  | none=>rfl
  | some x=>exact Wq n (k x)
 | .opt o s k=>by
  simp only [Tree.run]
  cases o with
  | none=>exact Wq n s
  | some x=>exact Wq n (k x)
 | .sum x f g=>by
  cases x with
  | inl a=>exact Wq n (f a)
  | inr b=>exact Wq n (g b)
section r
variable {α R:Type} {n:α→Option R}
theorem qS {a:α}:(Tree.ret a).run n=n a:=rfl
theorem qI {b:Bool} {s t:Tree α}:(Tree.cond b s t).run n=bif b then s.run n else t.run n:=rfl
theorem zx {p:Prop} [Decidable p] {t:Tree α}:(Tree.chk p t).run n=chk p (t.run n):=rfl
theorem run_bind {β:Type} {o:Option β} {k:β→Tree α}:(Tree.bind o k).run n=o.bind fun x=>(k x).run n:=rfl
theorem qFc {β γ:Type} {x:γ} {f:β→Tree α} {g:γ→Tree α}:(Tree.sum (.inr x) f g).run n=(g x).run n:=rfl
end r
theorem Jt {V W Y:Type} {B:V→Tree (V⊕W)} {g:W→Option Y} {v v':V} (h:(B v).run some=some (.inl v')) (N:Nat):q6 B g (N + 1) v=q6 B g N v':=by
 simp only [q6]
 rw [Wq,h]; rfl
theorem zM {V W Y:Type} {B:V→Tree (V⊕W)} {g:W→Option Y} {v:V} {x:W} (h:(B v).run some=some (.inr x)) (N:Nat):q6 B g (N + 1) v=g x:=by
 simp only [q6]
 rw [Wq,h]; rfl
theorem qi1 {V W Y : Type} {B : V → Tree (V ⊕ W)} {g : W → Option Y} {I : V → Prop} {Q : Y → Prop} (m : V → Nat)
    (h:∀ v,I v→(∃ v',(B v).run some=some (.inl v')∧I v'∧m v' < m v)∨∃ x y,(B v).run some=some (.inr x)∧g x=some y∧Q y) :
    ∀ (N:Nat) (v:V),I v→m v < N→∃ y,q6 B g N v=some y∧Q y
 | 0,v,_,hm=>by omega
 | N + 1,v,hi,hm=>by
  rcases h v hi with ⟨v',h1,h2,h3⟩ | ⟨x,y,h1,h2,h3⟩
  ·rw [Jt h1]
   exact qi1 m h N v' h2 (by omega)
  ·rw [zM h1]
   exact ⟨y,h2,h3⟩
theorem qfH {W Y : Type} {B : Int → Tree (Int ⊕ W)} {g : W → Option Y} {p : Nat → Bool} {n : Nat} {hit : Nat → W} {fin : W}
    (h1:∀ k,k < n→(B (k:Int)).run some=some (if p k then .inr (hit k) else .inl ((k + 1:Nat):Int))) (h2:(B (n:Int)).run some=some (.inr fin)) :
    ∀ (N k:Nat),k≤n→n < N + k→q6 B g N (k:Int)=g (match Jf p (n - k) k with | some j=>hit j | none=>fin)
 | 0,k,hk,hN=>by omega
 | N + 1,k,hk,hN=>by
  by_cases e:k=n
  ·subst e
   rw [zM h2,Nat.sub_self]; rfl
  ·obtain ⟨m,hm⟩:∃ m,n - k=m + 1:=⟨n - k - 1,by omega⟩
   have h3:=h1 k (by omega)
   rw [hm]
   unfold Jf
   cases hp:p k with
   | true=>
    rw [hp,if_pos rfl] at h3
    rw [zM h3,if_pos rfl]
   | false=>
    rw [hp,if_neg (by simp)] at h3
    rw [Jt h3,qfH h1 h2 N (k + 1) (by omega) (by omega),if_neg (by simp),show n - (k + 1)=m by omega]
def Vk {σ:Type} (f:Nat→σ→σ):Nat→Nat→σ→σ
 | 0,_,s=>s
 | m + 1,k,s=>Vk f m (k + 1) (f k s)
theorem ZG {σ W Y : Type} {V : Type} {B : V → Tree (V ⊕ W)} {g : W → Option Y} {at_ : Nat → σ → V} {I : Nat → σ → Prop} {f : Nat → σ → σ} {n : Nat} {fin : σ → W}
    (h1:∀ k s,k < n→I k s→(B (at_ k s)).run some=some (.inl (at_ (k + 1) (f k s)))∧I (k + 1) (f k s)) (h2:∀ s,I n s→(B (at_ n s)).run some=some (.inr (fin s))) :
    ∀ (N k:Nat) (s:σ),I k s→k≤n→n < N + k→q6 B g N (at_ k s)=g (fin (Vk f (n - k) k s))
 | 0,k,s,_,hk,hN=>by omega
 | N + 1,k,s,hi,hk,hN=>by
  by_cases e:k=n
  ·subst e
   rw [zM (h2 s hi),Nat.sub_self]; rfl
  ·obtain ⟨m,hm⟩:∃ m,n - k=m + 1:=⟨n - k - 1,by omega⟩
   obtain ⟨h3,h4⟩:=h1 k s (by omega) hi
   rw [Jt h3,ZG h1 h2 N (k + 1) _ h4 (by omega) (by omega),hm,show n - (k + 1)=m by omega]
   rfl
theorem qJi {α:Type} {l:List α} {k n:Nat} {d:α} (hn:l.length=n) (h:k < l.length):Kn l n k=some (l.getD k d):=by
 unfold Kn; rw [if_pos hn,List.getElem?_eq_getElem h]; simp [List.getD,List.getElem?_eq_getElem h]
theorem qm {α:Type} {p:Prop} [Decidable p] {x:Option α} (h:p):chk p x=x:=if_pos h
theorem qEk {Z:Type} (o:Option Z):jV [] o=o:=rfl
theorem jF {Z:Type} {a b:Nat} {ps:List (Nat×Nat)} {o:Option Z} (h:a=b):jV ((a,b)::ps) o=jV ps o:=if_pos h
end Go.Rx
end
noncomputable section
namespace Go.Rx
section
variable {α R:Type} {n:α→Option R} {y:Option R}
theorem qE {a:α} (h:n a=y):(Tree.ret a).run n=y:=h
theorem zd {p:Prop} [Decidable p] {t:Tree α} (h:p) (ht:t.run n=y):(Tree.chk p t).run n=y:=(qm h).trans ht
theorem qB {β:Type} {o:Option β} {k:β→Tree α} {x:β} (h:o=some x) (ht:(k x).run n=y):(Tree.bind o k).run n=y:=by subst h; exact ht
theorem w_t {b:Bool} {s t:Tree α} (h:b=true) (hs:s.run n=y):(Tree.cond b s t).run n=y:=by subst h; exact hs
theorem w_f {b:Bool} {s t:Tree α} (h:b=false) (ht:t.run n=y):(Tree.cond b s t).run n=y:=by subst h; exact ht
theorem qwJ {β:Type} {o:Option β} {s:Tree α} {k:β→Tree α} (h:o=none) (hs:s.run n=y):(Tree.opt o s k).run n=y:=by subst h; exact hs
theorem qqO {β:Type} {o:Option β} {s:Tree α} {k:β→Tree α} {x:β} (h:o=some x) (hk:(k x).run n=y):(Tree.opt o s k).run n=y:=by subst h; exact hk
theorem w_l {β γ:Type} {z:β⊕γ} {f:β→Tree α} {g:γ→Tree α} {x:β} (h:z=.inl x) (hk:(f x).run n=y):(Tree.sum z f g).run n=y:=by subst h; exact hk
theorem w_r {β γ:Type} {z:β⊕γ} {f:β→Tree α} {g:γ→Tree α} {x:γ} (h:z=.inr x) (hk:(g x).run n=y):(Tree.sum z f g).run n=y:=by subst h; exact hk
theorem jI {b:Bool} {s t:Tree α} {c:Bool} (h:b=c) (hs:c=true→s.run n=y) (ht:c=false→t.run n=y):(Tree.cond b s t).run n=y:=by
 subst h; cases b
 ·exact ht rfl
 ·exact hs rfl
end
theorem Q2 {k:Nat} (h:k≤4611686018427387904):qz ((k:Int) + 1):=by unfold qz; omega
end Go.Rx
end
noncomputable section
namespace Go.Rx
def qn:Ty:=.ag [.i .i64,.i .i64]
abbrev qe:=Int×Int
def qe.N (x:qe):Int:=x.1
def qe.Rep (x:qe):Int:=x.2
def qe.mk (x0:Int) (x1:Int):qe:=(x0,x1)
instance qe.dec:DecidableEq qe:=Jq qn
def qq:Ty:=.ag [qn,.s]
abbrev qc:=qe×List UInt8
def qc.S (x:qc):qe:=x.1
def qc.V (x:qc):List UInt8:=x.2
def qc.mk (x0:qe) (x1:List UInt8):qc:=(x0,x1)
instance qc.dec:DecidableEq qc:=Jq qq
def qp:Ty:=.ag [.i .i64,qq]
abbrev qb:=Int×qc
def qb.No (x:qb):Int:=x.1
def qb.C (x:qb):qc:=x.2
def qb.mk (x0:Int) (x1:qc):qb:=(x0,x1)
instance qb.dec:DecidableEq qb:=Jq qp
def qg:Ty:=.ag [.ba 16,qn,.sl 4 qp]
abbrev qa:=Vector UInt8 16×qe×List qb
def qa.ID (x:qa):Vector UInt8 16:=x.1
def qa.qX (x:qa):qe:=x.2.1
def qa.F (x:qa):List qb:=x.2.2
def qa.mk (x0:Vector UInt8 16) (x1:qe) (x2:List qb):qa:=(x0,x1,x2)
instance qa.dec:DecidableEq qa:=Jq qg
def qR:Ty:=.ag [.sl 19 qg]
abbrev qd:=List qa
def qd.R (x:qd):List qa:=x
def qd.mk (x0:List qa):qd:=(x0)
instance qd.dec:DecidableEq qd:=Jq qR
def qK:Ty:=.ag [.b,.i .i64,.i .i64,.s]
abbrev qk:=Bool×Int×Int×List UInt8
def qk.qwG (x:qk):Bool:=x.1
def qk.XU (x:qk):Int:=x.2.1
def qk.Len (x:qk):Int:=x.2.2.1
def qk.Lit (x:qk):List UInt8:=x.2.2.2
def qk.mk (x0:Bool) (x1:Int) (x2:Int) (x3:List UInt8):qk:=(x0,x1,x2,x3)
instance qk.dec:DecidableEq qk:=Jq qK
def zC:Ty:=.ag [.i .i64,.ba 16,qn,.i .i64,.s,.sl 4 qK,.ba 16,.i .i64,.ba 32]
abbrev qf:=Int×Vector UInt8 16×qe×Int×List UInt8×List qk×Vector UInt8 16×Int×Vector UInt8 32
def qf.Kind (x:qf):Int:=x.1
def qf.ID (x:qf):Vector UInt8 16:=x.2.1
def qf.S (x:qf):qe:=x.2.2.1
def qf.No (x:qf):Int:=x.2.2.2.1
def qf.V (x:qf):List UInt8:=x.2.2.2.2.1
def qf.P (x:qf):List qk:=x.2.2.2.2.2.1
def qf.XU (x:qf):Vector UInt8 16:=x.2.2.2.2.2.2.1
def qf.Jb (x:qf):Int:=x.2.2.2.2.2.2.2.1
def qf.D (x:qf):Vector UInt8 32:=x.2.2.2.2.2.2.2.2
def qf.mk (x0:Int) (x1:Vector UInt8 16) (x2:qe) (x3:Int) (x4:List UInt8) (x5:List qk) (x6:Vector UInt8 16) (x7:Int) (x8:Vector UInt8 32):qf:=(x0,x1,x2,x3,x4,x5,x6,x7,x8)
instance qf.dec:DecidableEq qf:=Jq zC
def js:Ty:=.ag [qR,zC]
abbrev qW:=qd×qf
def qW.b (x:qW):qd:=x.1
def qW.o (x:qW):qf:=x.2
def qW.mk (x0:qd) (x1:qf):qW:=(x0,x1)
instance qW.dec:DecidableEq qW:=Jq js
end Go.Rx
end
set_option maxRecDepth 100000
noncomputable section
namespace Go.Rx
open Go.Proofs
theorem qj:Tryz.prog.follows .mixedOrders=true:=by kernel_rfl
noncomputable instance qKa:CT:=⟨ctF Tryz.prog⟩
def qrx:Ent:=qJr 128
theorem qzI:q9 Tryz.prog qrx:=qHY (fn:=Tryz.f128) (by kernel_rfl) (by kernel_rfl) (by kernel_rfl) (by kernel_rfl) (by kernel_rfl)
noncomputable def qCK:Code:=Tryz.f104.body.getD .skip
theorem ql9:FnF Tryz.prog 104 Tryz.f104 qCK:=⟨qj,by kernel_rfl,by kernel_rfl,by kernel_rfl⟩
def quk:TH:={ live:=[(0,[0]),(1,[0,4]),(2,[2]),(3,[2])],vecs:=[5],esc:=true }
def quL (N:Nat):List Ent:=[]
theorem qrv (N:Nat):qT Tryz.prog (quL N):=trivial
def qj2 (a0:List UInt8) (z:Unit):TV×THp:=(.v 100050 (((([]:List UInt8))++a0).length),[(100050,.vec false 1 .bl ((([]:List UInt8))++a0:List UInt8))])
def qde (a0:List UInt8):Tree (Unit):=
 .chk (List.isEmpty a0=false) <|
 .chk (Vt ((([]:List UInt8)).length) 0 (((([]:List UInt8))++a0).length) 1) <|
 .ret ()
def qf7 (a0:List UInt8):Option (Unit):=(qde a0).run some
def qug:List (Nat×qG):=[]
theorem qrw:qdE Tryz.prog ⟨104,[],[.x .bl],[],[]⟩ [.bl] (fun x=>qde x.1) (fun x=>qj2 x.1):=
 qa5 (H:=quk) (L:=qQ (qug)) 0 ql9 (qrv 0) (qu (by kernel_rfl) trivial) (rg0 (by kernel_rfl)) fun x=>by kernel_rfl
def qpS:TH:={ live:=[(0,[0]),(1,[0,4]),(2,[2]),(3,[2])],vecs:=[5],esc:=true }
def qry (N:Nat):List Ent:=[]
theorem qnv (N:Nat):qT Tryz.prog (qry N):=trivial
def qqN (z:Unit):TV×THp:=(.v 100050 0,[(100050,.vec false 1 .bl ([]:List UInt8))])
def qfM:Tree (Unit):=
 .chk (0=0) <|
 .ret ()
def quE:Option (Unit):=(qfM).run some
def qq2:List (Nat×qG):=[]
theorem qm_:qdE Tryz.prog ⟨104,[],[.k (.es 0)],[],[]⟩ [] (fun x=>qfM) (fun _=>qqN):=
 qa5 (H:=qpS) (L:=qQ (qq2)) 0 ql9 (qnv 0) (qu (by kernel_rfl) trivial) (rg0 (by kernel_rfl)) fun x=>by kernel_rfl
def qq7:TH:={ live:=[(0,[0]),(1,[0,4]),(2,[2]),(3,[2])],vecs:=[5],esc:=true }
def qqs (N:Nat):List Ent:=[]
theorem qnu (N:Nat):qT Tryz.prog (qqs N):=trivial
def qpJ (z:Unit):TV×THp:=(.nils,[])
def qfo:Tree (Unit):=
 .ret ()
def qt7:Option (Unit):=(qfo).run some
def qpZ:List (Nat×qG):=[]
theorem qnt:qdE Tryz.prog ⟨104,[],[.k (.es 1)],[],[]⟩ [] (fun x=>qfo) (fun _=>qpJ):=
 qa5 (H:=qq7) (L:=qQ (qpZ)) 0 ql9 (qnu 0) (qu (by kernel_rfl) trivial) (rg0 (by kernel_rfl)) fun x=>by kernel_rfl
def qfG (z:Unit):Unit:=()
def qrt (z:Unit):Unit:=()
def Xg (a0:List UInt8):Option (Unit):=
 bif a0.isEmpty then
  (quE).bind fun z0=>(qt7).bind fun z1=>chk (qfG z0=qrt z1) (some (qfG z0))
 else qf7 a0
def qhH:Ent:=smF ⟨104,[],[.x .bl],[],[]⟩ [.bl] (Unit) (fun x=>Xg x.1) cs1 fun x=>qj2 x.1
theorem qq8:q9 Tryz.prog (qhH):=qhS fun x z h l=>by
 obtain ⟨a0,_⟩:=x
 replace h:Xg a0=some z:=h
 unfold Xg at h
 rcases qkM h with ⟨e,h2⟩ | ⟨_,h2⟩<;>clear h
 ·have e:=List.isEmpty_iff.1 e
  subst e
  obtain ⟨z0,c0,h2⟩:=bind_some h2
  obtain ⟨z1,c1,h2⟩:=bind_some h2
  obtain ⟨hE,h2⟩:=qjp h2
  obtain rfl:=Option.some.inj h2
  refine qkH (t:=.bl) (x:=[]) rfl (TV.ers []) (TV.ers []) (by exact qm_ (()) _ c0 l) ?_
  rw [hE]
  exact (qIq (n:=100050) (sz:=1) (x:=qy .bl ([]:List UInt8)) rfl (by kernel_rfl) (by kernel_rfl) (qnt (()) _ c1 l))
 ·exact qrw (a0,()) z h2 l
noncomputable def qDy:Code:=Tryz.f105.body.getD .skip
theorem qEH:FnF Tryz.prog 105 Tryz.f105 qDy:=⟨qj,by kernel_rfl,by kernel_rfl,by kernel_rfl⟩
def qyu:TH:={ live:=[(0,[0]),(1,[0])] }
def qyK (N:Nat):List Ent:=[]
theorem qt9 (N:Nat):qT Tryz.prog (qyK N):=trivial
def qyc (z:Unit):TV×THp:=(.tv (.wa 8) ((((((((((Vector.replicate 8 0)).setIfInBounds 0 ((UInt32.ofNat 1779033703))).setIfInBounds 1 ((UInt32.ofNat 3144134277))).setIfInBounds 2 ((UInt32.ofNat 1013904242))).setIfInBounds 3 ((UInt32.ofNat 2773480762))).setIfInBounds 4 ((UInt32.ofNat 1359893119))).setIfInBounds 5 ((UInt32.ofNat 2600822924))).setIfInBounds 6 ((UInt32.ofNat 528734635))).setIfInBounds 7 ((UInt32.ofNat 1541459225)):Vector UInt32 8),[])
def qnG:Tree (Unit):=
 .chk (0 < 8) <|
 .chk (1 < 8) <|
 .chk (2 < 8) <|
 .chk (3 < 8) <|
 .chk (4 < 8) <|
 .chk (5 < 8) <|
 .chk (6 < 8) <|
 .chk (7 < 8) <|
 .ret ()
def qkG:Option (Unit):=(qnG).run some
def qxY:List (Nat×qG):=[]
def qnP:Ent:=smF ⟨105,[],[],[],[]⟩ [] (Unit) (fun x=>qkG) cs1 fun _=>qyc
theorem qv0:q9 Tryz.prog (qnP):=
 q0 (H:=qyu) (L:=qQ (qxY)) (ts:=[]) (T:=fun x=>qnG) 0 qEH (qt9 0) (qu (by kernel_rfl) trivial) (rg0 (by kernel_rfl)) fun x=>by kernel_rfl
noncomputable def qEi:Code:=Tryz.f106.body.getD .skip
theorem qEU:FnF Tryz.prog 106 Tryz.f106 qEi:=⟨qj,by kernel_rfl,by kernel_rfl,by kernel_rfl⟩
def qyd:TH:={ live:=[(0,[0]),(1,[0])] }
def qx_ (N:Nat):List Ent:=[]
theorem qt5 (N:Nat):qT Tryz.prog (qx_ N):=trivial
def qy0 (z:Unit):TV×THp:=(.tv (.wa 64) ((((((((((((((((((((((((((((((((((((((((((((((((((((((((((((((((((Vector.replicate 64 0)).setIfInBounds 0 ((UInt32.ofNat 1116352408))).setIfInBounds 1 ((UInt32.ofNat 1899447441))).setIfInBounds 2 ((UInt32.ofNat 3049323471))).setIfInBounds 3 ((UInt32.ofNat 3921009573))).setIfInBounds 4 ((UInt32.ofNat 961987163))).setIfInBounds 5 ((UInt32.ofNat 1508970993))).setIfInBounds 6 ((UInt32.ofNat 2453635748))).setIfInBounds 7 ((UInt32.ofNat 2870763221))).setIfInBounds 8 ((UInt32.ofNat 3624381080))).setIfInBounds 9 ((UInt32.ofNat 310598401))).setIfInBounds 10 ((UInt32.ofNat 607225278))).setIfInBounds 11 ((UInt32.ofNat 1426881987))).setIfInBounds 12 ((UInt32.ofNat 1925078388))).setIfInBounds 13 ((UInt32.ofNat 2162078206))).setIfInBounds 14 ((UInt32.ofNat 2614888103))).setIfInBounds 15 ((UInt32.ofNat 3248222580))).setIfInBounds 16 ((UInt32.ofNat 3835390401))).setIfInBounds 17 ((UInt32.ofNat 4022224774))).setIfInBounds 18 ((UInt32.ofNat 264347078))).setIfInBounds 19 ((UInt32.ofNat 604807628))).setIfInBounds 20 ((UInt32.ofNat 770255983))).setIfInBounds 21 ((UInt32.ofNat 1249150122))).setIfInBounds 22 ((UInt32.ofNat 1555081692))).setIfInBounds 23 ((UInt32.ofNat 1996064986))).setIfInBounds 24 ((UInt32.ofNat 2554220882))).setIfInBounds 25 ((UInt32.ofNat 2821834349))).setIfInBounds 26 ((UInt32.ofNat 2952996808))).setIfInBounds 27 ((UInt32.ofNat 3210313671))).setIfInBounds 28 ((UInt32.ofNat 3336571891))).setIfInBounds 29 ((UInt32.ofNat 3584528711))).setIfInBounds 30 ((UInt32.ofNat 113926993))).setIfInBounds 31 ((UInt32.ofNat 338241895))).setIfInBounds 32 ((UInt32.ofNat 666307205))).setIfInBounds 33 ((UInt32.ofNat 773529912))).setIfInBounds 34 ((UInt32.ofNat 1294757372))).setIfInBounds 35 ((UInt32.ofNat 1396182291))).setIfInBounds 36 ((UInt32.ofNat 1695183700))).setIfInBounds 37 ((UInt32.ofNat 1986661051))).setIfInBounds 38 ((UInt32.ofNat 2177026350))).setIfInBounds 39 ((UInt32.ofNat 2456956037))).setIfInBounds 40 ((UInt32.ofNat 2730485921))).setIfInBounds 41 ((UInt32.ofNat 2820302411))).setIfInBounds 42 ((UInt32.ofNat 3259730800))).setIfInBounds 43 ((UInt32.ofNat 3345764771))).setIfInBounds 44 ((UInt32.ofNat 3516065817))).setIfInBounds 45 ((UInt32.ofNat 3600352804))).setIfInBounds 46 ((UInt32.ofNat 4094571909))).setIfInBounds 47 ((UInt32.ofNat 275423344))).setIfInBounds 48 ((UInt32.ofNat 430227734))).setIfInBounds 49 ((UInt32.ofNat 506948616))).setIfInBounds 50 ((UInt32.ofNat 659060556))).setIfInBounds 51 ((UInt32.ofNat 883997877))).setIfInBounds 52 ((UInt32.ofNat 958139571))).setIfInBounds 53 ((UInt32.ofNat 1322822218))).setIfInBounds 54 ((UInt32.ofNat 1537002063))).setIfInBounds 55 ((UInt32.ofNat 1747873779))).setIfInBounds 56 ((UInt32.ofNat 1955562222))).setIfInBounds 57 ((UInt32.ofNat 2024104815))).setIfInBounds 58 ((UInt32.ofNat 2227730452))).setIfInBounds 59 ((UInt32.ofNat 2361852424))).setIfInBounds 60 ((UInt32.ofNat 2428436474))).setIfInBounds 61 ((UInt32.ofNat 2756734187))).setIfInBounds 62 ((UInt32.ofNat 3204031479))).setIfInBounds 63 ((UInt32.ofNat 3329325298)):Vector UInt32 64),[])
def qoe:Tree (Unit):=
 .chk (0 < 64) <|
 .chk (1 < 64) <|
 .chk (2 < 64) <|
 .chk (3 < 64) <|
 .chk (4 < 64) <|
 .chk (5 < 64) <|
 .chk (6 < 64) <|
 .chk (7 < 64) <|
 .chk (8 < 64) <|
 .chk (9 < 64) <|
 .chk (10 < 64) <|
 .chk (11 < 64) <|
 .chk (12 < 64) <|
 .chk (13 < 64) <|
 .chk (14 < 64) <|
 .chk (15 < 64) <|
 .chk (16 < 64) <|
 .chk (17 < 64) <|
 .chk (18 < 64) <|
 .chk (19 < 64) <|
 .chk (20 < 64) <|
 .chk (21 < 64) <|
 .chk (22 < 64) <|
 .chk (23 < 64) <|
 .chk (24 < 64) <|
 .chk (25 < 64) <|
 .chk (26 < 64) <|
 .chk (27 < 64) <|
 .chk (28 < 64) <|
 .chk (29 < 64) <|
 .chk (30 < 64) <|
 .chk (31 < 64) <|
 .chk (32 < 64) <|
 .chk (33 < 64) <|
 .chk (34 < 64) <|
 .chk (35 < 64) <|
 .chk (36 < 64) <|
 .chk (37 < 64) <|
 .chk (38 < 64) <|
 .chk (39 < 64) <|
 .chk (40 < 64) <|
 .chk (41 < 64) <|
 .chk (42 < 64) <|
 .chk (43 < 64) <|
 .chk (44 < 64) <|
 .chk (45 < 64) <|
 .chk (46 < 64) <|
 .chk (47 < 64) <|
 .chk (48 < 64) <|
 .chk (49 < 64) <|
 .chk (50 < 64) <|
 .chk (51 < 64) <|
 .chk (52 < 64) <|
 .chk (53 < 64) <|
 .chk (54 < 64) <|
 .chk (55 < 64) <|
 .chk (56 < 64) <|
 .chk (57 < 64) <|
 .chk (58 < 64) <|
 .chk (59 < 64) <|
 .chk (60 < 64) <|
 .chk (61 < 64) <|
 .chk (62 < 64) <|
 .chk (63 < 64) <|
 .ret ()
def qma:Option (Unit):=(qoe).run some
def qxZ:List (Nat×qG):=[]
def qnV:Ent:=smF ⟨106,[],[],[],[]⟩ [] (Unit) (fun x=>qma) cs1 fun _=>qy0
theorem qvf:q9 Tryz.prog (qnV):=
 q0 (H:=qyd) (L:=qQ (qxZ)) (ts:=[]) (T:=fun x=>qoe) 0 qEU (qt5 0) (qu (by kernel_rfl) trivial) (rg0 (by kernel_rfl)) fun x=>by kernel_rfl
noncomputable def qEZ:Code:=Tryz.f142.body.getD .skip
theorem qC6:FnF Tryz.prog 142 Tryz.f142 qEZ:=⟨qj,by kernel_rfl,by kernel_rfl,by kernel_rfl⟩
def qeN:TH:={ live:=[(0,[0,1]),(1,[0,5]),(2,[4])] }
def qe1 (N:Nat):List Ent:=[]
theorem qc7 (N:Nat):qT Tryz.prog (qe1 N):=trivial
def qeX (z:Int):TV×THp:=(.tv (.i .u32) z,[])
def JP (a0:Int) (a1:Int):Tree (Int):=
 .chk (0≤(qeI .u64 (IntKind.u64.wrap a1) 31)) <|
 let w1:Int:=qsL .u32 a0 (min (qeI .u64 (IntKind.u64.wrap a1) 31).toNat 32)
 let w2:Int:=qI7 .u64 ((32:Int)) (qeI .u64 (IntKind.u64.wrap a1) 31)
 .chk (0≤w2) <|
 .ret (uOr .u32 w1 (ZF a0 (min w2.toNat 32)))
def Vu (a0:Int) (a1:Int):Option (Int):=(JP a0 a1).run some
def qeB:List (Nat×qG):=[]
def W1:Ent:=smF ⟨142,[],[.x (.i .u32),.x (.i .i64)],[],[]⟩ [(.i .u32),(.i .i64)] (Int) (fun x=>Vu x.1 x.2.1) cs1 fun _=>qeX
theorem qdW:q9 Tryz.prog (W1):=
 q0 (H:=qeN) (L:=qQ (qeB)) (ts:=[(.i .u32),(.i .i64)]) (T:=fun x=>JP x.1 x.2.1) 0 qC6 (qc7 0) (qu (by kernel_rfl) trivial) (rg0 (by kernel_rfl)) fun x=>by kernel_rfl
noncomputable def qCx:Code:=Tryz.f125.body.getD .skip
theorem qEy:FnF Tryz.prog 125 Tryz.f125 qCx:=⟨qj,by kernel_rfl,by kernel_rfl,by kernel_rfl⟩
def qza:TH:={ live:=[(0,[0,1]),(1,[4])] }
def qzh (N:Nat):List Ent:=[W1]
theorem quI (N:Nat):qT Tryz.prog (qzh N):=⟨qdW,trivial⟩
def qyw (z:Int):TV×THp:=(.tv (.i .u32) z,[])
def qgs (a0:Int) (a1:Int):Tree (Int):=
 .chk (qz (0 - a1)) <|
 .bind (Vu a0 (0 - a1)) fun r1=>
 .ret r1
def zW (a0:Int) (a1:Int):Option (Int):=(qgs a0 a1).run some
def qzc:List (Nat×qG):=[]
def qgC:Ent:=smF ⟨125,[],[.x (.i .u32),.x (.i .i64)],[],[]⟩ [(.i .u32),(.i .i64)] (Int) (fun x=>zW x.1 x.2.1) cs1 fun _=>qyw
theorem qlc:q9 Tryz.prog (qgC):=
 q0 (H:=qza) (L:=qQ (qzc)) (ts:=[(.i .u32),(.i .i64)]) (T:=fun x=>qgs x.1 x.2.1) 0 qEy (quI 0) (qu (by kernel_rfl) trivial) (rg0 (by kernel_rfl)) fun x=>by kernel_rfl
noncomputable def qmu:Code:=Tryz.f124.body.getD .skip
theorem qD4:FnF Tryz.prog 124 Tryz.f124 qmu:=⟨qj,by kernel_rfl,by kernel_rfl,by kernel_rfl⟩
def qb_:TH:={ live:=[(0,[0,2]),(1,[0,2,3]),(2,[0,2,3,7]),(3,[0,2,3,7,8]),(4,[0,2,3,4,7]),(5,[0,2,3,4,7,11]),(6,[0,2,3,7]),(7,[0,2,3,4,5,6,7]),(8,[0,2,3,7]),(9,[0,2,3,7]),(10,[2])] }
def qhX (N:Nat):List Ent:=[qgC]
theorem qeP (N:Nat):qT Tryz.prog (qhX N):=⟨qlc,trivial⟩
abbrev VG:=Vector UInt32 64×List UInt8
abbrev Q1:=Vector UInt32 64×Int×Bool
def Jd (f:VG) (y:Q1):Ex×TSt:=(.exit 0,⟨0,86,[],[(0,.tv .bl f.2),(2,.p 20 [] 0),(3,.p 30 [] 0),(7,xi y.2.1),(8,xb y.2.2)],[(20,.cell false (.tv (.wa 64) f.1)),(30,.cell false (.tv (.wa 64) (y.1:Vector UInt32 64)))],false,[]⟩)
def qns (N:Nat):List (Nat×qG):=[]
abbrev Jg:=Vector UInt32 64×Int
def qdB:SP:=⟨0,86,[],[(0,.x .bl),(2,.k (.p 20 [] 0)),(3,.k (.p 30 [] 0)),(7,.x (.i .i64))],[(20,.cell false (.x (.wa 64))),(30,.cell false (.x (.wa 64)))],false,[]⟩
def qnp (f:VG) (v:Jg):TSt:=jh qdB [dv (.wa 64) f.1,dv (.wa 64) v.1,dv .bl f.2,dv (.i .i64) v.2]
def vS (N:Nat) (o_3:Vector UInt32 64) (s0_3:List UInt8) (v:Jg):Tree (Jg⊕Q1):=
 .cond (decide (v.2 < ((64:Int)))) (
 .cond (decide (v.2 < ((16:Int)))) (
 .chk (qz (((4:Int)) * v.2)) <|
 .bind (zl s0_3 (((4:Int)) * v.2)) fun e1=>
 let w2:Int:=IntKind.u32.wrap ((e1.toNat:Nat):Int)
 .chk (0≤(24:Int)) <|
 .chk (qz (((4:Int)) * v.2)) <|
 .chk (qz ((((4:Int)) * v.2) + 1)) <|
 .bind (zl s0_3 ((((4:Int)) * v.2) + 1)) fun e3=>
 let w4:Int:=IntKind.u32.wrap ((e3.toNat:Nat):Int)
 .chk (0≤(16:Int)) <|
 let w5:Int:=uOr .u32 (qsL .u32 w2 24) (qsL .u32 w4 16)
 .chk (qz (((4:Int)) * v.2)) <|
 .chk (qz ((((4:Int)) * v.2) + 2)) <|
 .bind (zl s0_3 ((((4:Int)) * v.2) + 2)) fun e6=>
 let w7:Int:=IntKind.u32.wrap ((e6.toNat:Nat):Int)
 .chk (0≤(8:Int)) <|
 .chk (qz (((4:Int)) * v.2)) <|
 .chk (qz ((((4:Int)) * v.2) + 3)) <|
 .bind (zl s0_3 ((((4:Int)) * v.2) + 3)) fun e8=>
 let w9:Int:=IntKind.u32.wrap ((e8.toNat:Nat):Int)
 let w10:Int:=uOr .u32 (uOr .u32 w5 (qsL .u32 w7 8)) w9
 .chk (0≤v.2∧v.2 < ((64:Nat):Int)) <|
 .chk (inW w10) <|
 .chk (v.2.toNat < 64) <|
 .chk (qz (v.2 + 1)) <|
 .ret (.inl (v.1.setIfInBounds v.2.toNat (UInt32.ofNat w10.toNat),v.2 + 1))) <|
 .chk (qz (v.2 - 15)) <|
 .chk (0≤(v.2 - 15)∧(v.2 - 15) < ((64:Nat):Int)) <|
 .chk ((v.2 - 15).toNat < 64) <|
 .chk (qz (v.2 - 2)) <|
 .chk (0≤(v.2 - 2)∧(v.2 - 2) < ((64:Nat):Int)) <|
 .chk ((v.2 - 2).toNat < 64) <|
 .chk (qz (v.2 - 16)) <|
 .chk (0≤(v.2 - 16)∧(v.2 - 16) < ((64:Nat):Int)) <|
 .chk ((v.2 - 16).toNat < 64) <|
 .chk (qz (v.2 - 7)) <|
 .chk (0≤(v.2 - 7)∧(v.2 - 7) < ((64:Nat):Int)) <|
 .chk ((v.2 - 7).toNat < 64) <|
 let w1:Int:=qab .u32 (((v.1.toList.getD ((v.2 - 16).toNat) 0).toNat:Nat):Int) (((v.1.toList.getD ((v.2 - 7).toNat) 0).toNat:Nat):Int)
 .bind (zW (((v.1.toList.getD ((v.2 - 15).toNat) 0).toNat:Nat):Int) 7) fun r2=>
 .bind (zW (((v.1.toList.getD ((v.2 - 15).toNat) 0).toNat:Nat):Int) 18) fun r3=>
 .chk (0≤(3:Int)) <|
 let w4:Int:=ZF (((v.1.toList.getD ((v.2 - 15).toNat) 0).toNat:Nat):Int) 3
 let w5:Int:=qab .u32 w1 (qam .u32 (qam .u32 r2 r3) w4)
 .bind (zW (((v.1.toList.getD ((v.2 - 2).toNat) 0).toNat:Nat):Int) 17) fun r6=>
 .bind (zW (((v.1.toList.getD ((v.2 - 2).toNat) 0).toNat:Nat):Int) 19) fun r7=>
 .chk (0≤(10:Int)) <|
 let w8:Int:=ZF (((v.1.toList.getD ((v.2 - 2).toNat) 0).toNat:Nat):Int) 10
 let w9:Int:=qab .u32 w5 (qam .u32 (qam .u32 r6 r7) w8)
 .chk (0≤v.2∧v.2 < ((64:Nat):Int)) <|
 .chk (inW w9) <|
 .chk (v.2.toNat < 64) <|
 .chk (qz (v.2 + 1)) <|
 .ret (.inl (v.1.setIfInBounds v.2.toNat (UInt32.ofNat w9.toNat),v.2 + 1))) <|
 .ret (.inr (v.1,v.2,decide (v.2 < ((64:Int)))))
def qds (N n:Nat) (f:VG) (v:Jg):Option Q1:=q6 (vS N f.1 f.2) some n v
theorem qnx (N:Nat) (f:VG) (n:Nat) (v:Jg) (y:Q1) (h:qds N n f v=some y):LG Tryz.prog qb_ 124 (q8 qmu 3) (qnp f v) (Jd f y):=
 zQ qj (E:=qhX N) (L:=qQ (qns N)) (st:=Jd f) (g:=some) (R:=Jd f) (qeP N) (qu (by kernel_rfl) trivial) (rg0 (by kernel_rfl)) (fun v=>by kernel_rfl) (zg (st:=Jd f) fun y=>by rfl) n v y h
def qbk (N:Nat) (o_3:Vector UInt32 64) (s0_3:List UInt8) (o_3_2:Vector UInt32 64) (s7_3:Int):Option Q1:=qds N N (o_3,s0_3) (o_3_2,s7_3)
def qdz (N:Nat):qG:=smL qdB [(.wa 64),(.wa 64),.bl,(.i .i64)] Q1 (fun x=>qbk N x.1 x.2.2.1 x.2.1 x.2.2.2.1) cs1 fun x=>Jd (x.1,x.2.2.1)
theorem qkt (N:Nat):vJ Tryz.prog qb_ 124 (q8 qmu 3) (qdz N):=jk fun x z h=>qnx N (x.1,x.2.2.1) N (x.2.1,x.2.2.2.1) z h
def qsl (z:Vector UInt32 64):TV×THp:=(.tv (.wa 64) z,[])
def qbW (N:Nat) (a0:List UInt8):Tree (Vector UInt32 64):=
 .bind (qbk N ((Vector.replicate 64 0)) a0 ((Vector.replicate 64 0)) 0) fun z1=>
 .ret z1.1
def qbf (N:Nat) (a0:List UInt8):Option (Vector UInt32 64):=(qbW N a0).run some
def qsQ (N:Nat):List (Nat×qG):=[(3,qdz N)]
def qhR (N:Nat):Ent:=smF ⟨124,[],[.x .bl],[],[]⟩ [.bl] (Vector UInt32 64) (fun x=>qbf N x.1) cs1 fun _=>qsl
theorem qrb (N:Nat):q9 Tryz.prog (qhR N):=
 q0 (H:=qb_) (L:=qQ (qsQ N)) (ts:=[.bl]) (T:=fun x=>qbW N x.1) 0 qD4 (qeP N) (qu (by kernel_rfl) ⟨qkt N,trivial⟩) (rg0 (by kernel_rfl)) fun x=>by kernel_rfl
noncomputable def qcC:Code:=Tryz.f107.body.getD .skip
theorem qCz:FnF Tryz.prog 107 Tryz.f107 qcC:=⟨qj,by kernel_rfl,by kernel_rfl,by kernel_rfl⟩
def JG:TH:={ live:=[(0,[0,2,6]),(1,[0,2,6,7]),(2,[0,2,6,7,19]),(3,[0,2,6,7,19,20]),(4,[0,2,6,7,8,19]),(5,[0,2,6,7,8,9,10,19]),(6,[0,2,6,7,9,11,19]),(7,[0,2,6,7,11,12,19]),(8,[0,2,6,7,11,12,19]),(9,[0,2,6,7,11,19]),(10,[0,2,6,7,19]),(11,[0,2,6,7,19]),(12,[0,7,95]),(13,[0,7,95,96]),(14,[0,7,13,95]),(15,[0,7,95]),(16,[0,7,95])] }
def qac (N:Nat):List Ent:=[qhR N,qgC]
theorem Yw (N:Nat):qT Tryz.prog (qac N):=⟨qrb N,qlc,trivial⟩
abbrev JR:=Vector UInt32 8×Vector UInt32 64×Vector UInt32 64
abbrev vY:=Vector UInt32 8×Int×Bool
def Zf (f:JR) (y:vY):Ex×TSt:=(.exit 0,⟨1,110,[50,60],[(0,.p 50 [] 0),(2,.p 60 [] 0),(6,.p 100060 [] 0),(7,.p 100070 [] 0),(19,xi y.2.1),(20,xb y.2.2)],[(50,.cell false (.tv (.wa 8) f.1)),(60,.cell false (.tv (.wa 64) f.2.1)),(100060,.cell false (.tv (.wa 64) f.2.2)),(100070,.cell false (.tv (.wa 8) (y.1:Vector UInt32 8)))],false,[]⟩)
def qkh (N:Nat):List (Nat×qG):=[]
abbrev Zj:=Vector UInt32 8×Int
def qbL:SP:=⟨1,110,[50,60],[(0,.k (.p 50 [] 0)),(2,.k (.p 60 [] 0)),(6,.k (.p 100060 [] 0)),(7,.k (.p 100070 [] 0)),(19,.x (.i .i64))],[(50,.cell false (.x (.wa 8))),(60,.cell false (.x (.wa 64))),(100060,.cell false (.x (.wa 64))),(100070,.cell false (.x (.wa 8)))],false,[]⟩
def qj6 (f:JR) (v:Zj):TSt:=jh qbL [dv (.wa 8) f.1,dv (.wa 64) f.2.1,dv (.wa 64) f.2.2,dv (.wa 8) v.1,dv (.i .i64) v.2]
def Zg (N:Nat) (o_3:Vector UInt32 8) (o_3_2:Vector UInt32 64) (o_3_3:Vector UInt32 64) (v:Zj):Tree (Zj⊕vY):=
 .cond (decide (v.2 < ((64:Int)))) (
 .chk (0≤(0:Int)∧(0:Int) < ((8:Nat):Int)) <|
 .chk (0 < 8) <|
 .chk (0≤(4:Int)∧(4:Int) < ((8:Nat):Int)) <|
 .chk (4 < 8) <|
 .chk (0≤(7:Int)∧(7:Int) < ((8:Nat):Int)) <|
 .chk (7 < 8) <|
 .bind (zW (((v.1.toList.getD 4 0).toNat:Nat):Int) 6) fun r1=>
 .bind (zW (((v.1.toList.getD 4 0).toNat:Nat):Int) 11) fun r2=>
 .bind (zW (((v.1.toList.getD 4 0).toNat:Nat):Int) 25) fun r3=>
 let w4:Int:=qab .u32 (((v.1.toList.getD 7 0).toNat:Nat):Int) (qam .u32 (qam .u32 r1 r2) r3)
 .chk (0≤(5:Int)∧(5:Int) < ((8:Nat):Int)) <|
 .chk (5 < 8) <|
 let w5:Int:=qeI .u32 (((v.1.toList.getD 4 0).toNat:Nat):Int) (((v.1.toList.getD 5 0).toNat:Nat):Int)
 let w6:Int:=qam .u32 (4294967295) (((v.1.toList.getD 4 0).toNat:Nat):Int)
 .chk (0≤(6:Int)∧(6:Int) < ((8:Nat):Int)) <|
 .chk (6 < 8) <|
 let w7:Int:=qeI .u32 w6 (((v.1.toList.getD 6 0).toNat:Nat):Int)
 .chk (0≤v.2∧v.2 < ((64:Nat):Int)) <|
 .chk (v.2.toNat < 64) <|
 let w8:Int:=qab .u32 (qab .u32 w4 (qam .u32 w5 w7)) (((o_3_2.toList.getD v.2.toNat 0).toNat:Nat):Int)
 .chk (0≤v.2∧v.2 < ((64:Nat):Int)) <|
 .chk (v.2.toNat < 64) <|
 let w9:Int:=qab .u32 w8 (((o_3_3.toList.getD v.2.toNat 0).toNat:Nat):Int)
 .bind (zW (((v.1.toList.getD 0 0).toNat:Nat):Int) 2) fun r10=>
 .bind (zW (((v.1.toList.getD 0 0).toNat:Nat):Int) 13) fun r11=>
 .bind (zW (((v.1.toList.getD 0 0).toNat:Nat):Int) 22) fun r12=>
 .chk (0≤(1:Int)∧(1:Int) < ((8:Nat):Int)) <|
 .chk (1 < 8) <|
 let w13:Int:=qeI .u32 (((v.1.toList.getD 0 0).toNat:Nat):Int) (((v.1.toList.getD 1 0).toNat:Nat):Int)
 .chk (0≤(2:Int)∧(2:Int) < ((8:Nat):Int)) <|
 .chk (2 < 8) <|
 let w14:Int:=qeI .u32 (((v.1.toList.getD 0 0).toNat:Nat):Int) (((v.1.toList.getD 2 0).toNat:Nat):Int)
 .chk (0≤(1:Int)∧(1:Int) < ((8:Nat):Int)) <|
 .chk (1 < 8) <|
 .chk (0≤(2:Int)∧(2:Int) < ((8:Nat):Int)) <|
 .chk (2 < 8) <|
 let w15:Int:=qeI .u32 (((v.1.toList.getD 1 0).toNat:Nat):Int) (((v.1.toList.getD 2 0).toNat:Nat):Int)
 let w16:Int:=qab .u32 (qam .u32 (qam .u32 r10 r11) r12) (qam .u32 (qam .u32 w13 w14) w15)
 .chk (0≤(0:Int)∧(0:Int) < ((8:Nat):Int)) <|
 .chk (inW (qab .u32 w9 w16)) <|
 .chk (0 < 8) <|
 .chk (0≤(4:Int)∧(4:Int) < ((8:Nat):Int)) <|
 .chk (4 < 8) <|
 let w17:Int:=qab .u32 (((((Wi v.1 1 7).setIfInBounds 0 (UInt32.ofNat (qab .u32 w9 w16).toNat)).toList.getD 4 0).toNat:Nat):Int) w9
 .chk (0≤(4:Int)∧(4:Int) < ((8:Nat):Int)) <|
 .chk (inW w17) <|
 .chk (4 < 8) <|
 .chk (qz (v.2 + 1)) <|
 .ret (.inl (((Wi v.1 1 7).setIfInBounds 0 (UInt32.ofNat (qab .u32 w9 w16).toNat)).setIfInBounds 4 (UInt32.ofNat w17.toNat),v.2 + 1))) <|
 .ret (.inr (v.1,v.2,decide (v.2 < ((64:Int)))))
def qbJ (N n:Nat) (f:JR) (v:Zj):Option vY:=q6 (Zg N f.1 f.2.1 f.2.2) some n v
theorem qj9 (N:Nat) (f:JR) (n:Nat) (v:Zj) (y:vY) (h:qbJ N n f v=some y):LG Tryz.prog JG 107 (q8 qcC 3) (qj6 f v) (Zf f y):=
 zQ qj (E:=qac N) (L:=qQ (qkh N)) (st:=Zf f) (g:=some) (R:=Zf f) (Yw N) (qu (by kernel_rfl) trivial) (rg0 (by kernel_rfl)) (fun v=>by kernel_rfl) (zg (st:=Zf f) fun y=>by rfl) n v y h
def Ko (N:Nat) (o_3:Vector UInt32 8) (o_3_2:Vector UInt32 64) (o_3_3:Vector UInt32 64) (o_3_4:Vector UInt32 8) (s19_3:Int):Option vY:=qbJ N N (o_3,o_3_2,o_3_3) (o_3_4,s19_3)
def qbM (N:Nat):qG:=smL qbL [(.wa 8),(.wa 64),(.wa 64),(.wa 8),(.i .i64)] vY (fun x=>Ko N x.1 x.2.1 x.2.2.1 x.2.2.2.1 x.2.2.2.2.1) cs1 fun x=>Zf (x.1,x.2.1,x.2.2.1)
theorem qjd (N:Nat):vJ Tryz.prog JG 107 (q8 qcC 3) (qbM N):=jk fun x z h=>qj9 N (x.1,x.2.1,x.2.2.1) N (x.2.2.2.1,x.2.2.2.2.1) z h
abbrev Jp:=Vector UInt32 64×Vector UInt32 8
abbrev vI:=Vector UInt32 8×Int×Bool
def QR (f:Jp) (y:vI):Ex×TSt:=(.exit 2,⟨1,110,[50,60],[(0,.p 50 [] 0),(7,.p 100070 [] 0),(95,xi y.2.1),(96,xb y.2.2)],[(50,.cell false (.tv (.wa 8) (y.1:Vector UInt32 8))),(60,.cell false (.tv (.wa 64) f.1)),(100070,.cell false (.tv (.wa 8) f.2))],false,[]⟩)
def qiM (N:Nat):List (Nat×qG):=[]
abbrev QT:=Vector UInt32 8×Int
def qbx:SP:=⟨1,110,[50,60],[(0,.k (.p 50 [] 0)),(7,.k (.p 100070 [] 0)),(95,.x (.i .i64))],[(50,.cell false (.x (.wa 8))),(60,.cell false (.x (.wa 64))),(100070,.cell false (.x (.wa 8)))],false,[]⟩
def qiB (f:Jp) (v:QT):TSt:=jh qbx [dv (.wa 8) v.1,dv (.wa 64) f.1,dv (.wa 8) f.2,dv (.i .i64) v.2]
def Jo (N:Nat) (o_13_2:Vector UInt32 64) (o_13_3:Vector UInt32 8) (v:QT):Tree (QT⊕vI):=
 .cond (decide (v.2 < ((8:Int)))) (
 .chk (0≤v.2∧v.2 < ((8:Nat):Int)) <|
 .chk (v.2.toNat < 8) <|
 .chk (0≤v.2∧v.2 < ((8:Nat):Int)) <|
 .chk (v.2.toNat < 8) <|
 let w1:Int:=qab .u32 (((v.1.toList.getD v.2.toNat 0).toNat:Nat):Int) (((o_13_3.toList.getD v.2.toNat 0).toNat:Nat):Int)
 .chk (0≤v.2∧v.2 < ((8:Nat):Int)) <|
 .chk (inW w1) <|
 .chk (v.2.toNat < 8) <|
 .chk (qz (v.2 + 1)) <|
 .ret (.inl (v.1.setIfInBounds v.2.toNat (UInt32.ofNat w1.toNat),v.2 + 1))) <|
 .ret (.inr (v.1,v.2,decide (v.2 < ((8:Int)))))
def qbD (N n:Nat) (f:Jp) (v:QT):Option vI:=q6 (Jo N f.1 f.2) some n v
theorem qiX (N:Nat) (f:Jp) (n:Nat) (v:QT) (y:vI) (h:qbD N n f v=some y):LG Tryz.prog JG 107 (q8 qcC 13) (qiB f v) (QR f y):=
 zQ qj (E:=qac N) (L:=qQ (qiM N)) (st:=QR f) (g:=some) (R:=QR f) (Yw N) (qu (by kernel_rfl) trivial) (rg0 (by kernel_rfl)) (fun v=>by kernel_rfl) (zg (st:=QR f) fun y=>by rfl) n v y h
def Yy (N:Nat) (o_13_2:Vector UInt32 64) (o_13_3:Vector UInt32 8) (o_13:Vector UInt32 8) (s95_13:Int):Option vI:=qbD N N (o_13_2,o_13_3) (o_13,s95_13)
def qa0 (N:Nat):qG:=smL qbx [(.wa 8),(.wa 64),(.wa 8),(.i .i64)] vI (fun x=>Yy N x.2.1 x.2.2.1 x.1 x.2.2.2.1) cs1 fun x=>QR (x.2.1,x.2.2.1)
theorem qh0 (N:Nat):vJ Tryz.prog JG 107 (q8 qcC 13) (qa0 N):=jk fun x z h=>qiX N (x.2.1,x.2.2.1) N (x.1,x.2.2.2.1) z h
def qo9 (a1:Vector UInt32 64) (z:Vector UInt32 8):TV×THp:=(.tup [],[(50,.cell false (.tv (.wa 8) z)),(60,.cell false (.tv (.wa 64) a1))])
def qaj (N:Nat) (a0:Vector UInt32 8) (a1:Vector UInt32 64) (a2:List UInt8):Tree (Vector UInt32 8):=
 .bind (qbf N a2) fun r1=>
 .bind (Ko N a0 a1 r1 a0 0) fun z2=>
 .bind (Yy N a1 z2.1 a0 0) fun z3=>
 .ret z3.1
def V_ (N:Nat) (a0:Vector UInt32 8) (a1:Vector UInt32 64) (a2:List UInt8):Option (Vector UInt32 8):=(qaj N a0 a1 a2).run some
def qop (N:Nat):List (Nat×qG):=[(3,qbM N),(13,qa0 N)]
def qee (N:Nat):Ent:=smF ⟨107,[],[.k (.p 50 [] 0),.x .bl,.k (.p 60 [] 0)],[],[(50,.cell false (.x (.wa 8))),(60,.cell false (.x (.wa 64)))]⟩ [(.wa 8),(.wa 64),.bl] (Vector UInt32 8) (fun x=>V_ N x.1 x.2.1 x.2.2.1) cs1 fun x=>qo9 x.2.1
theorem qnm (N:Nat):q9 Tryz.prog (qee N):=
 q0 (H:=JG) (L:=qQ (qop N)) (ts:=[(.wa 8),(.wa 64),.bl]) (T:=fun x=>qaj N x.1 x.2.1 x.2.2.1) 0 qCz (Yw N) (qu (by kernel_rfl) ⟨qjd N,qh0 N,trivial⟩) (rg0 (by kernel_rfl)) fun x=>by kernel_rfl
noncomputable def Vw:Code:=Tryz.f78.body.getD .skip
theorem qGM:FnF Tryz.prog 78 Tryz.f78 Vw:=⟨qj,by kernel_rfl,by kernel_rfl,by kernel_rfl⟩
def Js:TH:={ live:=[(0,[0,2]),(1,[0,2,3]),(2,[0,2,3,16]),(3,[0,2,3]),(4,[0,2,3,20]),(5,[0,2,3,20,21]),(6,[0,2,3,4,20]),(7,[0,2,3,20]),(8,[0,2,3,20]),(9,[2,3,5,6]),(10,[2,3,5,6,40]),(11,[2,3,5,6]),(12,[2,3,5,6]),(13,[2,5,7]),(14,[2,5,7,46]),(15,[2,5,7,46,47]),(16,[2,5,7,8,46]),(17,[2,5,7,46]),(18,[2,5,7,46]),(19,[2])],fresh:=[10] }
def qav (N:Nat):List Ent:=[qhH,qnP,qnV,qee N]
theorem Wn (N:Nat):qT Tryz.prog (qav N):=⟨qq8,qv0,qvf,qnm N,trivial⟩
abbrev qbm:=Vector UInt8 32×List UInt8
abbrev VY:=List UInt8×Bool
def Yj (f:qbm) (y:VY):Ex×TSt:=(.exit 0,⟨0,63,[],[(0,.tv .bl f.2),(2,.p 20 [] 0),(3,.v 100050 y.1.length),(16,xb y.2)],[(20,.cell false (.tv (.ba 32) f.1)),(100050,.vec false 1 .bl (y.1:List UInt8))],false,[]⟩)
def qxp (N:Nat):List (Nat×qG):=[]
abbrev YA:=List UInt8
def qly:SP:=⟨0,63,[],[(0,.x .bl),(2,.k (.p 20 [] 0)),(3,.vs 100050)],[(20,.cell false (.x (.ba 32))),(100050,.vec false 1)],false,[]⟩
def qwI (f:qbm) (v:YA):TSt:=jh qly [dv .bl v,dv (.ba 32) f.1,dv .bl f.2]
def Yq (N:Nat) (o_2_2:Vector UInt8 32) (s0_2:List UInt8) (v:YA):Tree (YA⊕VY):=
 .chk ((64:Int)≠0) <|
 .cond (!decide ((((v.length:Nat):Int).tmod 64)=56)) (
 .chk (Vt v.length v.length ((v++[(UInt8.ofNat 0)]).length) 1) <|
 .ret (.inl (v++[(UInt8.ofNat 0)]))) <|
 .ret (.inr (v,!decide ((((v.length:Nat):Int).tmod 64)=56)))
def qkO (N n:Nat) (f:qbm) (v:YA):Option VY:=q6 (Yq N f.1 f.2) some n v
theorem qwz (N:Nat) (f:qbm) (n:Nat) (v:YA) (y:VY) (h:qkO N n f v=some y):LG Tryz.prog Js 78 (q8 Vw 2) (qwI f v) (Yj f y):=
 zQ qj (E:=qav N) (L:=qQ (qxp N)) (st:=Yj f) (g:=some) (R:=Yj f) (Wn N) (qu (by kernel_rfl) trivial) (rg0 (by kernel_rfl)) (fun v=>by kernel_rfl) (zg (st:=Yj f) fun y=>by rfl) n v y h
def qdM (N:Nat) (o_2_2:Vector UInt8 32) (s0_2:List UInt8) (o_2:List UInt8):Option VY:=qkO N N (o_2_2,s0_2) o_2
def qlw (N:Nat):qG:=smL qly [.bl,(.ba 32),.bl] VY (fun x=>qdM N x.2.1 x.2.2.1 x.1) cs1 fun x=>Yj (x.2.1,x.2.2.1)
theorem qtO (N:Nat):vJ Tryz.prog Js 78 (q8 Vw 2) (qlw N):=jk fun x z h=>qwz N (x.2.1,x.2.2.1) N x.1 z h
abbrev qbb:=Vector UInt8 32×List UInt8
abbrev V2:=List UInt8×Int×Bool
def Yu (f:qbb) (y:V2):Ex×TSt:=(.exit 2,⟨0,63,[],[(0,.tv .bl f.2),(2,.p 20 [] 0),(3,.v 100050 y.1.length),(20,xi y.2.1),(21,xb y.2.2)],[(20,.cell false (.tv (.ba 32) f.1)),(100050,.vec false 1 .bl (y.1:List UInt8))],false,[]⟩)
def qwQ (N:Nat):List (Nat×qG):=[]
abbrev YD:=List UInt8×Int
def qmo:SP:=⟨0,63,[],[(0,.x .bl),(2,.k (.p 20 [] 0)),(3,.vs 100050),(20,.x (.i .i64))],[(20,.cell false (.x (.ba 32))),(100050,.vec false 1)],false,[]⟩
def qvs (f:qbb) (v:YD):TSt:=jh qmo [dv .bl v.1,dv (.ba 32) f.1,dv .bl f.2,dv (.i .i64) v.2]
def qbu (N:Nat) (o_5_2:Vector UInt8 32) (s0_5:List UInt8) (v:YD):Tree (YD⊕V2):=
 .cond (decide (v.2 < ((8:Int)))) (
 let w1:Int:=IntKind.u64.wrap ((s0_5.length:Nat):Int)
 .chk (qz (((7:Int)) - v.2)) <|
 .chk (qz (((8:Int)) * (((7:Int)) - v.2))) <|
 .chk (0≤(((8:Int)) * (((7:Int)) - v.2))) <|
 let w2:Int:=ZF (qJz .u64 w1 8) (min (((8:Int)) * (((7:Int)) - v.2)).toNat 64)
 .chk (inB (IntKind.u8.wrap w2)) <|
 .chk (Vt v.1.length v.1.length ((v.1++[UInt8.ofNat (IntKind.u8.wrap w2).toNat]).length) 1) <|
 .chk (qz (v.2 + 1)) <|
 .ret (.inl (v.1++[UInt8.ofNat (IntKind.u8.wrap w2).toNat],v.2 + 1))) <|
 .ret (.inr (v.1,v.2,decide (v.2 < ((8:Int)))))
def qkV (N n:Nat) (f:qbb) (v:YD):Option V2:=q6 (qbu N f.1 f.2) some n v
theorem qvJ (N:Nat) (f:qbb) (n:Nat) (v:YD) (y:V2) (h:qkV N n f v=some y):LG Tryz.prog Js 78 (q8 Vw 5) (qvs f v) (Yu f y):=
 zQ qj (E:=qav N) (L:=qQ (qwQ N)) (st:=Yu f) (g:=some) (R:=Yu f) (Wn N) (qu (by kernel_rfl) trivial) (rg0 (by kernel_rfl)) (fun v=>by kernel_rfl) (zg (st:=Yu f) fun y=>by rfl) n v y h
def qiS (N:Nat) (o_5_2:Vector UInt8 32) (s0_5:List UInt8) (o_5:List UInt8) (s20_5:Int):Option V2:=qkV N N (o_5_2,s0_5) (o_5,s20_5)
def qkP (N:Nat):qG:=smL qmo [.bl,(.ba 32),.bl,(.i .i64)] V2 (fun x=>qiS N x.2.1 x.2.2.1 x.1 x.2.2.2.1) cs1 fun x=>Yu (x.2.1,x.2.2.1)
theorem qtZ (N:Nat):vJ Tryz.prog Js 78 (q8 Vw 5) (qkP N):=jk fun x z h=>qvJ N (x.2.1,x.2.2.1) N (x.1,x.2.2.2.1) z h
abbrev Qf:=List UInt8×Vector UInt8 32×Vector UInt32 8×Vector UInt32 64
abbrev vE:=Unit⊕(Vector UInt32 8×List UInt8×Bool)
def Qg (f:Qf):vE→Ex×TSt
 | .inl y=>(.exit 4,⟨0,63,[],[(2,.p 20 [] 0),(3,.v 100050 f.1.length),(5,.p 50 [] 0),(6,.p 60 [] 0),(40,xb (decide (((0:Int)) < ((f.1.length:Nat):Int))))],[(20,.cell false (.tv (.ba 32) f.2.1)),(50,.cell false (.tv (.wa 8) f.2.2.1)),(60,.cell false (.tv (.wa 64) f.2.2.2)),(100050,.vec false 1 .bl f.1)],false,[]⟩)
 | .inr y=>(.exit 4,⟨0,63,[],[(2,.p 20 [] 0),(3,.tv .bl (y.2.1:List UInt8)),(5,.p 50 [] 0),(6,.p 60 [] 0),(40,xb y.2.2)],[(20,.cell false (.tv (.ba 32) f.2.1)),(50,.cell false (.tv (.wa 8) (y.1:Vector UInt32 8))),(60,.cell false (.tv (.wa 64) f.2.2.2))],false,[]⟩)
def qjU (N:Nat):List (Nat×qG):=[]
abbrev Zp:=Vector UInt32 8×List UInt8
def qpu:SP:=⟨0,63,[],[(2,.k (.p 20 [] 0)),(3,.x .bl),(5,.k (.p 50 [] 0)),(6,.k (.p 60 [] 0))],[(20,.cell false (.x (.ba 32))),(50,.cell false (.x (.wa 8))),(60,.cell false (.x (.wa 64)))],false,[]⟩
def qeE (f:Qf) (v:Zp):TSt:=jh qpu [dv (.ba 32) f.2.1,dv (.wa 8) v.1,dv (.wa 64) f.2.2.2,dv .bl v.2]
def XJ (N:Nat) (o_10:List UInt8) (o_10_2:Vector UInt8 32) (o_10_3:Vector UInt32 8) (o_10_4:Vector UInt32 64) (v:Zp):Tree (Zp⊕vE):=
 .cond (decide (((0:Int)) < ((v.2.length:Nat):Int))) (
 .chk (0≤(0:Int)∧(0:Int)≤(64:Int)∧(64:Int)≤((v.2.length:Nat):Int)) <|
 .bind (V_ N v.1 o_10_4 ((v.2.take 64).drop 0)) fun r1=>
 .chk (0≤(64:Int)∧(64:Int)≤((v.2.length:Nat):Int)) <|
 .ret (.inl (r1,v.2.drop 64))) <|
 .ret (.inr (.inr ((v.1,v.2,decide (((0:Int)) < ((v.2.length:Nat):Int))))))
def qeV (N n:Nat) (f:Qf) (v:Zp):Option vE:=q6 (XJ N f.1 f.2.1 f.2.2.1 f.2.2.2) some n v
theorem qoQ (N:Nat) (f:Qf) (n:Nat) (v:Zp) (y:vE) (h:qeV N n f v=some y):LG Tryz.prog Js 78 (q8 Vw 10) (qeE f v) (Qg f y):=
 zQ qj (E:=qav N) (L:=qQ (qjU N)) (st:=Qg f) (g:=some) (R:=Qg f) (Wn N) (qu (by kernel_rfl) trivial) (rg0 (by kernel_rfl)) (fun v=>by kernel_rfl) (zg (st:=Qg f) fun y=>by rcases y with _ | _<;>rfl) n v y h
abbrev X5:=Unit
def qjT:SP:=⟨0,63,[],[(2,.k (.p 20 [] 0)),(3,.vs 100050),(5,.k (.p 50 [] 0)),(6,.k (.p 60 [] 0))],[(20,.cell false (.x (.ba 32))),(50,.cell false (.x (.wa 8))),(60,.cell false (.x (.wa 64))),(100050,.vec false 1)],false,[]⟩
def quc (f:Qf) (v:X5):TSt:=jh qjT [dv .bl f.1,dv (.ba 32) f.2.1,dv (.wa 8) f.2.2.1,dv (.wa 64) f.2.2.2]
abbrev qc5:=Zp⊕vE
def KU (N:Nat) (o_10:List UInt8) (o_10_2:Vector UInt8 32) (o_10_3:Vector UInt32 8) (o_10_4:Vector UInt32 64) (v:X5):Tree (X5⊕qc5):=
 .cond (decide (((0:Int)) < ((o_10.length:Nat):Int))) (
 .chk (0≤(0:Int)∧(0:Int)≤(64:Int)∧(64:Int)≤((o_10.length:Nat):Int)) <|
 .chk (o_10.length=o_10.length) <|
 .bind (V_ N o_10_3 o_10_4 ((o_10.take 64).drop 0)) fun r1=>
 .chk (0≤(64:Int)∧(64:Int)≤((o_10.length:Nat):Int)) <|
 .chk (o_10.length=o_10.length) <|
 .ret (.inr (.inl (r1,o_10.drop 64)))) <|
 .ret (.inr (.inr ((.inl ()))))
def qdd (N n:Nat) (f:Qf):qc5→Option vE
 | .inl w=>qeV N n f w
 | .inr w=>some w
def qux (f:Qf):qc5→Ex×TSt
 | .inl w=>(.normal,qeE f w)
 | .inr w=>Qg f w
def qj1 (N n:Nat) (f:Qf) (v:X5):Option vE:=q6 (KU N f.1 f.2.1 f.2.2.1 f.2.2.2) (qdd N n f) n v
theorem qud (N:Nat) (f:Qf) (n:Nat) (v:X5) (y:vE) (h:qj1 N n f v=some y):LG Tryz.prog Js 78 (q8 Vw 10) (quc f v) (Qg f y):=
 zQ qj (E:=qav N) (L:=qQ (qjU N)) (st:=qux f) (g:=(qdd N n f)) (R:=Qg f) (Wn N) (qu (by kernel_rfl) trivial) (rg0 (by kernel_rfl)) (fun v=>by kernel_rfl) (fun w y h=>by
 rcases w with w | w
 ·exact qoQ N f n w y h
 ·exact zg (st:=Qg f) (fun y=>by rcases y with _ | _<;>rfl) w y h
) n v y h
def Ku (N:Nat) (o_10:List UInt8) (o_10_2:Vector UInt8 32) (o_10_3:Vector UInt32 8) (o_10_4:Vector UInt32 64):Option vE:=qj1 N N (o_10,o_10_2,o_10_3,o_10_4) ()
def qjH (N:Nat):qG:=smL qjT [.bl,(.ba 32),(.wa 8),(.wa 64)] vE (fun x=>Ku N x.1 x.2.1 x.2.2.1 x.2.2.2.1) (csS cs1) fun x=>Qg (x.1,x.2.1,x.2.2.1,x.2.2.2.1)
theorem qsF (N:Nat):vJ Tryz.prog Js 78 (q8 Vw 10) (qjH N):=jk fun x z h=>qud N (x.1,x.2.1,x.2.2.1,x.2.2.2.1) N () z h
abbrev KZ:=Vector UInt8 32×Vector UInt32 8
abbrev J0:=Vector UInt8 32×Int×Bool
def X8 (f:KZ) (y:J0):Ex×TSt:=(.exit 6,⟨0,63,[],[(2,.p 20 [] 0),(5,.p 50 [] 0),(7,.p 70 [] 0),(46,xi y.2.1),(47,xb y.2.2)],[(20,.cell false (.tv (.ba 32) f.1)),(50,.cell false (.tv (.wa 8) f.2)),(70,.cell false (.tv (.ba 32) (y.1:Vector UInt8 32)))],false,[]⟩)
def qtP (N:Nat):List (Nat×qG):=[]
abbrev X_:=Vector UInt8 32×Int
def qjL:SP:=⟨0,63,[],[(2,.k (.p 20 [] 0)),(5,.k (.p 50 [] 0)),(7,.k (.p 70 [] 0)),(46,.x (.i .i64))],[(20,.cell false (.x (.ba 32))),(50,.cell false (.x (.wa 8))),(70,.cell false (.x (.ba 32)))],false,[]⟩
def qut (f:KZ) (v:X_):TSt:=jh qjL [dv (.ba 32) f.1,dv (.wa 8) f.2,dv (.ba 32) v.1,dv (.i .i64) v.2]
def K4 (N:Nat) (o_15:Vector UInt8 32) (o_15_2:Vector UInt32 8) (v:X_):Tree (X_⊕J0):=
 .cond (decide (v.2 < ((32:Int)))) (
 .chk ((4:Int)≠0) <|
 .chk (qz (v.2.tdiv 4)) <|
 .chk (0≤(v.2.tdiv 4)∧(v.2.tdiv 4) < ((8:Nat):Int)) <|
 .chk ((v.2.tdiv 4).toNat < 8) <|
 .chk ((4:Int)≠0) <|
 .chk (qz (((8:Int)) * (v.2.tmod 4))) <|
 .chk (qz (((24:Int)) - (((8:Int)) * (v.2.tmod 4)))) <|
 .chk (0≤(((24:Int)) - (((8:Int)) * (v.2.tmod 4)))) <|
 let w1:Int:=ZF (((o_15_2.toList.getD ((v.2.tdiv 4).toNat) 0).toNat:Nat):Int) (min (((24:Int)) - (((8:Int)) * (v.2.tmod 4))).toNat 32)
 .chk (0≤v.2∧v.2 < ((32:Nat):Int)) <|
 .chk (inB (IntKind.u8.wrap w1)) <|
 .chk (v.2.toNat < 32) <|
 .chk (qz (v.2 + 1)) <|
 .ret (.inl (v.1.setIfInBounds v.2.toNat (UInt8.ofNat (IntKind.u8.wrap w1).toNat),v.2 + 1))) <|
 .ret (.inr (v.1,v.2,decide (v.2 < ((32:Int)))))
def qjF (N n:Nat) (f:KZ) (v:X_):Option J0:=q6 (K4 N f.1 f.2) some n v
theorem qtT (N:Nat) (f:KZ) (n:Nat) (v:X_) (y:J0) (h:qjF N n f v=some y):LG Tryz.prog Js 78 (q8 Vw 15) (qut f v) (X8 f y):=
 zQ qj (E:=qav N) (L:=qQ (qtP N)) (st:=X8 f) (g:=some) (R:=X8 f) (Wn N) (qu (by kernel_rfl) trivial) (rg0 (by kernel_rfl)) (fun v=>by kernel_rfl) (zg (st:=X8 f) fun y=>by rfl) n v y h
def qce (N:Nat) (o_15:Vector UInt8 32) (o_15_2:Vector UInt32 8) (o_15_3:Vector UInt8 32) (s46_15:Int):Option J0:=qjF N N (o_15,o_15_2) (o_15_3,s46_15)
def qjN (N:Nat):qG:=smL qjL [(.ba 32),(.wa 8),(.ba 32),(.i .i64)] J0 (fun x=>qce N x.1 x.2.1 x.2.2.1 x.2.2.2.1) cs1 fun x=>X8 (x.1,x.2.1)
theorem qsJ (N:Nat):vJ Tryz.prog Js 78 (q8 Vw 15) (qjN N):=jk fun x z h=>qtT N (x.1,x.2.1) N (x.2.2.1,x.2.2.2.1) z h
def qmn (z:Vector UInt8 32):TV×THp:=(.tv (.ba 32) z,[])
def qmd (N:Nat) (a0:List UInt8):Tree (Vector UInt8 32):=
 .bind (Xg a0) fun r1=>
 .chk (Vt (((([]:List UInt8))++a0).length) (((([]:List UInt8))++a0).length) ((((([]:List UInt8))++a0)++[(UInt8.ofNat 128)]).length) 1) <|
 .bind (jV [((((([]:List UInt8))++a0)++[(UInt8.ofNat 128)]).length,(((([]:List UInt8))++a0)++[(UInt8.ofNat 128)]).length)] (qdM N ((Vector.replicate 32 0)) a0 (((([]:List UInt8))++a0)++[(UInt8.ofNat 128)]))) fun z2=>
 .bind (jV [(z2.1.length,z2.1.length)] (qiS N ((Vector.replicate 32 0)) a0 z2.1 0)) fun z3=>
 .bind (qkG) fun r4=>
 .bind (qma) fun r5=>
 .bind (jV [(z3.1.length,z3.1.length)] (Ku N z3.1 ((Vector.replicate 32 0)) ((((((((((Vector.replicate 8 0)).setIfInBounds 0 ((UInt32.ofNat 1779033703))).setIfInBounds 1 ((UInt32.ofNat 3144134277))).setIfInBounds 2 ((UInt32.ofNat 1013904242))).setIfInBounds 3 ((UInt32.ofNat 2773480762))).setIfInBounds 4 ((UInt32.ofNat 1359893119))).setIfInBounds 5 ((UInt32.ofNat 2600822924))).setIfInBounds 6 ((UInt32.ofNat 528734635))).setIfInBounds 7 ((UInt32.ofNat 1541459225))) ((((((((((((((((((((((((((((((((((((((((((((((((((((((((((((((((((Vector.replicate 64 0)).setIfInBounds 0 ((UInt32.ofNat 1116352408))).setIfInBounds 1 ((UInt32.ofNat 1899447441))).setIfInBounds 2 ((UInt32.ofNat 3049323471))).setIfInBounds 3 ((UInt32.ofNat 3921009573))).setIfInBounds 4 ((UInt32.ofNat 961987163))).setIfInBounds 5 ((UInt32.ofNat 1508970993))).setIfInBounds 6 ((UInt32.ofNat 2453635748))).setIfInBounds 7 ((UInt32.ofNat 2870763221))).setIfInBounds 8 ((UInt32.ofNat 3624381080))).setIfInBounds 9 ((UInt32.ofNat 310598401))).setIfInBounds 10 ((UInt32.ofNat 607225278))).setIfInBounds 11 ((UInt32.ofNat 1426881987))).setIfInBounds 12 ((UInt32.ofNat 1925078388))).setIfInBounds 13 ((UInt32.ofNat 2162078206))).setIfInBounds 14 ((UInt32.ofNat 2614888103))).setIfInBounds 15 ((UInt32.ofNat 3248222580))).setIfInBounds 16 ((UInt32.ofNat 3835390401))).setIfInBounds 17 ((UInt32.ofNat 4022224774))).setIfInBounds 18 ((UInt32.ofNat 264347078))).setIfInBounds 19 ((UInt32.ofNat 604807628))).setIfInBounds 20 ((UInt32.ofNat 770255983))).setIfInBounds 21 ((UInt32.ofNat 1249150122))).setIfInBounds 22 ((UInt32.ofNat 1555081692))).setIfInBounds 23 ((UInt32.ofNat 1996064986))).setIfInBounds 24 ((UInt32.ofNat 2554220882))).setIfInBounds 25 ((UInt32.ofNat 2821834349))).setIfInBounds 26 ((UInt32.ofNat 2952996808))).setIfInBounds 27 ((UInt32.ofNat 3210313671))).setIfInBounds 28 ((UInt32.ofNat 3336571891))).setIfInBounds 29 ((UInt32.ofNat 3584528711))).setIfInBounds 30 ((UInt32.ofNat 113926993))).setIfInBounds 31 ((UInt32.ofNat 338241895))).setIfInBounds 32 ((UInt32.ofNat 666307205))).setIfInBounds 33 ((UInt32.ofNat 773529912))).setIfInBounds 34 ((UInt32.ofNat 1294757372))).setIfInBounds 35 ((UInt32.ofNat 1396182291))).setIfInBounds 36 ((UInt32.ofNat 1695183700))).setIfInBounds 37 ((UInt32.ofNat 1986661051))).setIfInBounds 38 ((UInt32.ofNat 2177026350))).setIfInBounds 39 ((UInt32.ofNat 2456956037))).setIfInBounds 40 ((UInt32.ofNat 2730485921))).setIfInBounds 41 ((UInt32.ofNat 2820302411))).setIfInBounds 42 ((UInt32.ofNat 3259730800))).setIfInBounds 43 ((UInt32.ofNat 3345764771))).setIfInBounds 44 ((UInt32.ofNat 3516065817))).setIfInBounds 45 ((UInt32.ofNat 3600352804))).setIfInBounds 46 ((UInt32.ofNat 4094571909))).setIfInBounds 47 ((UInt32.ofNat 275423344))).setIfInBounds 48 ((UInt32.ofNat 430227734))).setIfInBounds 49 ((UInt32.ofNat 506948616))).setIfInBounds 50 ((UInt32.ofNat 659060556))).setIfInBounds 51 ((UInt32.ofNat 883997877))).setIfInBounds 52 ((UInt32.ofNat 958139571))).setIfInBounds 53 ((UInt32.ofNat 1322822218))).setIfInBounds 54 ((UInt32.ofNat 1537002063))).setIfInBounds 55 ((UInt32.ofNat 1747873779))).setIfInBounds 56 ((UInt32.ofNat 1955562222))).setIfInBounds 57 ((UInt32.ofNat 2024104815))).setIfInBounds 58 ((UInt32.ofNat 2227730452))).setIfInBounds 59 ((UInt32.ofNat 2361852424))).setIfInBounds 60 ((UInt32.ofNat 2428436474))).setIfInBounds 61 ((UInt32.ofNat 2756734187))).setIfInBounds 62 ((UInt32.ofNat 3204031479))).setIfInBounds 63 ((UInt32.ofNat 3329325298))))) fun z6=>
 .sum z6 (fun z7=>
 .bind (qce N ((Vector.replicate 32 0)) ((((((((((Vector.replicate 8 0)).setIfInBounds 0 ((UInt32.ofNat 1779033703))).setIfInBounds 1 ((UInt32.ofNat 3144134277))).setIfInBounds 2 ((UInt32.ofNat 1013904242))).setIfInBounds 3 ((UInt32.ofNat 2773480762))).setIfInBounds 4 ((UInt32.ofNat 1359893119))).setIfInBounds 5 ((UInt32.ofNat 2600822924))).setIfInBounds 6 ((UInt32.ofNat 528734635))).setIfInBounds 7 ((UInt32.ofNat 1541459225))) ((Vector.replicate 32 0)) 0) fun z8=>
 .ret z8.1) fun z7=>
 .bind (qce N ((Vector.replicate 32 0)) z7.1 ((Vector.replicate 32 0)) 0) fun z8=>
 .ret z8.1
def qd2 (N:Nat) (a0:List UInt8):Option (Vector UInt8 32):=(qmd N a0).run some
def qC1 (N:Nat):List (Nat×qG):=[(2,qlw N),(5,qkP N),(10,qjH N),(15,qjN N)]
def qtJ (N:Nat):Ent:=smF ⟨78,[],[.x .bl],[],[]⟩ [.bl] (Vector UInt8 32) (fun x=>qd2 N x.1) cs1 fun _=>qmn
theorem qyG (N:Nat):qdE Tryz.prog ⟨78,[],[.x .bl],[],[]⟩ [.bl] (fun x=>qmd N x.1) (fun _=>qmn):=
 qa5 (H:=Js) (L:=qQ (qC1 N)) 0 qGM (Wn N) (qu (by kernel_rfl) ⟨qtO N,qtZ N,qsF N,qsJ N,trivial⟩) (rg0 (by kernel_rfl)) fun x=>by kernel_rfl
theorem qpX (N:Nat):q9 Tryz.prog (qtJ N):=qhS (qyG N)
end Go.Rx
end
set_option maxRecDepth 100000
noncomputable section
namespace Go.Rx
open Go.Proofs
def dg0:Vector UInt8 32:=#v[227,176,196,66,152,252,28,20,154,251,244,200,153,111,185,36,39,174,65,228,100,155,147,76,164,149,153,27,120,82,184,85]
theorem qJM:qd2 300 []=some dg0:=by kernel_rfl
def qIV:List (List UInt8×Vector UInt8 32):=[([],dg0)]
theorem qIo:qBa (qd2 300) qIV:=⟨qJM,trivial⟩
def qvx:Ent:=smF ⟨78,[],[.x .bl],[],[]⟩ [.bl] (Vector UInt8 32) (fun x=>qwd qIV x.1) cs1 fun _=>qmn
theorem qIR:q9 Tryz.prog qvx:=qJb (qpX 300) fun x z h=>qzK qIo x.1 z h
end Go.Rx
end
set_option maxRecDepth 100000
noncomputable section
namespace Go.Rx
open Go.Proofs
def qH0:List (Nat×TH):=[(11,{ live:=[(1,[1]),(2,[1,2,3]),(3,[1,2,3,4,5,6]),(4,[1,2,3,4,5,6,7,8]),(5,[1,2,3,4,5,6,7,8,9]),(6,[1,2,3,4,5,6,7,8,9,10,11]),(7,[0])],dec:=[44,49,52,56,61,65,71,75,81,85],rd:=[(1,[1]),(3,[4]),(4,[7]),(5,[9]),(6,[10])] }),
 (13,{ live:=[(0,[1]),(1,[1,12]),(2,[2,3]),(3,[1,4]),(4,[1,6]),(5,[1,6,7]),(6,[1,6,7,32]),(7,[1,6,7,32,33]),(8,[6]),(9,[1,6,7,32,43]),(10,[6]),(11,[1,6,7,58]),(12,[1,6,7,8]),(13,[6]),(14,[2,3])],rd:=[(0,[1])] }),
 (15,{ live:=[(0,[0,2]),(1,[0,2,5]),(2,[0,2,5,6]),(3,[0,2,5,6,7,8,9]),(4,[0,2,5,6,7]),(5,[0,2,5,6]),(6,[0,2,5,6,41]),(7,[0,2,5,6]),(8,[0,2,5,6,46]),(9,[0,2,5,6,46,47]),(10,[0,2,5,6,10,11,12]),(11,[0,2,5,6,10]),(12,[0,2,5,6]),(13,[0,2,5,6,46,64]),(14,[0,2,5,6]),(15,[0,2,5,6,75]),(16,[0,2,5,6,13,14,15]),(17,[0,2,5,6,13]),(18,[0,2,5,6]),(19,[0,2,5,6,103]),(20,[2,3,4]),(21,[2,3,4])],dec:=[99],rd:=[(3,[7])] }),
 (19,{ live:=[(0,[1]),(1,[1,23]),(2,[2]),(3,[2])],dec:=[6,11,18,27,32,37,43] }),
 (20,{ live:=[(0,[2,3]),(1,[2,3,5]),(2,[4])],dec:=[11,18,25,33,40,47,54,61] }),
 (21,{ live:=[(0,[1]),(1,[3]),(2,[2])] }),
 (24,{ live:=[(0,[2,3,4]),(1,[2,3,4,17]),(2,[4,5]),(3,[2,3,4,6]),(4,[2,3,4,7]),(5,[2,3,4,7,25]),(6,[4,5]),(7,[2,3,4,8,9]),(8,[2,3,4,8,9,44]),(9,[4,5]),(10,[4,5])],dec:=[13,21],rd:=[(3,[6])] }),
 (27,{ live:=[(0,[2,3,4]),(1,[2,4,6]),(2,[2,4,6,12]),(3,[4,5]),(4,[4,5])] }),
 (28,{ live:=[(0,[2,3,4]),(1,[2,4,6]),(2,[2,4,6,12]),(3,[4,5]),(4,[4,5])] }),
 (29,{ live:=[(0,[0,2]),(1,[2])] }),
 (30,{ live:=[(0,[1]),(1,[1,6,7,8]),(2,[1,6,7,8,9]),(3,[1,3,4,6,7,8]),(4,[1,6,7,8,32]),(5,[2]),(6,[1,6,7,8]),(7,[2])],dec:=[16,19],rd:=[(3,[4])] }),
 (33,{ live:=[(0,[1]),(1,[1,6]),(2,[2,3]),(3,[2,3])],fresh:=[15],esc:=true }),
 (34,{ live:=[(0,[0]),(1,[0,3]),(2,[0,3,9,10,11]),(3,[0,3,9,10,11,12]),(4,[0,3,5,9,10,11]),(5,[0,3,9,10,11]),(6,[0,3,9,10,11,20]),(7,[0,3,9,10,11]),(8,[0,3,9,10,11]),(9,[0,6]),(10,[6,25,26,27]),(11,[6,25,26,27,28]),(12,[6,8,25,26,27]),(13,[6,25,26,27]),(14,[6,25,26,27]),(15,[2])],raw:=[85],fresh:=[24] }),
 (35,{ live:=[(0,[0]),(1,[2])],fresh:=[6],esc:=true }),
 (36,{ live:=[(0,[0]),(1,[0,9]),(2,[2,3]),(3,[0,4]),(4,[4,14,15,16]),(5,[4,14,15,16,17]),(6,[4,6,14,15,16]),(7,[4,6,14,15,16,21]),(8,[4,14,15,16]),(9,[4,14,15,16]),(10,[4,14,15,16]),(11,[2,3])],rd:=[(6,[6])] }),
 (42,{ live:=[(0,[0]),(1,[2])] }),
 (43,{ live:=[(0,[0,2]),(1,[2])] }),
 (44,{ live:=[(0,[0,2]),(1,[2,5,6,7]),(2,[2,6,7,8]),(3,[2,6,8,28]),(4,[2,3,4]),(5,[2,3,4])],dec:=[24],rd:=[(2,[8])] }),
 (45,{ live:=[(0,[0,1,2]),(1,[0,1]),(2,[0,1,31]),(3,[6]),(4,[0,1,7]),(5,[7]),(6,[6])],dec:=[13,17] }),
 (46,{ live:=[(0,[0,1]),(1,[0,1,7,8,9]),(2,[1,7,8,9,10]),(3,[7,8,10,33]),(4,[4,5,6]),(5,[4,5,6])],dec:=[21,25] }),
 (47,{ live:=[(0,[0,2]),(1,[2])] }),
 (48,{ live:=[(0,[0]),(1,[0,5,6,7]),(2,[0,5,6,23]),(3,[2,3,4]),(4,[0,5,6,8]),(5,[0,6,8,24,25]),(6,[0,6,8,24,25,26]),(7,[0,6,8,9,10,11,24,25]),(8,[0,6,8,9,10,24,25,36]),(9,[2,3,4]),(10,[0,6,8,10,24,25]),(11,[0,6,8,24,25]),(12,[0,6,8,24,25]),(13,[6,8,47]),(14,[2,3,4]),(15,[2,3,4])],dec:=[20],rd:=[(7,[9])] }),
 (59,{ live:=[(0,[1,2]),(1,[1,2,3]),(2,[1,2,3,12]),(3,[1,2,3,12,13]),(4,[2,3]),(5,[1,2,3,12,21]),(6,[2,3]),(7,[1,2,3,35]),(8,[2,3]),(9,[2])] }),
 (60,{ live:=[(0,[1]),(1,[2])],dec:=[6,10,15,20] }),
 (61,{ live:=[(0,[0]),(1,[2])],dec:=[5] }),
 (62,{ live:=[(0,[0]),(1,[0,3]),(2,[0,3,6,7,8]),(3,[0,3,6,7,8,9]),(4,[0,3,5,6,7,8]),(5,[0,3,5,6,7,8,14]),(6,[2]),(7,[0,3,6,7,8]),(8,[0,3,6,7,8]),(9,[2])],dec:=[27],rd:=[(4,[5])] }),
 (63,{ live:=[(0,[0,1]),(1,[4])] }),
 (65,{ live:=[(0,[1]),(1,[2,3])] }),
 (66,{ live:=[(0,[1]),(1,[2,3])] }),
 (67,{ live:=[(0,[1]),(1,[1,4,5]),(2,[1,4,5,20]),(3,[2,3]),(4,[1,6,7]),(5,[1,6,31]),(6,[2,3]),(7,[2,3])] }),
 (68,{ live:=[(0,[2,3,4]),(1,[2,3,4,6]),(2,[2,3,4,6,39]),(3,[4,5]),(4,[2,4,47,48,49]),(5,[2,4,47,48,49,50]),(6,[2,4,8,47,48,49]),(7,[2,4,8,47,48,49,54]),(8,[2,4,9,10,47,48,49]),(9,[2,4,9,10,47,48,49,64]),(10,[4,5]),(11,[2,4,47,48,49]),(12,[2,4,47,48,49]),(13,[4,5])],dec:=[19,23,29,34],rd:=[(1,[6]),(6,[8]),(8,[9])] }),
 (73,{ live:=[(0,[0,1]),(1,[0,1,7,8]),(2,[0,1,7,8,9]),(3,[0,1,5,7,8]),(4,[0,1,5,7,8,16]),(5,[4]),(6,[0,1,7,8]),(7,[4])] }),
 (74,{ live:=[(0,[1,2]),(1,[3])] }),
 (75,{ live:=[(0,[1,2]),(1,[1,2]),(2,[2])] }),
 (76,{ live:=[(0,[0,1]),(1,[0,1,7,8]),(2,[0,1,7,8,9]),(3,[0,1,5,7,8]),(4,[0,1,5,7,8,16]),(5,[4]),(6,[0,1,7,8]),(7,[4])] }),
 (77,{ live:=[(0,[1,2]),(1,[3])] }),
 (78,{ live:=[(0,[0,2]),(1,[0,2,3]),(2,[0,2,3,16]),(3,[0,2,3]),(4,[0,2,3,20]),(5,[0,2,3,20,21]),(6,[0,2,3,4,20]),(7,[0,2,3,20]),(8,[0,2,3,20]),(9,[2,3,5,6]),(10,[2,3,5,6,40]),(11,[2,3,5,6]),(12,[2,3,5,6]),(13,[2,5,7]),(14,[2,5,7,46]),(15,[2,5,7,46,47]),(16,[2,5,7,8,46]),(17,[2,5,7,46]),(18,[2,5,7,46]),(19,[2])],fresh:=[10] }),
 (79,{ live:=[(0,[1]),(1,[1,21]),(2,[2]),(3,[1,23,24,25]),(4,[1,23,24,25,26]),(5,[1,3,4,23,24,25]),(6,[1,4,5,23,24,25]),(7,[1,23,24,25,74]),(8,[2]),(9,[1,23,24,25]),(10,[2])],dec:=[10,15,32,37,40,55,60,66],rd:=[(5,[4])] }),
 (80,{ live:=[(0,[2,3]),(1,[4])],dec:=[8] }),
 (83,{ live:=[(0,[2,3,4]),(1,[2,3,4,22]),(2,[4,5]),(3,[2,3,4,6]),(4,[2,3,4,6,7]),(5,[4,6,7,30,31,32]),(6,[4,6,7,30,31,32,33]),(7,[4,6,7,9,30,31,32]),(8,[4,6,7,9,10,11,30,31,32]),(9,[4,6,7,9,10,30,31,32,44]),(10,[4,6,7,9,30,31,32]),(11,[4,6,7,30,31,32]),(12,[4,6,7,30,31,32]),(13,[4,6,7,30,31,32]),(14,[4,6,7,67]),(15,[4,5]),(16,[4,6,7]),(17,[4,6,7,12]),(18,[4,6,12,71,72,73]),(19,[4,6,12,71,72,73,74]),(20,[4,6,12,14,71,72,73]),(21,[4,6,12,71,72,73]),(22,[4,6,12,71,72,73]),(23,[4,5])],dec:=[18],rd:=[(7,[9]),(8,[10]),(20,[14])] }),
 (84,{ live:=[(0,[0]),(1,[0,3]),(2,[0,3,4]),(3,[0,3,4,10,11]),(4,[0,3,4,10,11,12]),(5,[0,3,4,5,10,11]),(6,[0,3,4,10,11]),(7,[0,3,4,10,11]),(8,[4]),(9,[2])],esc:=true }),
 (85,{ live:=[(0,[0,1]),(1,[0,1,6]),(2,[0,1]),(3,[0,1]),(4,[0,1,16]),(5,[0]),(6,[4])],esc:=true,nil:=[(5,[⟨.sl 0,900000850,.bl⟩])] }),
 (87,{ live:=[(0,[0]),(1,[0,5]),(2,[0,5,6]),(3,[5,6,9,10,11]),(4,[5,6,9,10,11,12]),(5,[5,6,7,8,9,10,11]),(6,[5,6,7,8,9,10,11,16]),(7,[5,6,7,8,9,10,11,16]),(8,[5,6,7,8,9,10,11,16]),(9,[5,6,7,8,9,10,11]),(10,[5,6,7,9,10,11,39]),(11,[5,6]),(12,[5,6,9,10,11]),(13,[5,6,44]),(14,[2,3,4]),(15,[2,3,4])],dec:=[21,28] }),
 (88,{ live:=[(0,[0,2]),(1,[0,2,5]),(2,[0,2,5,15]),(3,[2,3,4]),(4,[0,2,5,26]),(5,[2,6,7,8]),(6,[2,3,4]),(7,[0,2,5,9,10,11]),(8,[2,5,9,10,11,12,13,14]),(9,[2,5,9,10,12,13,72]),(10,[2,3,4]),(11,[2,3,4])],dec:=[19,61,65,69] }),
 (90,{ live:=[(0,[1]),(1,[1,4]),(2,[2]),(3,[2])],dec:=[8,13,23] }),
 (91,{ live:=[(0,[0,1]),(1,[0,1,10]),(2,[4]),(3,[0,1,12,13]),(4,[0,1,12,13,14]),(5,[0,1,5,12,13]),(6,[0,1,12,13,24]),(7,[4]),(8,[0,1,12,13]),(9,[4])] }),
 (92,{ live:=[(0,[1,2,3]),(1,[1,2,17]),(2,[6,7]),(3,[6,7])],dec:=[10] }),
 (93,{ live:=[(0,[2,3,4]),(1,[2,8]),(2,[10,11]),(3,[10,26]),(4,[6,7]),(5,[6,7])],rd:=[(1,[8]),(2,[10])] }),
 (94,{ live:=[(0,[0,1]),(1,[0,1,11]),(2,[4,5]),(3,[0,1,6]),(4,[0,6,12,13,14]),(5,[0,6,12,13,14,15]),(6,[0,6,8,12,13,14]),(7,[0,6,8,12,13,14,29]),(8,[4,5]),(9,[0,6,8,12,13,14]),(10,[0,6,8,12,13,14,34]),(11,[0,6,12,13,14]),(12,[0,6,12,13,14]),(13,[4,5])],dec:=[20],rd:=[(6,[8])] }),
 (95,{ live:=[(0,[1]),(1,[2])],dec:=[7] }),
 (103,{ live:=[(0,[0]),(1,[0,4]),(2,[2]),(3,[2])],vecs:=[5],esc:=true }),
 (104,{ live:=[(0,[0]),(1,[0,4]),(2,[2]),(3,[2])],vecs:=[5],esc:=true }),
 (105,{ live:=[(0,[0]),(1,[0])] }),
 (106,{ live:=[(0,[0]),(1,[0])] }),
 (107,{ live:=[(0,[0,2,6]),(1,[0,2,6,7]),(2,[0,2,6,7,19]),(3,[0,2,6,7,19,20]),(4,[0,2,6,7,8,19]),(5,[0,2,6,7,8,9,10,19]),(6,[0,2,6,7,9,11,19]),(7,[0,2,6,7,11,12,19]),(8,[0,2,6,7,11,12,19]),(9,[0,2,6,7,11,19]),(10,[0,2,6,7,19]),(11,[0,2,6,7,19]),(12,[0,7,95]),(13,[0,7,95,96]),(14,[0,7,13,95]),(15,[0,7,95]),(16,[0,7,95])],rd:=[(0,[6])] }),
 (108,{ live:=[(0,[1]),(1,[2])],dec:=[7,12] }),
 (109,{ live:=[(0,[2,3]),(1,[4])],dec:=[8] }),
 (110,{ live:=[(0,[0,1]),(1,[4])] }),
 (112,{ live:=[(0,[0]),(1,[0,3]),(2,[0,3,9,10,11]),(3,[0,3,9,10,11,12]),(4,[0,3,5,9,10,11]),(5,[0,3,9,10,11]),(6,[0,3,9,10,11,20]),(7,[0,3,9,10,11]),(8,[0,3,9,10,11]),(9,[0,6]),(10,[6,25,26,27]),(11,[6,25,26,27,28]),(12,[6,8,25,26,27]),(13,[6,25,26,27]),(14,[6,25,26,27]),(15,[2])],raw:=[129],fresh:=[24] }),
 (113,{ live:=[(0,[2,3,4]),(1,[2,3,4,23]),(2,[4,5]),(3,[2,3,4,6]),(4,[2,3,4,6]),(5,[2,3,4,6]),(6,[4,6,7]),(7,[4,7,43]),(8,[7,8]),(10,[4,5])],dec:=[12,17],fresh:=[43],rd:=[(8,[8])] }),
 (114,{ live:=[(0,[0,1,4])] }),
 (115,{ live:=[(0,[2,3]),(1,[4])] }),
 (116,{ live:=[(0,[0]),(1,[0,3]),(2,[0,3]),(3,[0,3,7]),(4,[0,3]),(5,[0,3]),(6,[2])] }),
 (117,{ live:=[(0,[0,1,2]),(1,[6])],dec:=[10] }),
 (118,{ live:=[(0,[0,1]),(1,[0,1]),(2,[1]),(3,[4,5])] }),
 (119,{ live:=[(0,[0]),(1,[2])] }),
 (124,{ live:=[(0,[0,2]),(1,[0,2,3]),(2,[0,2,3,7]),(3,[0,2,3,7,8]),(4,[0,2,3,4,7]),(5,[0,2,3,4,7,11]),(6,[0,2,3,7]),(7,[0,2,3,4,5,6,7]),(8,[0,2,3,7]),(9,[0,2,3,7]),(10,[2])] }),
 (125,{ live:=[(0,[0,1]),(1,[4])] }),
 (126,{ live:=[(0,[0]),(1,[0,3]),(2,[3,6,7,8]),(3,[3,6,7,8,9]),(4,[3,5,6,7,8]),(5,[3,5,6,7,8,14]),(6,[2]),(7,[3,6,7,8]),(8,[2])] }),
 (127,{ live:=[(0,[0,1]),(1,[0,1,5]),(2,[0,1,5,6]),(3,[0,1,6,11]),(4,[12]),(5,[4]),(6,[4]),(7,[0,1,13]),(8,[4]),(9,[0,1,16]),(10,[4]),(11,[19]),(12,[4]),(13,[4])] }),
 (129,{ live:=[(0,[0,1]),(1,[0,1,6]),(2,[0,1]),(3,[0,1]),(4,[0,1,16]),(5,[0]),(6,[4])],esc:=true,nil:=[(5,[⟨.sl 0,900001290,(.sl 19 (.ag [(.ba 16),(.ag [(.i .i64),(.i .i64)]),(.sl 4 (.ag [(.i .i64),(.ag [(.ag [(.i .i64),(.i .i64)]),.s])]))]))⟩])] }),
 (130,{ live:=[(0,[0,3]),(1,[0,9,10,11]),(2,[0,9,10,11,12]),(3,[0,5,9,10,11]),(4,[0,5,6,7,9,10,11]),(5,[0,5,6,9,10,11,22]),(6,[0,9,10,11]),(7,[0,9,10,11]),(8,[0,9,10,11])],rd:=[(3,[5]),(4,[6])] }),
 (131,{ live:=[(0,[2,3,4]),(1,[2,3,4,7]),(2,[4]),(3,[4])] }),
 (132,{ live:=[(0,[2,3]),(1,[4])],esc:=true }),
 (133,{ live:=[(0,[0,1,2,3,4,10]),(1,[0,1,2,3,4,10,11]),(2,[0,1,2,3,4,10,11,12]),(3,[0,1,2,3,4,10,11,12,25]),(5,[0,1,2,3,4,10,11,12,32]),(7,[0,1,2,3,4,10,11,12,39]),(8,[0,1,2,3,4,10,11,12]),(9,[0,1,2,3,4,10,11,12]),(10,[0,1,2,3,4,10,11,12,13,14]),(11,[0,1,2,3,4,10,11,12,13,14,56]),(12,[0,1,2,3,4,10,11,12,13]),(13,[0,1,2,3,4,10,11,12,13]),(14,[0,1,2,3,4,10,11,12,13,14]),(15,[0,1,2,3,4,10,11,12,13,75]),(16,[0,1,2,3,4,10,11,12,13,80]),(17,[0,1,2,3,4,10,11,12,13,97]),(18,[0,2,3,4,10,11,15]),(19,[0,1,2,3,4,10,11]),(20,[0,1,2,3,4,12,16,17]),(21,[0,1,2,3,4,11,12,16]),(22,[0,1,2,3,4,11,12,16,18,19]),(23,[0,1,2,3,4,11,16,18,19,20]),(24,[0,1,2,3,4,11,16,18,19,20,125]),(25,[0,1,2,3,4,10,11,16]),(26,[0,2,3,4,10,11,16]),(27,[0,1,2,3,4,10,11]),(28,[0,1,2,3,4,10,11,16]),(29,[0,1,3,4,10,11,16]),(30,[0,1,2,3,4,10,11])],dec:=[69,72,83] }),
 (134,{ live:=[(0,[0]),(1,[2]),(2,[2])] }),
 (135,{ live:=[(0,[0,6]),(2,[19])] }),
 (142,{ live:=[(0,[0,1]),(1,[0,5]),(2,[4])] }),
 (143,{ live:=[(0,[0]),(1,[2])] }),
 (144,{ live:=[(0,[2,3,4]),(1,[2,3,4,7]),(2,[4]),(3,[4])] }),
 (145,{ live:=[(0,[0,1,2,7]),(1,[0,1,2,7,8]),(2,[0,1,2,4,7]),(3,[0,1,2,4,5,6,7]),(4,[0,1,2,7,30]),(5,[0,1,2,7])],dec:=[17,23],rd:=[(3,[5])] }),
 (146,{ live:=[(0,[0,1,2,3,8]),(1,[0,1,2,3,8,14]),(2,[0,1,2,3,8]),(3,[0,1,2,3,8,9]),(4,[0,1,2,3,8,9,34]),(5,[0,1,2,3,8,9]),(6,[0,1,2,3,8,9])],dec:=[21] }),
 (147,{ live:=[(0,[0,1,2,3,8]),(1,[0,1,2,3,8,9]),(2,[0,3,8,9,10]),(3,[0,3,8,9,10,11]),(4,[0,3,8,9,10,11,21]),(5,[0,3,8,9,10,11]),(6,[0,3,8,9,10,11]),(7,[0,3,8,9,12]),(8,[0,3,8,9,12,33]),(9,[0,3,8,9,12]),(10,[0,3,8,9,12]),(11,[0,3,8,9,12])] }),
 (148,{ live:=[(0,[0,1,8]),(1,[0,1,8,17]),(2,[0,1,8,9]),(3,[0,1,8,9,10]),(4,[0,1,8,9,10,11]),(5,[0,1,8,9,10,11,35]),(6,[0,1,8,9,10,11]),(7,[0,1,8,9,10,11,12]),(8,[0,1,8,9,10,11,12,45]),(9,[0,1,8,9,10,11,12]),(10,[0,1,8,9,10,11])] }),
 (149,{ live:=[(0,[0,1,2,3]),(1,[0,1,3,10]),(2,[0,1,3,10,11]),(3,[0,1,3,10,11,12]),(4,[0,1,3,10,11,12,13]),(5,[0,3,10,11,12,13,14]),(6,[0,3,10,11,12,13,14,34]),(7,[0,3,11,12,13,14,36]),(8,[0,3,11,12,13,14]),(9,[0,3,11,12,13,14]),(10,[0,3,11,12,13,14]),(11,[11,13]),(12,[13,55]),(13,[8,9]),(14,[13,55,57]),(15,[8,9]),(16,[13,60]),(17,[8,9])] }),
 (150,{ live:=[(0,[0,2,8]),(1,[0,8,9]),(2,[0,8,9,15]),(3,[0,8,9]),(4,[0,8,9]),(5,[0,8,9])] }),
 (151,{ live:=[(0,[0,1,2,3]),(1,[0,1,2,3,9]),(2,[0,1,2,3,9,10]),(3,[0,1,2,3,9,10,16]),(4,[0,1,2,3,9,10]),(5,[0,1,2,3,9,10,36]),(6,[0,1,2,3,9,10]),(7,[0,1,2,3,9,10,41]),(8,[8]),(9,[0,1,2,3,9,10,45]),(10,[8]),(11,[0,1,2,3,9,10]),(12,[0,1,2,3,9,10,65]),(13,[0,1,2,3,9,10,11]),(14,[0,1,2,3,9,10,11,69]),(15,[0,1,2,3,9,10,11]),(16,[0,1,2,3,9,10,11,84]),(17,[0,1,2,3,9,10,11]),(18,[0,1,2,3,9,10,104]),(19,[0,1,2,3,9,10,12]),(20,[0,1,2,3,9,10,12,109]),(21,[0,1,2,3,9,10,12]),(22,[0,1,2,3,9,10,12,124]),(23,[0,1,2,3,9,10,12]),(24,[8])],dec:=[22] }),
 (152,{ live:=[(0,[0,1,2,3,4]),(1,[0,1,2,4]),(2,[0,1,4,11,12]),(3,[0,1,4,11,12,47]),(4,[0,1,4,11,12]),(5,[0,1,4,11,12,65]),(6,[0,1,4,11,12]),(7,[0,1,4,11,12,70]),(8,[0,1,4,11,12]),(9,[0,1,4,11,12]),(10,[0,1,4,11,12]),(11,[10])],dec:=[34,53] }),
 (153,{ live:=[(0,[0,1,2,3,4]),(1,[0,1,2,4]),(2,[0,1,4,12,13]),(3,[0,1,4,12,13,47]),(4,[0,1,4,12,13]),(5,[0,1,4,12,13,66]),(6,[0,1,4,12,13]),(7,[0,1,4,12,13,71]),(8,[13]),(9,[10,11]),(10,[0,1,4,12,13]),(11,[0,1,4,12,13]),(12,[0,1,4,12,13]),(13,[0,1,4,12,13,120]),(14,[0,1,4,12,13]),(15,[0,1,4,12,13,139]),(16,[0,1,4,12,13]),(17,[0,1,4,12,13,144]),(18,[0,1,4,12,13]),(19,[0,1,4,12,13]),(20,[0,1,4,12,13]),(21,[13]),(22,[10,11])],dec:=[35,53,108,126] }),
 (154,{ live:=[(0,[0,2]),(1,[0,2,4]),(2,[0]),(3,[0,2]),(4,[0,2,8]),(5,[0,2]),(6,[0,2]),(7,[2])] }),
 (155,{ live:=[(0,[0,2]),(1,[0,2,4]),(2,[0]),(3,[0,2]),(4,[0,2,8]),(5,[0,2]),(6,[0,2]),(7,[0,2,14]),(8,[0,2]),(9,[0,2]),(10,[2])] }),
 (159,{ live:=[(0,[2,3]),(1,[5]),(2,[13,14]),(3,[13,14,15]),(4,[7,13,14]),(5,[8,13,14]),(6,[8,13,14,20]),(7,[4]),(8,[13,14]),(9,[4])],rd:=[(1,[5])] }),
 (160,{ live:=[(0,[0,2,3,4,10]),(1,[0,2,3,4,10,11]),(2,[0,2,3,4,10,11,18]),(3,[0,2,3,4,10,11,40]),(4,[0,2,3,4,10,11]),(5,[0,2,3,4,10,11,58]),(6,[0,2,3,4,11]),(7,[0,2,3,4,10])],dec:=[23] }),
 (161,{ live:=[(0,[0]),(1,[2])] }),
 (162,{ live:=[(0,[0]),(1,[0]),(2,[0]),(3,[0]),(4,[2])] }),
 (163,{ live:=[(0,[0,1,2,3]),(1,[8])] }),
 (164,{ live:=[(0,[0,1,2,3,4,5]),(1,[0,1,2,3,4,5]),(2,[0,1,2,4,5]),(3,[2]),(4,[12])] }),
 (166,{ live:=[(0,[0,1]),(1,[2])] }),
 (167,{ live:=[(0,[2,3,4]),(1,[2,3,4,7]),(2,[6]),(3,[12]),(4,[6]),(5,[6])] }),
 (168,{ live:=[(0,[0,1]),(1,[2])] }),
 (169,{ live:=[(0,[2,3,4]),(1,[2,3,4,7]),(2,[6]),(3,[12]),(4,[6]),(5,[6])] }),
 (170,{ live:=[(0,[2,3]),(1,[4])],dec:=[8] }),
 (171,{ live:=[(0,[0,1]),(1,[2])] }),
 (172,{ live:=[(0,[0,1]),(1,[0,1,5]),(2,[0,1,5,6]),(3,[0,1,6,11]),(4,[12]),(5,[4]),(6,[4]),(7,[0,1,13]),(8,[4]),(9,[0,1,16]),(10,[4]),(11,[19]),(12,[4]),(13,[4])] }),
 (173,{ live:=[(0,[0,1,2,3,4]),(1,[1,2,3,22]),(2,[1,2]),(3,[10,11]),(4,[10,11])] }),
 (175,{ live:=[(0,[0]),(1,[2])] })]
def qHO (k:FuncId):TH:=(get qH0 k).getD {}
theorem qHT:qkF Tryz.prog [113]:=⟨qHa (fn:=Tryz.f113) (c:=Tryz.f113.body.getD .skip) (by kernel_rfl) (by kernel_rfl) (by kernel_rfl),trivial⟩
def qvg:Option Bool:=some true
theorem qA1:qAA Tryz.prog qHO [113] [qvx,qrx] 400 30 11=some (.pv (.b true),[]):=by kernel_rfl
def qxs:Ent:=smF ⟨11,[],[],[],[]⟩ [] Bool (fun _=>qvg) cs1 fun _ z=>(xb z,[])
theorem qCM:q9 Tryz.prog qxs:=qH6 Tryz.prog (fun _=>rfl) qj (base:=[qvx,qrx]) ⟨qIR,qzI,trivial⟩ qHT qA1
end Go.Rx
end
set_option maxRecDepth 100000
noncomputable section
namespace Go.Rx
open Go.Proofs
def ql2:List UInt8:=[0,1,2,2,3,3,3,3,4,4,4,4,4,4,4,4,5,5,5,5,5,5,5,5,5,5,5,5,5,5,5,5,6,6,6,6,6,6,6,6,6,6,6,6,6,6,6,6,6,6,6,6,6,6,6,6,6,6,6,6,6,6,6,6,7,7,7,7,7,7,7,7,7,7,7,7,7,7,7,7,7,7,7,7,7,7,7,7,7,7,7,7,7,7,7,7,7,7,7,7,7,7,7,7,7,7,7,7,7,7,7,7,7,7,7,7,7,7,7,7,7,7,7,7,7,7,7,7,8,8,8,8,8,8,8,8,8,8,8,8,8,8,8,8,8,8,8,8,8,8,8,8,8,8,8,8,8,8,8,8,8,8,8,8,8,8,8,8,8,8,8,8,8,8,8,8,8,8,8,8,8,8,8,8,8,8,8,8,8,8,8,8,8,8,8,8,8,8,8,8,8,8,8,8,8,8,8,8,8,8,8,8,8,8,8,8,8,8,8,8,8,8,8,8,8,8,8,8,8,8,8,8,8,8,8,8,8,8,8,8,8,8,8,8,8,8,8,8,8,8,8,8,8,8,8,8]
noncomputable def qoM:Code:=Tryz.f64.body.getD .skip
theorem qHd:FnF Tryz.prog 64 Tryz.f64 qoM:=⟨qj,by kernel_rfl,by kernel_rfl,by kernel_rfl⟩
def W0:TH:={ live:=[(0,[1]),(1,[1,7]),(2,[2]),(3,[1,3]),(4,[1,3,12]),(5,[1,3]),(6,[1,3,23]),(7,[2]),(8,[2])] }
def qcY (N:Nat):List Ent:=[]
theorem qbi (N:Nat):qT Tryz.prog (qcY N):=trivial
abbrev ZO:=qa
abbrev vw:=Unit⊕(Int×Bool)
def Qo (f:ZO):vw→Ex×TSt
 | .inl y=>(.ret,⟨0,24,[],[(2,.bc false)],[],false,[]⟩)
 | .inr y=>(.exit 0,⟨0,24,[],[(1,.p 10 [] 0),(3,xi y.1),(12,xb y.2)],[(10,.cell false (.tv qg f))],false,[]⟩)
def qh2 (N:Nat):List (Nat×qG):=[]
abbrev Qv:=Int
def qan:SP:=⟨0,24,[],[(1,.k (.p 10 [] 0)),(3,.x (.i .i64))],[(10,.cell false (.x qg))],false,[]⟩
def qhj (f:ZO) (v:Qv):TSt:=jh qan [dv qg f,dv (.i .i64) v]
def Z0 (N:Nat) (o_4:qa) (v:Qv):Tree (Qv⊕vw):=
 .cond (decide (v < (((qa.F o_4).length:Nat):Int))) (
 .bind (zl (qa.F o_4) v) fun e1=>
 .cond (decide (((300:Int)) < (((qc.V (qb.C e1)).length:Nat):Int))) (
 .ret (.inr (.inl ()))) <|
 .chk (qz (v + 1)) <|
 .ret (.inl (v + 1))) <|
 .ret (.inr (.inr ((v,decide (v < (((qa.F o_4).length:Nat):Int))))))
def qaF (N n:Nat) (f:ZO) (v:Qv):Option vw:=q6 (Z0 N f) some n v
theorem qhF (N:Nat) (f:ZO) (n:Nat) (v:Qv) (y:vw) (h:qaF N n f v=some y):LG Tryz.prog W0 64 (q8 qoM 4) (qhj f v) (Qo f y):=
 zQ qj (E:=qcY N) (L:=qQ (qh2 N)) (st:=Qo f) (g:=some) (R:=Qo f) (qbi N) (qu (by kernel_rfl) trivial) (rg0 (by kernel_rfl)) (fun v=>by kernel_rfl) (zg (st:=Qo f) fun y=>by rcases y with _ | _<;>rfl) n v y h
def WA (N:Nat) (o_4:qa) (s3_4:Int):Option vw:=qaF N N o_4 s3_4
def qaB (N:Nat):qG:=smL qan [qg,(.i .i64)] vw (fun x=>WA N x.1 x.2.1) (csS cs1) fun x=>Qo x.1
theorem qgt (N:Nat):vJ Tryz.prog W0 64 (q8 qoM 4) (qaB N):=jk fun x z h=>qhF N x.1 N x.2.1 z h
def qlp (z:Bool):TV×THp:=(xb z,[])
def Ye (N:Nat) (a0:qa):Tree (Bool):=
 .cond (decide (((12:Int)) < (((qa.F a0).length:Nat):Int))) (
 .ret false) <|
 .bind (WA N a0 0) fun z1=>
 .sum z1 (fun z2=>
 .ret false) fun z2=>
 .ret true
def Ql (N:Nat) (a0:qa):Option (Bool):=(Ye N a0).run some
def qlt (N:Nat):List (Nat×qG):=[(4,qaB N)]
def qcF (N:Nat):Ent:=smF ⟨64,[],[.x qg],[],[]⟩ [qg] (Bool) (fun x=>Ql N x.1) cs1 fun _=>qlp
theorem qkq (N:Nat):q9 Tryz.prog (qcF N):=
 q0 (H:=W0) (L:=qQ (qlt N)) (ts:=[qg]) (T:=fun x=>Ye N x.1) 0 qHd (qbi N) (qu (by kernel_rfl) ⟨qgt N,trivial⟩) (rg0 (by kernel_rfl)) fun x=>by kernel_rfl
noncomputable def qor:Code:=Tryz.f23.body.getD .skip
theorem qE1:FnF Tryz.prog 23 Tryz.f23 qor:=⟨qj,by kernel_rfl,by kernel_rfl,by kernel_rfl⟩
def WV:TH:={ live:=[(0,[1]),(1,[1,8]),(2,[2]),(3,[1,3]),(4,[1,3,13]),(5,[1,3]),(6,[1,3,4]),(7,[1,3,23]),(8,[2]),(9,[2])] }
def qcQ (N:Nat):List Ent:=[qcF N]
theorem qa7 (N:Nat):qT Tryz.prog (qcQ N):=⟨qkq N,trivial⟩
abbrev ZX:=qd
abbrev vz:=Unit⊕(Int×Bool)
def Qp (f:ZX):vz→Ex×TSt
 | .inl y=>(.ret,⟨0,24,[],[(2,.bc false)],[],false,[]⟩)
 | .inr y=>(.exit 0,⟨0,24,[],[(1,.p 10 [] 0),(3,xi y.1),(13,xb y.2)],[(10,.cell false (.tv qR f))],false,[]⟩)
def qht (N:Nat):List (Nat×qG):=[]
abbrev Qq:=Int
def qaA:SP:=⟨0,24,[],[(1,.k (.p 10 [] 0)),(3,.x (.i .i64))],[(10,.cell false (.x qR))],false,[]⟩
def qhD (f:ZX) (v:Qq):TSt:=jh qaA [dv qR f,dv (.i .i64) v]
def ZL (N:Nat) (o_4:qd) (v:Qq):Tree (Qq⊕vz):=
 .cond (decide (v < (((qd.R o_4).length:Nat):Int))) (
 .bind (zl (qd.R o_4) v) fun e1=>
 .bind (Ql N e1) fun r2=>
 .cond (!r2) (
 .ret (.inr (.inl ()))) <|
 .chk (qz (v + 1)) <|
 .ret (.inl (v + 1))) <|
 .ret (.inr (.inr ((v,decide (v < (((qd.R o_4).length:Nat):Int))))))
def qax (N n:Nat) (f:ZX) (v:Qq):Option vz:=q6 (ZL N f) some n v
theorem qh7 (N:Nat) (f:ZX) (n:Nat) (v:Qq) (y:vz) (h:qax N n f v=some y):LG Tryz.prog WV 23 (q8 qor 4) (qhD f v) (Qp f y):=
 zQ qj (E:=qcQ N) (L:=qQ (qht N)) (st:=Qp f) (g:=some) (R:=Qp f) (qa7 N) (qu (by kernel_rfl) trivial) (rg0 (by kernel_rfl)) (fun v=>by kernel_rfl) (zg (st:=Qp f) fun y=>by rcases y with _ | _<;>rfl) n v y h
def WD (N:Nat) (o_4:qd) (s3_4:Int):Option vz:=qax N N o_4 s3_4
def qau (N:Nat):qG:=smL qaA [qR,(.i .i64)] vz (fun x=>WD N x.1 x.2.1) (csS cs1) fun x=>Qp x.1
theorem qgx (N:Nat):vJ Tryz.prog WV 23 (q8 qor 4) (qau N):=jk fun x z h=>qh7 N x.1 N x.2.1 z h
def ql_ (z:Bool):TV×THp:=(xb z,[])
def Yx (N:Nat) (a0:qd):Tree (Bool):=
 .cond (decide (((14:Int)) < (((qd.R a0).length:Nat):Int))) (
 .ret false) <|
 .bind (WD N a0 0) fun z1=>
 .sum z1 (fun z2=>
 .ret false) fun z2=>
 .ret true
def XL (N:Nat) (a0:qd):Option (Bool):=(Yx N a0).run some
def qkC (N:Nat):List (Nat×qG):=[(4,qau N)]
def qcD (N:Nat):Ent:=smF ⟨23,[],[.x qR],[],[]⟩ [qR] (Bool) (fun x=>XL N x.1) cs1 fun _=>ql_
theorem qki (N:Nat):q9 Tryz.prog (qcD N):=
 q0 (H:=WV) (L:=qQ (qkC N)) (ts:=[qR]) (T:=fun x=>Yx N x.1) 0 qE1 (qa7 N) (qu (by kernel_rfl) ⟨qgx N,trivial⟩) (rg0 (by kernel_rfl)) fun x=>by kernel_rfl
noncomputable def qoj:Code:=Tryz.f12.body.getD .skip
theorem qHb:FnF Tryz.prog 12 Tryz.f12 qoj:=⟨qj,by kernel_rfl,by kernel_rfl,by kernel_rfl⟩
def W6:TH:={ live:=[(0,[1]),(1,[1,13]),(2,[2]),(3,[1,3]),(4,[1,3,18]),(5,[1,3]),(6,[1,3,28]),(7,[2]),(8,[2])],dec:=[8] }
def qcS (N:Nat):List Ent:=[]
theorem qbc (N:Nat):qT Tryz.prog (qcS N):=trivial
abbrev Z2:=qf
abbrev vr:=Unit⊕(Int×Bool)
def Qu (f:Z2):vr→Ex×TSt
 | .inl y=>(.ret,⟨0,29,[],[(2,.bc false)],[],false,[]⟩)
 | .inr y=>(.exit 0,⟨0,29,[],[(1,.p 10 [] 0),(3,xi y.1),(18,xb y.2)],[(10,.cell false (.tv zC f))],false,[]⟩)
def qg9 (N:Nat):List (Nat×qG):=[]
abbrev Qz:=Int
def qaw:SP:=⟨0,29,[],[(1,.k (.p 10 [] 0)),(3,.x (.i .i64))],[(10,.cell false (.x zC))],false,[]⟩
def qhN (f:Z2) (v:Qz):TSt:=jh qaw [dv zC f,dv (.i .i64) v]
def ZU (N:Nat) (o_4:qf) (v:Qz):Tree (Qz⊕vr):=
 .cond (decide (v < (((qf.P o_4).length:Nat):Int))) (
 .bind (zl (qf.P o_4) v) fun e1=>
 .cond (decide (((300:Int)) < (((qk.Lit e1).length:Nat):Int))) (
 .ret (.inr (.inl ()))) <|
 .chk (qz (v + 1)) <|
 .ret (.inl (v + 1))) <|
 .ret (.inr (.inr ((v,decide (v < (((qf.P o_4).length:Nat):Int))))))
def qaD (N n:Nat) (f:Z2) (v:Qz):Option vr:=q6 (ZU N f) some n v
theorem qhL (N:Nat) (f:Z2) (n:Nat) (v:Qz) (y:vr) (h:qaD N n f v=some y):LG Tryz.prog W6 12 (q8 qoj 4) (qhN f v) (Qu f y):=
 zQ qj (E:=qcS N) (L:=qQ (qg9 N)) (st:=Qu f) (g:=some) (R:=Qu f) (qbc N) (qu (by kernel_rfl) trivial) (rg0 (by kernel_rfl)) (fun v=>by kernel_rfl) (zg (st:=Qu f) fun y=>by rcases y with _ | _<;>rfl) n v y h
def Wy (N:Nat) (o_4:qf) (s3_4:Int):Option vr:=qaD N N o_4 s3_4
def qaL (N:Nat):qG:=smL qaw [zC,(.i .i64)] vr (fun x=>Wy N x.1 x.2.1) (csS cs1) fun x=>Qu x.1
theorem qgM (N:Nat):vJ Tryz.prog W6 12 (q8 qoj 4) (qaL N):=jk fun x z h=>qhL N x.1 N x.2.1 z h
def qln (z:Bool):TV×THp:=(xb z,[])
def ZH (N:Nat) (a0:qf):Tree (Bool):=
 .cond (decide (((80:Int)) < (((qf.P a0).length:Nat):Int))) (
 .ret false) <|
 .cond (decide (((300:Int)) < (((qf.V a0).length:Nat):Int))) (
 .ret false) <|
 .bind (Wy N a0 0) fun z1=>
 .sum z1 (fun z2=>
 .ret false) fun z2=>
 .ret true
def Qj (N:Nat) (a0:qf):Option (Bool):=(ZH N a0).run some
def qme (N:Nat):List (Nat×qG):=[(4,qaL N)]
def qcB (N:Nat):Ent:=smF ⟨12,[],[.x zC],[],[]⟩ [zC] (Bool) (fun x=>Qj N x.1) cs1 fun _=>qln
theorem qkn (N:Nat):q9 Tryz.prog (qcB N):=
 q0 (H:=W6) (L:=qQ (qme N)) (ts:=[zC]) (T:=fun x=>ZH N x.1) 0 qHb (qbc N) (qu (by kernel_rfl) ⟨qgM N,trivial⟩) (rg0 (by kernel_rfl)) fun x=>by kernel_rfl
noncomputable def qHp:Code:=Tryz.f60.body.getD .skip
theorem qHk:FnF Tryz.prog 60 Tryz.f60 qHp:=⟨qj,by kernel_rfl,by kernel_rfl,by kernel_rfl⟩
def qye:TH:={ live:=[(0,[1]),(1,[2])],dec:=[6,10,15,20] }
def qyi (N:Nat):List Ent:=[]
theorem quf (N:Nat):qT Tryz.prog (qyi N):=trivial
def qxW (z:Bool):TV×THp:=(xb z,[])
def qg5 (a0:qe):Tree (Bool):=
 .cond (eqE qn a0 (qe.mk 0 0)) (
 .ret true) <|
 .cond (decide (((0:Int)) < (qe.N a0))) (
 .cond (decide ((qe.N a0)≤((1099511627776:Int)))) (
 .cond (decide (((0:Int))≤(qe.Rep a0))) (
 .ret (decide ((qe.Rep a0) < ((8:Int))))) <|
 .ret false) <|
 .ret false) <|
 .ret false
def Ys (a0:qe):Option (Bool):=(qg5 a0).run some
def qx6:List (Nat×qG):=[]
def KE:Ent:=smF ⟨60,[],[.x qn],[],[]⟩ [qn] (Bool) (fun x=>Ys x.1) cs1 fun _=>qxW
theorem qbC:q9 Tryz.prog (KE):=
 q0 (H:=qye) (L:=qQ (qx6)) (ts:=[qn]) (T:=fun x=>qg5 x.1) 0 qHk (quf 0) (qu (by kernel_rfl) trivial) (rg0 (by kernel_rfl)) fun x=>by kernel_rfl
noncomputable def qDg:Code:=Tryz.f108.body.getD .skip
theorem qDA:FnF Tryz.prog 108 Tryz.f108 qDg:=⟨qj,by kernel_rfl,by kernel_rfl,by kernel_rfl⟩
def qAV:TH:={ live:=[(0,[1]),(1,[2])],dec:=[7,12] }
def qAx (N:Nat):List Ent:=[KE]
theorem qvt (N:Nat):qT Tryz.prog (qAx N):=⟨qbC,trivial⟩
def qAu (z:Bool):TV×THp:=(xb z,[])
def qjn (a0:qc):Tree (Bool):=
 .cond (!(eqE qn (qc.S a0) (qe.mk 0 0))) (
 .bind (Ys (qc.S a0)) fun r1=>
 .cond r1 (
 .ret (decide ((((qc.V a0).length:Nat):Int)≤((200:Int))))) <|
 .ret false) <|
 .ret false
def qag (a0:qc):Option (Bool):=(qjn a0).run some
def qAT:List (Nat×qG):=[]
def qrc:Ent:=smF ⟨108,[],[.x qq],[],[]⟩ [qq] (Bool) (fun x=>qag x.1) cs1 fun _=>qAu
theorem qy3:q9 Tryz.prog (qrc):=
 q0 (H:=qAV) (L:=qQ (qAT)) (ts:=[qq]) (T:=fun x=>qjn x.1) 0 qDA (qvt 0) (qu (by kernel_rfl) trivial) (rg0 (by kernel_rfl)) fun x=>by kernel_rfl
noncomputable def qDo:Code:=Tryz.f143.body.getD .skip
theorem qDd:FnF Tryz.prog 143 Tryz.f143 qDo:=⟨qj,by kernel_rfl,by kernel_rfl,by kernel_rfl⟩
def qqV:TH:={ live:=[(0,[0]),(1,[2])] }
def qqI (N:Nat):List Ent:=[]
theorem qm8 (N:Nat):qT Tryz.prog (qqI N):=trivial
def qqd (a0:Int) (z:Unit):TV×THp:=(xb (!decide (a0=a0)),[])
def qaU (a0:Int):Tree (Unit):=
 .ret ()
def KY (a0:Int):Option (Unit):=(qaU a0).run some
def qrA:List (Nat×qG):=[]
def qf0:Ent:=smF ⟨143,[],[.x (.i .i64)],[],[]⟩ [(.i .i64)] (Unit) (fun x=>KY x.1) cs1 fun x=>qqd x.1
theorem qpl:q9 Tryz.prog (qf0):=
 q0 (H:=qqV) (L:=qQ (qrA)) (ts:=[(.i .i64)]) (T:=fun x=>qaU x.1) 0 qDd (qm8 0) (qu (by kernel_rfl) trivial) (rg0 (by kernel_rfl)) fun x=>by kernel_rfl
noncomputable def qD5:Code:=Tryz.f127.body.getD .skip
theorem qCo:FnF Tryz.prog 127 Tryz.f127 qD5:=⟨qj,by kernel_rfl,by kernel_rfl,by kernel_rfl⟩
def qnj:TH:={ live:=[(0,[0,1]),(1,[0,1,5]),(2,[0,1,5,6]),(3,[0,1,6,11]),(4,[12]),(5,[4]),(6,[4]),(7,[0,1,13]),(8,[4]),(9,[0,1,16]),(10,[4]),(11,[19]),(12,[4]),(13,[4])] }
def qnc (N:Nat):List Ent:=[qf0]
theorem qko (N:Nat):qT Tryz.prog (qnc N):=⟨qpl,trivial⟩
def qny (z:Int):TV×THp:=(xi z,[])
def Km (a0:Int) (a1:Int):Tree (Int):=
 .bind (KY a0) fun r1=>
 .bind (KY a1) fun r2=>
 .cond (!decide (a0=a0)) (
 .cond (!decide (a1=a1)) (
 .ret 0) <|
 .ret (-1)) <|
 .cond (!decide (a1=a1)) (
 .ret 1) <|
 .cond (decide (a0 < a1)) (
 .ret (-1)) <|
 .cond (decide (a1 < a0)) (
 .ret 1) <|
 .ret 0
def J6 (a0:Int) (a1:Int):Option (Int):=(Km a0 a1).run some
def qnn:List (Nat×qG):=[]
def qdv:Ent:=smF ⟨127,[],[.x (.i .i64),.x (.i .i64)],[],[]⟩ [(.i .i64),(.i .i64)] (Int) (fun x=>J6 x.1 x.2.1) cs1 fun _=>qny
theorem qlf:q9 Tryz.prog (qdv):=
 q0 (H:=qnj) (L:=qQ (qnn)) (ts:=[(.i .i64),(.i .i64)]) (T:=fun x=>Km x.1 x.2.1) 0 qCo (qko 0) (qu (by kernel_rfl) trivial) (rg0 (by kernel_rfl)) fun x=>by kernel_rfl
noncomputable def qlU:Code:=Tryz.f126.body.getD .skip
theorem qDY:FnF Tryz.prog 126 Tryz.f126 qlU:=⟨qj,by kernel_rfl,by kernel_rfl,by kernel_rfl⟩
def qeg:TH:={ live:=[(0,[0]),(1,[0,3]),(2,[3,6,7,8]),(3,[3,6,7,8,9]),(4,[3,5,6,7,8]),(5,[3,5,6,7,8,14]),(6,[2]),(7,[3,6,7,8]),(8,[2])] }
def qlP (N:Nat):List Ent:=[]
theorem qhG (N:Nat):qT Tryz.prog (qlP N):=trivial
abbrev WJ:=List Int×Int
abbrev ZZ:=Int⊕(Int×Bool)
def Ve (f:WJ):ZZ→Ex×TSt
 | .inl y=>(.ret,⟨0,18,[],[(2,xi y)],[],false,[]⟩)
 | .inr y=>(.exit 0,⟨0,18,[],[(3,.ic .i64 0),(6,.tv (.sl 1 (.i .i64)) f.1),(7,xi f.2),(8,xi y.1),(9,xb y.2)],[],false,[]⟩)
def qq4 (N:Nat):List (Nat×qG):=[]
abbrev Vl:=Int
def qfr:SP:=⟨0,18,[],[(3,.k (.ic .i64 0)),(6,.x (.sl 1 (.i .i64))),(7,.x (.i .i64)),(8,.x (.i .i64))],[],false,[]⟩
def qqe (f:WJ) (v:Vl):TSt:=jh qfr [dv (.sl 1 (.i .i64)) f.1,dv (.i .i64) f.2,dv (.i .i64) v]
def QS (N:Nat) (s6_3:List Int) (s7_3:Int) (v:Vl):Tree (Vl⊕ZZ):=
 .cond (decide (v < s7_3)) (
 .bind (zl s6_3 v) fun e1=>
 .cond (!decide (e1=((0:Int)))) (
 .ret (.inr (.inl e1))) <|
 .chk (qz (v + 1)) <|
 .ret (.inl (v + 1))) <|
 .ret (.inr (.inr ((v,decide (v < s7_3)))))
def qf1 (N n:Nat) (f:WJ) (v:Vl):Option ZZ:=q6 (QS N f.1 f.2) some n v
theorem qpD (N:Nat) (f:WJ) (n:Nat) (v:Vl) (y:ZZ) (h:qf1 N n f v=some y):LG Tryz.prog qeg 126 (q8 qlU 3) (qqe f v) (Ve f y):=
 zQ qj (E:=qlP N) (L:=qQ (qq4 N)) (st:=Ve f) (g:=some) (R:=Ve f) (qhG N) (qu (by kernel_rfl) trivial) (rg0 (by kernel_rfl)) (fun v=>by kernel_rfl) (zg (st:=Ve f) fun y=>by rcases y with _ | _<;>rfl) n v y h
def qdm (N:Nat) (s6_3:List Int) (s7_3:Int) (s8_3:Int):Option ZZ:=qf1 N N (s6_3,s7_3) s8_3
def qfs (N:Nat):qG:=smL qfr [(.sl 1 (.i .i64)),(.i .i64),(.i .i64)] ZZ (fun x=>qdm N x.1 x.2.1 x.2.2.1) (csS cs1) fun x=>Ve (x.1,x.2.1)
theorem qoK (N:Nat):vJ Tryz.prog qeg 126 (q8 qlU 3) (qfs N):=jk fun x z h=>qpD N (x.1,x.2.1) N x.2.2.1 z h
def qwC (z:Int):TV×THp:=(xi z,[])
def qeZ (N:Nat) (a0:List Int):Tree (Int):=
 .bind (qdm N a0 ((a0.length:Nat):Int) 0) fun z1=>
 .sum z1 (fun z2=>
 .ret z2) fun z2=>
 .ret 0
def qbq (N:Nat) (a0:List Int):Option (Int):=(qeZ N a0).run some
def qwb (N:Nat):List (Nat×qG):=[(3,qfs N)]
def qlG (N:Nat):Ent:=smF ⟨126,[],[.x (.sl 1 (.i .i64))],[],[]⟩ [(.sl 1 (.i .i64))] (Int) (fun x=>qbq N x.1) cs1 fun _=>qwC
theorem quq (N:Nat):q9 Tryz.prog (qlG N):=
 q0 (H:=qeg) (L:=qQ (qwb N)) (ts:=[(.sl 1 (.i .i64))]) (T:=fun x=>qeZ N x.1) 0 qDY (qhG N) (qu (by kernel_rfl) ⟨qoK N,trivial⟩) (rg0 (by kernel_rfl)) fun x=>by kernel_rfl
noncomputable def qCB:Code:=Tryz.f109.body.getD .skip
theorem qDe:FnF Tryz.prog 109 Tryz.f109 qCB:=⟨qj,by kernel_rfl,by kernel_rfl,by kernel_rfl⟩
def qw8:TH:={ live:=[(0,[2,3]),(1,[4])],dec:=[8] }
def qv_ (N:Nat):List Ent:=[qdv,qlG N]
theorem qsn (N:Nat):qT Tryz.prog (qv_ N):=⟨qlf,quq N,trivial⟩
def qwX (z:Bool):TV×THp:=(xb z,[])
def qec (N:Nat) (a0:qe) (a1:qe):Tree (Bool):=
 .cond (!(eqE qn a0 a1)) (
 .bind (J6 (qe.N a0) (qe.N a1)) fun r1=>
 .bind (J6 (qe.Rep a0) (qe.Rep a1)) fun r2=>
 .bind (qbq N [r1,r2]) fun r3=>
 .ret (decide (r3 < ((0:Int))))) <|
 .ret false
def QL (N:Nat) (a0:qe) (a1:qe):Option (Bool):=(qec N a0 a1).run some
def qvc (N:Nat):List (Nat×qG):=[]
def W8 (N:Nat):Ent:=smF ⟨109,[],[.x qn,.x qn],[],[]⟩ [qn,qn] (Bool) (fun x=>QL N x.1 x.2.1) cs1 fun _=>qwX
theorem K6 (N:Nat):q9 Tryz.prog (W8 N):=
 q0 (H:=qw8) (L:=qQ (qvc N)) (ts:=[qn,qn]) (T:=fun x=>qec N x.1 x.2.1) 0 qDe (qsn N) (qu (by kernel_rfl) trivial) (rg0 (by kernel_rfl)) fun x=>by kernel_rfl
noncomputable def qpg:Code:=Tryz.f79.body.getD .skip
theorem qG7:FnF Tryz.prog 79 Tryz.f79 qpg:=⟨qj,by kernel_rfl,by kernel_rfl,by kernel_rfl⟩
def qlb:TH:={ live:=[(0,[1]),(1,[1,21]),(2,[2]),(3,[1,23,24,25]),(4,[1,23,24,25,26]),(5,[1,3,4,23,24,25]),(6,[1,4,5,23,24,25]),(7,[1,23,24,25,74]),(8,[2]),(9,[1,23,24,25]),(10,[2])],dec:=[10,15,32,37,40,55,60,66] }
def qs8 (N:Nat):List Ent:=[KE,qrc,W8 N]
theorem qod (N:Nat):qT Tryz.prog (qs8 N):=⟨qbC,qy3,K6 N,trivial⟩
abbrev qbl:=qa×List qb×Int
abbrev V7:=Unit⊕(Int×Bool)
def WX (f:qbl):V7→Ex×TSt
 | .inl y=>(.ret,⟨0,76,[],[(2,.bc false)],[],false,[]⟩)
 | .inr y=>(.exit 0,⟨0,76,[],[(1,.p 10 [] 0),(23,.tv (.sl 4 qp) f.2.1),(24,xi f.2.2),(25,xi y.1),(26,xb y.2)],[(10,.cell false (.tv qg f.1))],false,[]⟩)
def qw0 (N:Nat):List (Nat×qG):=[]
abbrev W7:=Int
def qlY:SP:=⟨0,76,[],[(1,.k (.p 10 [] 0)),(23,.x (.sl 4 qp)),(24,.x (.i .i64)),(25,.x (.i .i64))],[(10,.cell false (.x qg))],false,[]⟩
def qwm (f:qbl) (v:W7):TSt:=jh qlY [dv qg f.1,dv (.sl 4 qp) f.2.1,dv (.i .i64) f.2.2,dv (.i .i64) v]
def qbp (N:Nat) (o_4:qa) (s23_4:List qb) (s24_4:Int) (v:W7):Tree (W7⊕V7):=
 .cond (decide (v < s24_4)) (
 .bind (zl s23_4 v) fun e1=>
 .cond (decide (v=((0:Int)))) (
 .cond (decide (((0:Int))≤(qb.No e1))) (
 .cond (decide (((8:Int))≤(qb.No e1))) (
 .ret (.inr (.inl ()))) <|
 .bind (qag (qb.C e1)) fun r2=>
 .cond (!r2) (
 .ret (.inr (.inl ()))) <|
 .bind (QL N (qa.qX o_4) (qc.S (qb.C e1))) fun r3=>
 .cond (!r3) (
 .ret (.inr (.inl ()))) <|
 .chk (qz (v + 1)) <|
 .ret (.inl (v + 1))) <|
 .cond (decide (((0:Int)) < v)) (
 .chk (qz (v - 1)) <|
 .bind (zl (qa.F o_4) (v - 1)) fun e2=>
 .cond (!(decide ((qb.No e2) < (qb.No e1)))) (
 .ret (.inr (.inl ()))) <|
 .cond (decide (((8:Int))≤(qb.No e1))) (
 .ret (.inr (.inl ()))) <|
 .bind (qag (qb.C e1)) fun r3=>
 .cond (!r3) (
 .ret (.inr (.inl ()))) <|
 .bind (QL N (qa.qX o_4) (qc.S (qb.C e1))) fun r4=>
 .cond (!r4) (
 .ret (.inr (.inl ()))) <|
 .chk (qz (v + 1)) <|
 .ret (.inl (v + 1))) <|
 .ret (.inr (.inl ()))) <|
 .cond (decide (((0:Int)) < v)) (
 .chk (qz (v - 1)) <|
 .bind (zl (qa.F o_4) (v - 1)) fun e2=>
 .cond (!(decide ((qb.No e2) < (qb.No e1)))) (
 .ret (.inr (.inl ()))) <|
 .cond (decide (((8:Int))≤(qb.No e1))) (
 .ret (.inr (.inl ()))) <|
 .bind (qag (qb.C e1)) fun r3=>
 .cond (!r3) (
 .ret (.inr (.inl ()))) <|
 .bind (QL N (qa.qX o_4) (qc.S (qb.C e1))) fun r4=>
 .cond (!r4) (
 .ret (.inr (.inl ()))) <|
 .chk (qz (v + 1)) <|
 .ret (.inl (v + 1))) <|
 .ret (.inr (.inl ()))) <|
 .ret (.inr (.inr ((v,decide (v < s24_4)))))
def qlA (N n:Nat) (f:qbl) (v:W7):Option V7:=q6 (qbp N f.1 f.2.1 f.2.2) some n v
theorem qxd (N:Nat) (f:qbl) (n:Nat) (v:W7) (y:V7) (h:qlA N n f v=some y):LG Tryz.prog qlb 79 (q8 qpg 4) (qwm f v) (WX f y):=
 zQ qj (E:=qs8 N) (L:=qQ (qw0 N)) (st:=WX f) (g:=some) (R:=WX f) (qod N) (qu (by kernel_rfl) trivial) (rg0 (by kernel_rfl)) (fun v=>by kernel_rfl) (zg (st:=WX f) fun y=>by rcases y with _ | _<;>rfl) n v y h
def qdK (N:Nat) (o_4:qa) (s23_4:List qb) (s24_4:Int) (s25_4:Int):Option V7:=qlA N N (o_4,s23_4,s24_4) s25_4
def qlC (N:Nat):qG:=smL qlY [qg,(.sl 4 qp),(.i .i64),(.i .i64)] V7 (fun x=>qdK N x.1 x.2.1 x.2.2.1 x.2.2.2.1) (csS cs1) fun x=>WX (x.1,x.2.1,x.2.2.1)
theorem qum (N:Nat):vJ Tryz.prog qlb 79 (q8 qpg 4) (qlC N):=jk fun x z h=>qxd N (x.1,x.2.1,x.2.2.1) N x.2.2.2.1 z h
def qDq (z:Bool):TV×THp:=(xb z,[])
def qlx (N:Nat) (a0:qa):Tree (Bool):=
 .bind (Ys (qa.qX a0)) fun r1=>
 .cond (!r1) (
 .ret false) <|
 .cond (decide ((((qa.F a0).length:Nat):Int)=((0:Int)))) (
 .cond (eqE qn (qa.qX a0) (qe.mk 0 0)) (
 .ret false) <|
 .bind (qdK N a0 (qa.F a0) (((qa.F a0).length:Nat):Int) 0) fun z2=>
 .sum z2 (fun z3=>
 .ret false) fun z3=>
 .ret true) <|
 .bind (qdK N a0 (qa.F a0) (((qa.F a0).length:Nat):Int) 0) fun z2=>
 .sum z2 (fun z3=>
 .ret false) fun z3=>
 .ret true
def qbR (N:Nat) (a0:qa):Option (Bool):=(qlx N a0).run some
def qCZ (N:Nat):List (Nat×qG):=[(4,qlC N)]
def qfQ (N:Nat):Ent:=smF ⟨79,[],[.x qg],[],[]⟩ [qg] (Bool) (fun x=>qbR N x.1) cs1 fun _=>qDq
theorem qje (N:Nat):q9 Tryz.prog (qfQ N):=
 q0 (H:=qlb) (L:=qQ (qCZ N)) (ts:=[qg]) (T:=fun x=>qlx N x.1) 0 qG7 (qod N) (qu (by kernel_rfl) ⟨qum N,trivial⟩) (rg0 (by kernel_rfl)) fun x=>by kernel_rfl
noncomputable def qEY:Code:=Tryz.f110.body.getD .skip
theorem qDp:FnF Tryz.prog 110 Tryz.f110 qEY:=⟨qj,by kernel_rfl,by kernel_rfl,by kernel_rfl⟩
def qpW:TH:={ live:=[(0,[0,1]),(1,[4])] }
def qqA (N:Nat):List Ent:=[qrx]
theorem qnq (N:Nat):qT Tryz.prog (qqA N):=⟨qzI,trivial⟩
def qp7 (z:Int):TV×THp:=(xi z,[])
def qaR (a0:List UInt8) (a1:List UInt8):Tree (Int):=
 .bind (qE7 a0 a1) fun r1=>
 .ret r1
def Wb (a0:List UInt8) (a1:List UInt8):Option (Int):=(qaR a0 a1).run some
def qqR:List (Nat×qG):=[]
def WM:Ent:=smF ⟨110,[],[.x .bl,.x .bl],[],[]⟩ [.bl,.bl] (Int) (fun x=>Wb x.1 x.2.1) cs1 fun _=>qp7
theorem K9:q9 Tryz.prog (WM):=
 q0 (H:=qpW) (L:=qQ (qqR)) (ts:=[.bl,.bl]) (T:=fun x=>qaR x.1 x.2.1) 0 qDp (qnq 0) (qu (by kernel_rfl) trivial) (rg0 (by kernel_rfl)) fun x=>by kernel_rfl
noncomputable def qFy:Code:=Tryz.f80.body.getD .skip
theorem qGY:FnF Tryz.prog 80 Tryz.f80 qFy:=⟨qj,by kernel_rfl,by kernel_rfl,by kernel_rfl⟩
def qyx:TH:={ live:=[(0,[2,3]),(1,[4])],dec:=[8] }
def qys (N:Nat):List Ent:=[WM]
theorem qt_ (N:Nat):qT Tryz.prog (qys N):=⟨K9,trivial⟩
def qy2 (z:Bool):TV×THp:=(xb z,[])
def qgq (a0:Vector UInt8 16) (a1:Vector UInt8 16):Tree (Bool):=
 .cond (!(eqE (.ba 16) a0 a1)) (
 .bind (Wb a0.toList a1.toList) fun r1=>
 .ret (decide (r1 < ((0:Int))))) <|
 .ret false
def qfC (a0:Vector UInt8 16) (a1:Vector UInt8 16):Option (Bool):=(qgq a0 a1).run some
def qyf:List (Nat×qG):=[]
def qnO:Ent:=smF ⟨80,[],[.x (.ba 16),.x (.ba 16)],[],[]⟩ [(.ba 16),(.ba 16)] (Bool) (fun x=>qfC x.1 x.2.1) cs1 fun _=>qy2
theorem qxr:q9 Tryz.prog (qnO):=
 q0 (H:=qyx) (L:=qQ (qyf)) (ts:=[(.ba 16),(.ba 16)]) (T:=fun x=>qgq x.1 x.2.1) 0 qGY (qt_ 0) (qu (by kernel_rfl) trivial) (rg0 (by kernel_rfl)) fun x=>by kernel_rfl
noncomputable def qon:Code:=Tryz.f30.body.getD .skip
theorem qF9:FnF Tryz.prog 30 Tryz.f30 qon:=⟨qj,by kernel_rfl,by kernel_rfl,by kernel_rfl⟩
def qjg:TH:={ live:=[(0,[1]),(1,[1,6,7,8]),(2,[1,6,7,8,9]),(3,[1,3,4,6,7,8]),(4,[1,6,7,8,32]),(5,[2]),(6,[1,6,7,8]),(7,[2])],dec:=[16,19] }
def qpF (N:Nat):List Ent:=[qfQ N,qnO]
theorem qkX (N:Nat):qT Tryz.prog (qpF N):=⟨qje N,qxr,trivial⟩
abbrev K1:=qd×List qa×Int
abbrev J3:=Unit⊕(Int×Bool)
def Wc (f:K1):J3→Ex×TSt
 | .inl y=>(.ret,⟨0,38,[],[(2,.bc false)],[],false,[]⟩)
 | .inr y=>(.exit 0,⟨0,38,[],[(1,.p 10 [] 0),(6,.tv (.sl 19 qg) f.2.1),(7,xi f.2.2),(8,xi y.1),(9,xb y.2)],[(10,.cell false (.tv qR f.1))],false,[]⟩)
def qtM (N:Nat):List (Nat×qG):=[]
abbrev Wg:=Int
def qjX:SP:=⟨0,38,[],[(1,.k (.p 10 [] 0)),(6,.x (.sl 19 qg)),(7,.x (.i .i64)),(8,.x (.i .i64))],[(10,.cell false (.x qR))],false,[]⟩
def qtS (f:K1) (v:Wg):TSt:=jh qjX [dv qR f.1,dv (.sl 19 qg) f.2.1,dv (.i .i64) f.2.2,dv (.i .i64) v]
def K3 (N:Nat) (o_2:qd) (s6_2:List qa) (s7_2:Int) (v:Wg):Tree (Wg⊕J3):=
 .cond (decide (v < s7_2)) (
 .bind (zl s6_2 v) fun e1=>
 .bind (qbR N e1) fun r2=>
 .cond (!r2) (
 .ret (.inr (.inl ()))) <|
 .cond (decide (((0:Int)) < v)) (
 .chk (qz (v - 1)) <|
 .bind (zl (qd.R o_2) (v - 1)) fun e3=>
 .bind (qfC (qa.ID e3) (qa.ID e1)) fun r4=>
 .cond (!r4) (
 .ret (.inr (.inl ()))) <|
 .chk (qz (v + 1)) <|
 .ret (.inl (v + 1))) <|
 .chk (qz (v + 1)) <|
 .ret (.inl (v + 1))) <|
 .ret (.inr (.inr ((v,decide (v < s7_2)))))
def qjS (N n:Nat) (f:K1) (v:Wg):Option J3:=q6 (K3 N f.1 f.2.1 f.2.2) some n v
theorem qul (N:Nat) (f:K1) (n:Nat) (v:Wg) (y:J3) (h:qjS N n f v=some y):LG Tryz.prog qjg 30 (q8 qon 2) (qtS f v) (Wc f y):=
 zQ qj (E:=qpF N) (L:=qQ (qtM N)) (st:=Wc f) (g:=some) (R:=Wc f) (qkX N) (qu (by kernel_rfl) trivial) (rg0 (by kernel_rfl)) (fun v=>by kernel_rfl) (zg (st:=Wc f) fun y=>by rcases y with _ | _<;>rfl) n v y h
def qg0 (N:Nat) (o_2:qd) (s6_2:List qa) (s7_2:Int) (s8_2:Int):Option J3:=qjS N N (o_2,s6_2,s7_2) s8_2
def qj0 (N:Nat):qG:=smL qjX [qR,(.sl 19 qg),(.i .i64),(.i .i64)] J3 (fun x=>qg0 N x.1 x.2.1 x.2.2.1 x.2.2.2.1) (csS cs1) fun x=>Wc (x.1,x.2.1,x.2.2.1)
theorem qr_ (N:Nat):vJ Tryz.prog qjg 30 (q8 qon 2) (qj0 N):=jk fun x z h=>qul N (x.1,x.2.1,x.2.2.1) N x.2.2.2.1 z h
def qB8 (z:Bool):TV×THp:=(xb z,[])
def qic (N:Nat) (a0:qd):Tree (Bool):=
 .bind (qg0 N a0 (qd.R a0) (((qd.R a0).length:Nat):Int) 0) fun z1=>
 .sum z1 (fun z2=>
 .ret false) fun z2=>
 .ret (decide ((((qd.R a0).length:Nat):Int)≤((10:Int))))
def Yp (N:Nat) (a0:qd):Option (Bool):=(qic N a0).run some
def qBT (N:Nat):List (Nat×qG):=[(2,qj0 N)]
def qdQ (N:Nat):Ent:=smF ⟨30,[],[.x qR],[],[]⟩ [qR] (Bool) (fun x=>Yp N x.1) cs1 fun _=>qB8
theorem qgn (N:Nat):q9 Tryz.prog (qdQ N):=
 q0 (H:=qjg) (L:=qQ (qBT N)) (ts:=[qR]) (T:=fun x=>qic N x.1) 0 qF9 (qkX N) (qu (by kernel_rfl) ⟨qr_ N,trivial⟩) (rg0 (by kernel_rfl)) fun x=>by kernel_rfl
noncomputable def qGQ:Code:=Tryz.f59.body.getD .skip
theorem qFw:FnF Tryz.prog 59 Tryz.f59 qGQ:=⟨qj,by kernel_rfl,by kernel_rfl,by kernel_rfl⟩
def qD_:TH:={ live:=[(0,[1,2]),(1,[1,2,3]),(2,[1,2,3,12]),(3,[1,2,3,12,13]),(4,[2,3]),(5,[1,2,3,12,21]),(6,[2,3]),(7,[1,2,3,35]),(8,[2,3]),(9,[2])] }
def qDB (N:Nat):List Ent:=[]
theorem qyR (N:Nat):qT Tryz.prog (qDB N):=trivial
def qEl (z:qf):TV×THp:=(.tv zC z,[])
def qk4 (a0:qf):Tree (qf):=
 .cond (decide ((qf.Kind a0)=((1:Int)))) (
 .ret (qf.mk (qf.Kind a0) (qf.ID a0) (qf.S a0) (qf.No a0) (qf.V a0) [] ((Vector.replicate 16 0)) 0 ((Vector.replicate 32 0)))) <|
 .cond (decide ((qf.Kind a0)=((2:Int)))) (
 .ret (qf.mk (qf.Kind a0) (qf.ID a0) (qf.S a0) (qf.No a0) [] [] (qf.XU a0) (qf.Jb a0) (qf.D a0))) <|
 .cond (decide ((qf.Kind a0)=((3:Int)))) (
 .ret (qf.mk (qf.Kind a0) (qf.ID a0) (qf.S a0) (qf.No a0) [] (qf.P a0) ((Vector.replicate 16 0)) 0 (qf.D a0))) <|
 .ret (qf.mk (qf.Kind a0) (qf.ID a0) (qf.S a0) 0 [] [] ((Vector.replicate 16 0)) 0 ((Vector.replicate 32 0)))
def qmx (a0:qf):Option (qf):=(qk4 a0).run some
def qC7:List (Nat×qG):=[]
def qsV:Ent:=smF ⟨59,[],[.x zC],[],[]⟩ [zC] (qf) (fun x=>qmx x.1) cs1 fun _=>qEl
theorem qBw:q9 Tryz.prog (qsV):=
 q0 (H:=qD_) (L:=qQ (qC7)) (ts:=[zC]) (T:=fun x=>qk4 x.1) 0 qFw (qyR 0) (qu (by kernel_rfl) trivial) (rg0 (by kernel_rfl)) fun x=>by kernel_rfl
noncomputable def qo6:Code:=Tryz.f91.body.getD .skip
theorem qGK:FnF Tryz.prog 91 Tryz.f91 qo6:=⟨qj,by kernel_rfl,by kernel_rfl,by kernel_rfl⟩
def XX:TH:={ live:=[(0,[0,1]),(1,[0,1,10]),(2,[4]),(3,[0,1,12,13]),(4,[0,1,12,13,14]),(5,[0,1,5,12,13]),(6,[0,1,12,13,24]),(7,[4]),(8,[0,1,12,13]),(9,[4])] }
def qbj (N:Nat):List Ent:=[]
theorem KJ (N:Nat):qT Tryz.prog (qbj N):=trivial
abbrev Q9:=List qk×List qk×Int
abbrev jQ:=Unit⊕(Int×Bool)
def vN (f:Q9):jQ→Ex×TSt
 | .inl y=>(.ret,⟨0,26,[],[(4,.bc false)],[],false,[]⟩)
 | .inr y=>(.exit 0,⟨0,26,[],[(0,.tv (.sl 4 qK) f.1),(1,.tv (.sl 4 qK) f.2.1),(12,xi f.2.2),(13,xi y.1),(14,xb y.2)],[],false,[]⟩)
def qe7 (N:Nat):List (Nat×qG):=[]
abbrev vP:=Int
def Kh:SP:=⟨0,26,[],[(0,.x (.sl 4 qK)),(1,.x (.sl 4 qK)),(12,.x (.i .i64)),(13,.x (.i .i64))],[],false,[]⟩
def qe_ (f:Q9) (v:vP):TSt:=jh Kh [dv (.sl 4 qK) f.1,dv (.sl 4 qK) f.2.1,dv (.i .i64) f.2.2,dv (.i .i64) v]
def Zc (N:Nat) (s0_4:List qk) (s1_4:List qk) (s12_4:Int) (v:vP):Tree (vP⊕jQ):=
 .cond (decide (v < s12_4)) (
 .bind (zl s0_4 v) fun e1=>
 .bind (zl s1_4 v) fun e2=>
 .cond (!(eqE qK e1 e2)) (
 .ret (.inr (.inl ()))) <|
 .chk (qz (v + 1)) <|
 .ret (.inl (v + 1))) <|
 .ret (.inr (.inr ((v,decide (v < s12_4)))))
def Ke (N n:Nat) (f:Q9) (v:vP):Option jQ:=q6 (Zc N f.1 f.2.1 f.2.2) some n v
theorem qff (N:Nat) (f:Q9) (n:Nat) (v:vP) (y:jQ) (h:Ke N n f v=some y):LG Tryz.prog XX 91 (q8 qo6 4) (qe_ f v) (vN f y):=
 zQ qj (E:=qbj N) (L:=qQ (qe7 N)) (st:=vN f) (g:=some) (R:=vN f) (KJ N) (qu (by kernel_rfl) trivial) (rg0 (by kernel_rfl)) (fun v=>by kernel_rfl) (zg (st:=vN f) fun y=>by rcases y with _ | _<;>rfl) n v y h
def VQ (N:Nat) (s0_4:List qk) (s1_4:List qk) (s12_4:Int) (s13_4:Int):Option jQ:=Ke N N (s0_4,s1_4,s12_4) s13_4
def Kj (N:Nat):qG:=smL Kh [(.sl 4 qK),(.sl 4 qK),(.i .i64),(.i .i64)] jQ (fun x=>VQ N x.1 x.2.1 x.2.2.1 x.2.2.2.1) (csS cs1) fun x=>vN (x.1,x.2.1,x.2.2.1)
theorem qeA (N:Nat):vJ Tryz.prog XX 91 (q8 qo6 4) (Kj N):=jk fun x z h=>qff N (x.1,x.2.1,x.2.2.1) N x.2.2.2.1 z h
def qjv (z:Bool):TV×THp:=(xb z,[])
def XI (N:Nat) (a0:List qk) (a1:List qk):Tree (Bool):=
 .cond (!decide (((a0.length:Nat):Int)=((a1.length:Nat):Int))) (
 .ret false) <|
 .bind (VQ N a0 a1 ((a0.length:Nat):Int) 0) fun z1=>
 .sum z1 (fun z2=>
 .ret false) fun z2=>
 .ret true
def J7 (N:Nat) (a0:List qk) (a1:List qk):Option (Bool):=(XI N a0 a1).run some
def qin (N:Nat):List (Nat×qG):=[(4,Kj N)]
def qa9 (N:Nat):Ent:=smF ⟨91,[],[.x (.sl 4 qK),.x (.sl 4 qK)],[],[]⟩ [(.sl 4 qK),(.sl 4 qK)] (Bool) (fun x=>J7 N x.1 x.2.1) cs1 fun _=>qjv
theorem qhO (N:Nat):q9 Tryz.prog (qa9 N):=
 q0 (H:=XX) (L:=qQ (qin N)) (ts:=[(.sl 4 qK),(.sl 4 qK)]) (T:=fun x=>XI N x.1 x.2.1) 0 qGK (KJ N) (qu (by kernel_rfl) ⟨qeA N,trivial⟩) (rg0 (by kernel_rfl)) fun x=>by kernel_rfl
noncomputable def qFr:Code:=Tryz.f63.body.getD .skip
theorem qGJ:FnF Tryz.prog 63 Tryz.f63 qFr:=⟨qj,by kernel_rfl,by kernel_rfl,by kernel_rfl⟩
def qw7:TH:={ live:=[(0,[0,1]),(1,[4])] }
def qxy (N:Nat):List Ent:=[qa9 N]
theorem qso (N:Nat):qT Tryz.prog (qxy N):=⟨qhO N,trivial⟩
def qxf (z:Bool):TV×THp:=(xb z,[])
def qev (N:Nat) (a0:List qk) (a1:List qk):Tree (Bool):=
 .bind (J7 N a0 a1) fun r1=>
 .ret r1
def qdX (N:Nat) (a0:List qk) (a1:List qk):Option (Bool):=(qev N a0 a1).run some
def qw6 (N:Nat):List (Nat×qG):=[]
def qk5 (N:Nat):Ent:=smF ⟨63,[],[.x (.sl 4 qK),.x (.sl 4 qK)],[],[]⟩ [(.sl 4 qK),(.sl 4 qK)] (Bool) (fun x=>qdX N x.1 x.2.1) cs1 fun _=>qxf
theorem quA (N:Nat):q9 Tryz.prog (qk5 N):=
 q0 (H:=qw7) (L:=qQ (qw6 N)) (ts:=[(.sl 4 qK),(.sl 4 qK)]) (T:=fun x=>qev N x.1 x.2.1) 0 qGJ (qso N) (qu (by kernel_rfl) trivial) (rg0 (by kernel_rfl)) fun x=>by kernel_rfl
noncomputable def qGu:Code:=Tryz.f20.body.getD .skip
theorem qGd:FnF Tryz.prog 20 Tryz.f20 qGu:=⟨qj,by kernel_rfl,by kernel_rfl,by kernel_rfl⟩
def qCP:TH:={ live:=[(0,[2,3]),(1,[2,3,5]),(2,[4])],dec:=[11,18,25,33,40,47,54,61] }
def qCu (N:Nat):List Ent:=[qk5 N]
theorem qyy (N:Nat):qT Tryz.prog (qCu N):=⟨quA N,trivial⟩
def qDE (z:Bool):TV×THp:=(xb z,[])
def qmv (N:Nat) (a0:qf) (a1:qf):Tree (Bool):=
 .cond (eqE (.ba 16) (qf.ID a0) (qf.ID a1)) (
 .cond (eqE (.ba 16) (qf.XU a0) (qf.XU a1)) (
 .cond (decide ((qf.No a0)=(qf.No a1))) (
 .cond (decide ((qf.Jb a0)=(qf.Jb a1))) (
 .cond (decide ((qf.Kind a0)=(qf.Kind a1))) (
 .cond (eqE qn (qf.S a0) (qf.S a1)) (
 .cond (decide ((qf.V a0)=(qf.V a1))) (
 .cond (eqE (.ba 32) (qf.D a0) (qf.D a1)) (
 .bind (qdX N (qf.P a0) (qf.P a1)) fun r1=>
 .ret r1) <|
 .ret false) <|
 .ret false) <|
 .ret false) <|
 .ret false) <|
 .ret false) <|
 .ret false) <|
 .ret false) <|
 .ret false
def qmO (N:Nat) (a0:qf) (a1:qf):Option (Bool):=(qmv N a0 a1).run some
def qCC (N:Nat):List (Nat×qG):=[]
def qs5 (N:Nat):Ent:=smF ⟨20,[],[.x zC,.x zC],[],[]⟩ [zC,zC] (Bool) (fun x=>qmO N x.1 x.2.1) cs1 fun _=>qDE
theorem qBx (N:Nat):q9 Tryz.prog (qs5 N):=
 q0 (H:=qCP) (L:=qQ (qCC N)) (ts:=[zC,zC]) (T:=fun x=>qmv N x.1 x.2.1) 0 qGd (qyy N) (qu (by kernel_rfl) trivial) (rg0 (by kernel_rfl)) fun x=>by kernel_rfl
noncomputable def qGX:Code:=Tryz.f61.body.getD .skip
theorem qE5:FnF Tryz.prog 61 Tryz.f61 qGX:=⟨qj,by kernel_rfl,by kernel_rfl,by kernel_rfl⟩
def qyl:TH:={ live:=[(0,[0]),(1,[2])],dec:=[5] }
def qyL (N:Nat):List Ent:=[]
theorem quH (N:Nat):qT Tryz.prog (qyL N):=trivial
def qyA (z:Bool):TV×THp:=(xb z,[])
def qgc (a0:Int):Tree (Bool):=
 .cond (decide (((0:Int))≤a0)) (
 .ret (decide (a0 < ((8:Int))))) <|
 .ret false
def qcZ (a0:Int):Option (Bool):=(qgc a0).run some
def qzl:List (Nat×qG):=[]
def qnF:Ent:=smF ⟨61,[],[.x (.i .i64)],[],[]⟩ [(.i .i64)] (Bool) (fun x=>qcZ x.1) cs1 fun _=>qyA
theorem qvT:q9 Tryz.prog (qnF):=
 q0 (H:=qyl) (L:=qQ (qzl)) (ts:=[(.i .i64)]) (T:=fun x=>qgc x.1) 0 qE5 (quH 0) (qu (by kernel_rfl) trivial) (rg0 (by kernel_rfl)) fun x=>by kernel_rfl
noncomputable def qDC:Code:=Tryz.f117.body.getD .skip
theorem qDk:FnF Tryz.prog 117 Tryz.f117 qDC:=⟨qj,by kernel_rfl,by kernel_rfl,by kernel_rfl⟩
def qAs:TH:={ live:=[(0,[0,1,2]),(1,[6])],dec:=[10] }
def qAB (N:Nat):List Ent:=[]
theorem qw2 (N:Nat):qT Tryz.prog (qAB N):=trivial
def qBN (z:Bool):TV×THp:=(xb z,[])
def qjy (a0:Int) (a1:Int) (a2:Int):Tree (Bool):=
 .cond (decide (a1≤a0)) (
 .ret (decide (a0≤a2))) <|
 .ret false
def qb2 (a0:Int) (a1:Int) (a2:Int):Option (Bool):=(qjy a0 a1 a2).run some
def qAq:List (Nat×qG):=[]
def qp1:Ent:=smF ⟨117,[],[.x (.i .i64),.x (.i .i64),.x (.i .i64)],[],[]⟩ [(.i .i64),(.i .i64),(.i .i64)] (Bool) (fun x=>qb2 x.1 x.2.1 x.2.2.1) cs1 fun _=>qBN
theorem qx3:q9 Tryz.prog (qp1):=
 q0 (H:=qAs) (L:=qQ (qAq)) (ts:=[(.i .i64),(.i .i64),(.i .i64)]) (T:=fun x=>qjy x.1 x.2.1 x.2.2.1) 0 qDk (qw2 0) (qu (by kernel_rfl) trivial) (rg0 (by kernel_rfl)) fun x=>by kernel_rfl
noncomputable def qFi:Code:=Tryz.f90.body.getD .skip
theorem qGc:FnF Tryz.prog 90 Tryz.f90 qFi:=⟨qj,by kernel_rfl,by kernel_rfl,by kernel_rfl⟩
def qyB:TH:={ live:=[(0,[1]),(1,[1,4]),(2,[2]),(3,[2])],dec:=[8,13,23] }
def qze (N:Nat):List Ent:=[qp1]
theorem quN (N:Nat):qT Tryz.prog (qze N):=⟨qx3,trivial⟩
def qy4 (z:Bool):TV×THp:=(xb z,[])
def qg1 (a0:qk):Tree (Bool):=
 .cond (qk.qwG a0) (
 .bind (qb2 (qk.XU a0) 0 200) fun r1=>
 .cond r1 (
 .bind (qb2 (qk.Len a0) 1 200) fun r2=>
 .cond r2 (
 .ret (decide ((qk.Lit a0)=[]))) <|
 .ret false) <|
 .ret false) <|
 .cond (eqE qK a0 (qk.mk false 0 0 (qk.Lit a0))) (
 .bind (qb2 (((qk.Lit a0).length:Nat):Int) 1 200) fun r1=>
 .ret r1) <|
 .ret false
def qfL (a0:qk):Option (Bool):=(qg1 a0).run some
def qyz:List (Nat×qG):=[]
def qnB:Ent:=smF ⟨90,[],[.x qK],[],[]⟩ [qK] (Bool) (fun x=>qfL x.1) cs1 fun _=>qy4
theorem qxw:q9 Tryz.prog (qnB):=
 q0 (H:=qyB) (L:=qQ (qyz)) (ts:=[qK]) (T:=fun x=>qg1 x.1) 0 qGc (quN 0) (qu (by kernel_rfl) trivial) (rg0 (by kernel_rfl)) fun x=>by kernel_rfl
noncomputable def qoI:Code:=Tryz.f62.body.getD .skip
theorem qHB:FnF Tryz.prog 62 Tryz.f62 qoI:=⟨qj,by kernel_rfl,by kernel_rfl,by kernel_rfl⟩
def qgv:TH:={ live:=[(0,[0]),(1,[0,3]),(2,[0,3,6,7,8]),(3,[0,3,6,7,8,9]),(4,[0,3,5,6,7,8]),(5,[0,3,5,6,7,8,14]),(6,[2]),(7,[0,3,6,7,8]),(8,[0,3,6,7,8]),(9,[2])],dec:=[27] }
def qnC (N:Nat):List Ent:=[qnB]
theorem qjR (N:Nat):qT Tryz.prog (qnC N):=⟨qxw,trivial⟩
abbrev Y9:=List qk×List qk×Int
abbrev JA:=Unit⊕(Int×Int×Bool)
def V5 (f:Y9):JA→Ex×TSt
 | .inl y=>(.ret,⟨0,31,[],[(2,.bc false)],[],false,[]⟩)
 | .inr y=>(.exit 0,⟨0,31,[],[(0,.tv (.sl 4 qK) f.1),(3,xi y.1),(6,.tv (.sl 4 qK) f.2.1),(7,xi f.2.2),(8,xi y.2.1),(9,xb y.2.2)],[],false,[]⟩)
def qrD (N:Nat):List (Nat×qG):=[]
abbrev V9:=Int×Int
def qh9:SP:=⟨0,31,[],[(0,.x (.sl 4 qK)),(3,.x (.i .i64)),(6,.x (.sl 4 qK)),(7,.x (.i .i64)),(8,.x (.i .i64))],[],false,[]⟩
def qr9 (f:Y9) (v:V9):TSt:=jh qh9 [dv (.sl 4 qK) f.1,dv (.i .i64) v.1,dv (.sl 4 qK) f.2.1,dv (.i .i64) f.2.2,dv (.i .i64) v.2]
def YJ (N:Nat) (s0_3:List qk) (s6_3:List qk) (s7_3:Int) (v:V9):Tree (V9⊕JA):=
 .cond (decide (v.2 < s7_3)) (
 .bind (zl s6_3 v.2) fun e1=>
 .bind (qfL e1) fun r2=>
 .cond (!r2) (
 .ret (.inr (.inl ()))) <|
 .chk (qz ((qk.Len e1) + (((qk.Lit e1).length:Nat):Int))) <|
 .chk (qz (v.1 + ((qk.Len e1) + (((qk.Lit e1).length:Nat):Int)))) <|
 .chk (qz (v.2 + 1)) <|
 .ret (.inl (v.1 + ((qk.Len e1) + (((qk.Lit e1).length:Nat):Int)),v.2 + 1))) <|
 .ret (.inr (.inr ((v.1,v.2,decide (v.2 < s7_3)))))
def qhv (N n:Nat) (f:Y9) (v:V9):Option JA:=q6 (YJ N f.1 f.2.1 f.2.2) some n v
theorem qst (N:Nat) (f:Y9) (n:Nat) (v:V9) (y:JA) (h:qhv N n f v=some y):LG Tryz.prog qgv 62 (q8 qoI 3) (qr9 f v) (V5 f y):=
 zQ qj (E:=qnC N) (L:=qQ (qrD N)) (st:=V5 f) (g:=some) (R:=V5 f) (qjR N) (qu (by kernel_rfl) trivial) (rg0 (by kernel_rfl)) (fun v=>by kernel_rfl) (zg (st:=V5 f) fun y=>by rcases y with _ | _<;>rfl) n v y h
def qeM (N:Nat) (s0_3:List qk) (s6_3:List qk) (s7_3:Int) (s3_3:Int) (s8_3:Int):Option JA:=qhv N N (s0_3,s6_3,s7_3) (s3_3,s8_3)
def qhM (N:Nat):qG:=smL qh9 [(.sl 4 qK),(.i .i64),(.sl 4 qK),(.i .i64),(.i .i64)] JA (fun x=>qeM N x.1 x.2.2.1 x.2.2.2.1 x.2.1 x.2.2.2.2.1) (csS cs1) fun x=>V5 (x.1,x.2.2.1,x.2.2.2.1)
theorem qqy (N:Nat):vJ Tryz.prog qgv 62 (q8 qoI 3) (qhM N):=jk fun x z h=>qst N (x.1,x.2.2.1,x.2.2.2.1) N (x.2.1,x.2.2.2.2.1) z h
def qyr (z:Bool):TV×THp:=(xb z,[])
def qg6 (N:Nat) (a0:List qk):Tree (Bool):=
 .bind (qeM N a0 a0 ((a0.length:Nat):Int) 0 0) fun z1=>
 .sum z1 (fun z2=>
 .ret false) fun z2=>
 .cond (decide (((a0.length:Nat):Int)≤((60:Int)))) (
 .ret (decide (z2.1≤200))) <|
 .ret false
def qcU (N:Nat) (a0:List qk):Option (Bool):=(qg6 N a0).run some
def qy8 (N:Nat):List (Nat×qG):=[(3,qhM N)]
def qgV (N:Nat):Ent:=smF ⟨62,[],[.x (.sl 4 qK)],[],[]⟩ [(.sl 4 qK)] (Bool) (fun x=>qcU N x.1) cs1 fun _=>qyr
theorem qlu (N:Nat):q9 Tryz.prog (qgV N):=
 q0 (H:=qgv) (L:=qQ (qy8 N)) (ts:=[(.sl 4 qK)]) (T:=fun x=>qg6 N x.1) 0 qHB (qjR N) (qu (by kernel_rfl) ⟨qqy N,trivial⟩) (rg0 (by kernel_rfl)) fun x=>by kernel_rfl
noncomputable def qGr:Code:=Tryz.f19.body.getD .skip
theorem qFT:FnF Tryz.prog 19 Tryz.f19 qGr:=⟨qj,by kernel_rfl,by kernel_rfl,by kernel_rfl⟩
def qGk:TH:={ live:=[(0,[1]),(1,[1,23]),(2,[2]),(3,[2])],dec:=[6,11,18,27,32,37,43] }
def qFA (N:Nat):List Ent:=[qsV,qs5 N,KE,qnF,qgV N]
theorem qB4 (N:Nat):qT Tryz.prog (qFA N):=⟨qBw,qBx N,qbC,qvT,qlu N,trivial⟩
def qE_ (z:Bool):TV×THp:=(xb z,[])
def qpq (N:Nat) (a0:qf):Tree (Bool):=
 .cond (decide ((qf.Kind a0) < ((0:Int)))) (
 .ret false) <|
 .cond (decide (((4:Int))≤(qf.Kind a0))) (
 .ret false) <|
 .bind (qmx a0) fun r1=>
 .bind (qmO N a0 r1) fun r2=>
 .cond (!r2) (
 .ret false) <|
 .cond (eqE qn (qf.S a0) (qe.mk 0 0)) (
 .ret false) <|
 .bind (Ys (qf.S a0)) fun r3=>
 .cond r3 (
 .bind (qcZ (qf.No a0)) fun r4=>
 .cond r4 (
 .bind (qcZ (qf.Jb a0)) fun r5=>
 .cond r5 (
 .cond (decide ((((qf.V a0).length:Nat):Int)≤((200:Int)))) (
 .bind (qcU N (qf.P a0)) fun r6=>
 .ret r6) <|
 .ret false) <|
 .ret false) <|
 .ret false) <|
 .ret false
def qqu (N:Nat) (a0:qf):Option (Bool):=(qpq N a0).run some
def qHi (N:Nat):List (Nat×qG):=[]
def qxR (N:Nat):Ent:=smF ⟨19,[],[.x zC],[],[]⟩ [zC] (Bool) (fun x=>qqu N x.1) cs1 fun _=>qE_
theorem qDc (N:Nat):q9 Tryz.prog (qxR N):=
 q0 (H:=qGk) (L:=qQ (qHi N)) (ts:=[zC]) (T:=fun x=>qpq N x.1) 0 qFT (qB4 N) (qu (by kernel_rfl) trivial) (rg0 (by kernel_rfl)) fun x=>by kernel_rfl
noncomputable def qFF:Code:=Tryz.f95.body.getD .skip
theorem qGS:FnF Tryz.prog 95 Tryz.f95 qFF:=⟨qj,by kernel_rfl,by kernel_rfl,by kernel_rfl⟩
def qwf:TH:={ live:=[(0,[1]),(1,[2])],dec:=[7] }
def qvO (N:Nat):List Ent:=[]
theorem qrI (N:Nat):qT Tryz.prog (qvO N):=trivial
def qvp (z:Bool):TV×THp:=(xb z,[])
def qaV (a0:qa):Tree (Bool):=
 .cond (eqE qn (qa.qX a0) (qe.mk 0 0)) (
 .ret (decide ((((qa.F a0).length:Nat):Int)=((0:Int))))) <|
 .ret false
def XN (a0:qa):Option (Bool):=(qaV a0).run some
def qww:List (Nat×qG):=[]
def qlF:Ent:=smF ⟨95,[],[.x qg],[],[]⟩ [qg] (Bool) (fun x=>XN x.1) cs1 fun _=>qvp
theorem qtX:q9 Tryz.prog (qlF):=
 q0 (H:=qwf) (L:=qQ (qww)) (ts:=[qg]) (T:=fun x=>qaV x.1) 0 qGS (qrI 0) (qu (by kernel_rfl) trivial) (rg0 (by kernel_rfl)) fun x=>by kernel_rfl
noncomputable def qDD:Code:=Tryz.f129.body.getD .skip
theorem qEn:FnF Tryz.prog 129 Tryz.f129 qDD:=⟨qj,by kernel_rfl,by kernel_rfl,by kernel_rfl⟩
def qnf:TH:={ live:=[(0,[0,1]),(1,[0,1,6]),(2,[0,1]),(3,[0,1]),(4,[0,1,16]),(5,[0]),(6,[4])],esc:=true,nil:=[(5,[⟨.sl 0,900001290,(.sl 19 qg)⟩])] }
def qm6 (N:Nat):List Ent:=[]
theorem qkf (N:Nat):qT Tryz.prog (qm6 N):=trivial
def qno:Unit⊕Unit→TV×THp
 | .inl z=>(.v 900001290 0,[(900001290,.vec false 19 (.sl 19 qg) ([]:List qa))])
 | .inr z=>(.nils,[])
def VM (a0:Int):Tree (Unit⊕Unit):=
 .cond (decide (a0 < ((0:Int)))) (
 .no) <|
 .chk (qz a0) <|
 .cond (decide (((0:Int)) < a0)) (
 .chk (0 < a0∧a0.toNat * 56≤zi) <|
 .ret (.inl ())) <|
 .ret (.inr ())
def ZP (a0:Int):Option (Unit⊕Unit):=(VM a0).run some
def qnh:List (Nat×qG):=[]
def qdp:Ent:=smF ⟨129,[],[.k .nils,.x (.i .i64)],[],[]⟩ [(.i .i64)] (Unit⊕Unit) (fun x=>ZP x.1) (csS cs1) fun _=>qno
theorem qk0:q9 Tryz.prog (qdp):=
 q0 (H:=qnf) (L:=qQ (qnh)) (ts:=[(.i .i64)]) (T:=fun x=>VM x.1) 0 qEn (qkf 0) (qu (by kernel_rfl) trivial) (rg0 (by kernel_rfl)) fun x=>by kernel_rfl
noncomputable def qcG:Code:=Tryz.f112.body.getD .skip
theorem qD2:FnF Tryz.prog 112 Tryz.f112 qcG:=⟨qj,by kernel_rfl,by kernel_rfl,by kernel_rfl⟩
def Ze:TH:={ live:=[(0,[0]),(1,[0,3]),(2,[0,3,9,10,11]),(3,[0,3,9,10,11,12]),(4,[0,3,5,9,10,11]),(5,[0,3,9,10,11]),(6,[0,3,9,10,11,20]),(7,[0,3,9,10,11]),(8,[0,3,9,10,11]),(9,[0,6]),(10,[6,25,26,27]),(11,[6,25,26,27,28]),(12,[6,8,25,26,27]),(13,[6,25,26,27]),(14,[6,25,26,27]),(15,[2])],raw:=[129],fresh:=[24],nil:=[(9,[⟨.sl 6,900001290,(.sl 19 qg)⟩])] }
def WE (N:Nat):List Ent:=[qdp]
theorem VZ (N:Nat):qT Tryz.prog (WE N):=⟨qk0,trivial⟩
abbrev Zu:=List (List qa)×List (List qa)×Int
abbrev j9:=Int×Int×Bool
def v8 (f:Zu) (y:j9):Ex×TSt:=(.exit 0,⟨0,36,[],[(0,.tv (.sl 1 (.sl 19 qg)) f.1),(3,xi y.1),(9,.tv (.sl 1 (.sl 19 qg)) f.2.1),(10,xi f.2.2),(11,xi y.2.1),(12,xb y.2.2)],[],false,[]⟩)
def qgU (N:Nat):List (Nat×qG):=[]
abbrev v9:=Int×Int
def KA:SP:=⟨0,36,[],[(0,.x (.sl 1 (.sl 19 qg))),(3,.x (.i .i64)),(9,.x (.sl 1 (.sl 19 qg))),(10,.x (.i .i64)),(11,.x (.i .i64))],[],false,[]⟩
def qge (f:Zu) (v:v9):TSt:=jh KA [dv (.sl 1 (.sl 19 qg)) f.1,dv (.i .i64) v.1,dv (.sl 1 (.sl 19 qg)) f.2.1,dv (.i .i64) f.2.2,dv (.i .i64) v.2]
def Zz (N:Nat) (s0_3:List (List qa)) (s9_3:List (List qa)) (s10_3:Int) (v:v9):Tree (v9⊕j9):=
 .cond (decide (v.2 < s10_3)) (
 .bind (zl s9_3 v.2) fun e1=>
 .chk (qz (v.1 + ((e1.length:Nat):Int))) <|
 .cond (decide ((v.1 + ((e1.length:Nat):Int)) < 0)) (
 .no) <|
 .chk (qz (v.2 + 1)) <|
 .ret (.inl (v.1 + ((e1.length:Nat):Int),v.2 + 1))) <|
 .ret (.inr (v.1,v.2,decide (v.2 < s10_3)))
def KO (N n:Nat) (f:Zu) (v:v9):Option j9:=q6 (Zz N f.1 f.2.1 f.2.2) some n v
theorem qgr (N:Nat) (f:Zu) (n:Nat) (v:v9) (y:j9) (h:KO N n f v=some y):LG Tryz.prog Ze 112 (q8 qcG 3) (qge f v) (v8 f y):=
 zQ qj (E:=WE N) (L:=qQ (qgU N)) (st:=v8 f) (g:=some) (R:=v8 f) (VZ N) (qu (by kernel_rfl) trivial) (rg0 (by kernel_rfl)) (fun v=>by kernel_rfl) (zg (st:=v8 f) fun y=>by rfl) n v y h
def X0 (N:Nat) (s0_3:List (List qa)) (s9_3:List (List qa)) (s10_3:Int) (s3_3:Int) (s11_3:Int):Option j9:=KO N N (s0_3,s9_3,s10_3) (s3_3,s11_3)
def KQ (N:Nat):qG:=smL KA [(.sl 1 (.sl 19 qg)),(.i .i64),(.sl 1 (.sl 19 qg)),(.i .i64),(.i .i64)] j9 (fun x=>X0 N x.1 x.2.2.1 x.2.2.2.1 x.2.1 x.2.2.2.2.1) cs1 fun x=>v8 (x.1,x.2.2.1,x.2.2.2.1)
theorem qfl (N:Nat):vJ Tryz.prog Ze 112 (q8 qcG 3) (KQ N):=jk fun x z h=>qgr N (x.1,x.2.2.1,x.2.2.2.1) N (x.2.1,x.2.2.2.2.1) z h
abbrev Q7:=List (List qa)×Int
abbrev jT:=List qa×Int×Bool
def vM (f:Q7) (y:jT):Ex×TSt:=(.exit 2,⟨0,36,[],[(6,.v 900001290 y.1.length),(25,.tv (.sl 1 (.sl 19 qg)) f.1),(26,xi f.2),(27,xi y.2.1),(28,xb y.2.2)],[(900001290,.vec false 19 (.sl 19 qg) (y.1:List qa))],false,[]⟩)
def qfe (N:Nat):List (Nat×qG):=[]
abbrev vQ:=List qa×Int
def Kc:SP:=⟨0,36,[],[(6,.vs 900001290),(25,.x (.sl 1 (.sl 19 qg))),(26,.x (.i .i64)),(27,.x (.i .i64))],[(900001290,.vec false 19)],false,[]⟩
def qe8 (f:Q7) (v:vQ):TSt:=jh Kc [dv (.sl 19 qg) v.1,dv (.sl 1 (.sl 19 qg)) f.1,dv (.i .i64) f.2,dv (.i .i64) v.2]
def Q6 (N:Nat) (s25_11:List (List qa)) (s26_11:Int) (v:vQ):Tree (vQ⊕jT):=
 .cond (decide (v.2 < s26_11)) (
 .bind (zl s25_11 v.2) fun e1=>
 .chk (Vt v.1.length v.1.length ((v.1++e1).length) 56) <|
 .chk (qz (v.2 + 1)) <|
 .ret (.inl (v.1++e1,v.2 + 1))) <|
 .ret (.inr (v.1,v.2,decide (v.2 < s26_11)))
def Kb (N n:Nat) (f:Q7) (v:vQ):Option jT:=q6 (Q6 N f.1 f.2) some n v
theorem qfi (N:Nat) (f:Q7) (n:Nat) (v:vQ) (y:jT) (h:Kb N n f v=some y):LG Tryz.prog Ze 112 (q8 qcG 11) (qe8 f v) (vM f y):=
 zQ qj (E:=WE N) (L:=qQ (qfe N)) (st:=vM f) (g:=some) (R:=vM f) (VZ N) (qu (by kernel_rfl) trivial) (rg0 (by kernel_rfl)) (fun v=>by kernel_rfl) (zg (st:=vM f) fun y=>by rfl) n v y h
def ZR (N:Nat) (s25_11:List (List qa)) (s26_11:Int) (o_11:List qa) (s27_11:Int):Option jT:=Kb N N (s25_11,s26_11) (o_11,s27_11)
def Kk (N:Nat):qG:=smL Kc [(.sl 19 qg),(.sl 1 (.sl 19 qg)),(.i .i64),(.i .i64)] jT (fun x=>ZR N x.2.1 x.2.2.1 x.1 x.2.2.2.1) cs1 fun x=>vM (x.2.1,x.2.2.1)
theorem qeH (N:Nat):vJ Tryz.prog Ze 112 (q8 qcG 11) (Kk N):=jk fun x z h=>qfi N (x.2.1,x.2.2.1) N (x.1,x.2.2.2.1) z h
def qkl (z:List qa):TV×THp:=(.tv (.sl 19 qg) z,[])
def Wz (N:Nat) (a0:List (List qa)):Tree (List qa):=
 .bind (X0 N a0 a0 ((a0.length:Nat):Int) 0 0) fun z1=>
 .bind (ZP z1.1) fun r2=>
 .sum r2 (fun r3=>
 .bind (jV [(([]:List qa).length,0)] (ZR N a0 ((a0.length:Nat):Int) [] 0)) fun z4=>
 .chk (z4.1.length=z4.1.length) <|
 .ret z4.1) fun r3=>
 .bind (jV [(([]:List qa).length,0)] (ZR N a0 ((a0.length:Nat):Int) [] 0)) fun z4=>
 .chk (z4.1.length=z4.1.length) <|
 .ret z4.1
def VL (N:Nat) (a0:List (List qa)):Option (List qa):=(Wz N a0).run some
def qj7 (N:Nat):List (Nat×qG):=[(3,KQ N),(11,Kk N)]
def qbK (N:Nat):Ent:=smF ⟨112,[],[.x (.sl 1 (.sl 19 qg))],[],[]⟩ [(.sl 1 (.sl 19 qg))] (List qa) (fun x=>VL N x.1) cs1 fun _=>qkl
theorem qi3 (N:Nat):q9 Tryz.prog (qbK N):=
 q0 (H:=Ze) (L:=qQ (qj7 N)) (ts:=[(.sl 1 (.sl 19 qg))]) (T:=fun x=>Wz N x.1) 0 qD2 (VZ N) (qu (by kernel_rfl) ⟨qfl N,qeH N,trivial⟩) (rg0 (by kernel_rfl)) fun x=>by kernel_rfl
noncomputable def qDM:Code:=Tryz.f103.body.getD .skip
theorem qkU:FnF Tryz.prog 103 Tryz.f103 qDM:=⟨qj,by kernel_rfl,by kernel_rfl,by kernel_rfl⟩
def qiY:TH:={ live:=[(0,[0]),(1,[0,4]),(2,[2]),(3,[2])],vecs:=[5] }
def qiQ (N:Nat):List Ent:=[]
theorem qgo (N:Nat):qT Tryz.prog (qiQ N):=trivial
def qby (a0:List qb) (z:Unit):TV×THp:=(.tv (.sl 4 qp) ((([]:List qb))++a0:List qb),[])
def XR (a0:List qb):Tree (Unit):=
 .chk (List.isEmpty a0=false) <|
 .chk (Vt ((([]:List qb)).length) 0 (((([]:List qb))++a0).length) 40) <|
 .chk (((([]:List qb))++a0).length=((([]:List qb))++a0).length) <|
 .ret ()
def Yc (a0:List qb):Option (Unit):=(XR a0).run some
def qiD:List (Nat×qG):=[]
theorem qgI:qdE Tryz.prog ⟨103,[],[.x (.sl 4 qp)],[],[]⟩ [(.sl 4 qp)] (fun x=>XR x.1) (fun x=>qby x.1):=
 qa5 (H:=qiY) (L:=qQ (qiD)) 0 qkU (qgo 0) (qu (by kernel_rfl) trivial) (rg0 (by kernel_rfl)) fun x=>by kernel_rfl
def qf9:TH:={ live:=[(0,[0]),(1,[0,4]),(2,[2]),(3,[2])],vecs:=[5] }
def qgG (N:Nat):List Ent:=[]
theorem qed (N:Nat):qT Tryz.prog (qgG N):=trivial
def qg2 (z:Unit):TV×THp:=(.tv (.sl 4 qp) ([]:List qb),[])
def KH:Tree (Unit):=
 .chk (0=0) <|
 .chk (0=0) <|
 .ret ()
def qi4:Option (Unit):=(KH).run some
def qgi:List (Nat×qG):=[]
theorem qeu:qdE Tryz.prog ⟨103,[],[.k (.es 0)],[],[]⟩ [] (fun x=>KH) (fun _=>qg2):=
 qa5 (H:=qf9) (L:=qQ (qgi)) 0 qkU (qed 0) (qu (by kernel_rfl) trivial) (rg0 (by kernel_rfl)) fun x=>by kernel_rfl
def qgD:TH:={ live:=[(0,[0]),(1,[0,4]),(2,[2]),(3,[2])],vecs:=[5] }
def qgg (N:Nat):List Ent:=[]
theorem qen (N:Nat):qT Tryz.prog (qgg N):=trivial
def qg7 (z:Unit):TV×THp:=(.tv (.sl 4 qp) ([]:List qb),[])
def Kw:Tree (Unit):=
 .ret ()
def qiP:Option (Unit):=(Kw).run some
def qgQ:List (Nat×qG):=[]
theorem qei:qdE Tryz.prog ⟨103,[],[.k (.es 1)],[],[]⟩ [] (fun x=>Kw) (fun _=>qg7):=
 qa5 (H:=qgD) (L:=qQ (qgQ)) 0 qkU (qen 0) (qu (by kernel_rfl) trivial) (rg0 (by kernel_rfl)) fun x=>by kernel_rfl
def KK (z:Unit):Unit:=()
def qgB (z:Unit):Unit:=()
def v3 (a0:List qb):Option (Unit):=
 bif a0.isEmpty then
  (qi4).bind fun z0=>(qiP).bind fun z1=>chk (KK z0=qgB z1) (some (KK z0))
 else Yc a0
def qap:Ent:=smF ⟨103,[],[.x (.sl 4 qp)],[],[]⟩ [(.sl 4 qp)] (Unit) (fun x=>v3 x.1) cs1 fun x=>qby x.1
theorem qga:q9 Tryz.prog (qap):=qhS fun x z h l=>by
 obtain ⟨a0,_⟩:=x
 replace h:v3 a0=some z:=h
 unfold v3 at h
 rcases qkM h with ⟨e,h2⟩ | ⟨_,h2⟩<;>clear h
 ·have e:=List.isEmpty_iff.1 e
  subst e
  obtain ⟨z0,c0,h2⟩:=bind_some h2
  obtain ⟨z1,c1,h2⟩:=bind_some h2
  obtain ⟨hE,h2⟩:=qjp h2
  obtain rfl:=Option.some.inj h2
  refine qkH (t:=(.sl 4 qp)) (x:=[]) rfl (TV.ers []) (TV.ers []) (by exact qeu (()) _ c0 l) ?_
  rw [hE]
  exact (by exact qei (()) _ c1 l)
 ·exact qgI (a0,()) z h2 l
noncomputable def qFo:Code:=Tryz.f75.body.getD .skip
theorem qHv:FnF Tryz.prog 75 Tryz.f75 qFo:=⟨qj,by kernel_rfl,by kernel_rfl,by kernel_rfl⟩
def qBH:TH:={ live:=[(0,[1,2]),(1,[1,2]),(2,[2])],nil:=[(0,[⟨.ob 20 [2],25,(.sl 4 qp)⟩])] }
def qAl (N:Nat):List Ent:=[qap]
theorem qxB (N:Nat):qT Tryz.prog (qAl N):=⟨qga,trivial⟩
def qCa (a0:qa) (z:Unit):TV×THp:=(.tv qg (qa.mk (qa.ID a0) (qa.qX a0) ((([]:List qb))++(qa.F a0))),[])
def qdI (a0:qa):Tree (Unit):=
 .bind (v3 (qa.F a0)) fun r1=>
 .ret ()
def K_ (a0:qa):Option (Unit):=(qdI a0).run some
def qBo:List (Nat×qG):=[]
def qi0:Ent:=smF ⟨75,[],[.x qg],[],[]⟩ [qg] (Unit) (fun x=>K_ x.1) cs1 fun x=>qCa x.1
theorem qoa:q9 Tryz.prog (qi0):=
 q0 (H:=qBH) (L:=qQ (qBo)) (ts:=[qg]) (T:=fun x=>qdI x.1) 0 qHv (qxB 0) (qu (by kernel_rfl) trivial) (rg0 (by kernel_rfl)) fun x=>by kernel_rfl
noncomputable def qEu:Code:=Tryz.f167.body.getD .skip
theorem qDL:FnF Tryz.prog 167 Tryz.f167 qEu:=⟨qj,by kernel_rfl,by kernel_rfl,by kernel_rfl⟩
def qlZ:TH:={ live:=[(0,[2,3,4]),(1,[2,3,4,7]),(2,[6]),(3,[12]),(4,[6]),(5,[6])] }
def qkE (N:Nat):List Ent:=[W8 N]
theorem qiE (N:Nat):qT Tryz.prog (qkE N):=⟨K6 N,trivial⟩
def ql1 (z:Int):TV×THp:=(xi z,[])
def W3 (N:Nat) (a0:qe) (a1:qe):Tree (Int):=
 .bind (QL N a0 a1) fun r1=>
 .cond r1 (
 .ret (-1)) <|
 .bind (QL N a1 a0) fun r2=>
 .cond r2 (
 .ret 1) <|
 .ret 0
def XV (N:Nat) (a0:qe) (a1:qe):Option (Int):=(W3 N a0 a1).run some
def ql3 (N:Nat):List (Nat×qG):=[]
def qcw (N:Nat):Ent:=smF ⟨167,[],[.x qn,.x qn,.fn 109 [] []],[],[]⟩ [qn,qn] (Int) (fun x=>XV N x.1 x.2.1) cs1 fun _=>ql1
theorem qj8 (N:Nat):q9 Tryz.prog (qcw N):=
 q0 (H:=qlZ) (L:=qQ (ql3 N)) (ts:=[qn,qn]) (T:=fun x=>W3 N x.1 x.2.1) 0 qDL (qiE N) (qu (by kernel_rfl) trivial) (rg0 (by kernel_rfl)) fun x=>by kernel_rfl
noncomputable def qEF:Code:=Tryz.f166.body.getD .skip
theorem qCQ:FnF Tryz.prog 166 Tryz.f166 qEF:=⟨qj,by kernel_rfl,by kernel_rfl,by kernel_rfl⟩
def qtN:TH:={ live:=[(0,[0,1]),(1,[2])] }
def quJ (N:Nat):List Ent:=[qcw N]
theorem qpV (N:Nat):qT Tryz.prog (quJ N):=⟨qj8 N,trivial⟩
def qtW (a0:qc) (a1:qc) (z:Int):TV×THp:=(xi z,[(20,.cell false (.tv qq a0)),(30,.cell false (.tv qq a1))])
def qc4 (N:Nat) (a0:qc) (a1:qc):Tree (Int):=
 .bind (XV N (qc.S a0) (qc.S a1)) fun r1=>
 .ret r1
def qci (N:Nat) (a0:qc) (a1:qc):Option (Int):=(qc4 N a0 a1).run some
def qun (N:Nat):List (Nat×qG):=[]
def qj4 (N:Nat):Ent:=smF ⟨166,[],[],[.k (.p 20 [] 0),.k (.p 30 [] 0)],[(20,.cell false (.x qq)),(30,.cell false (.x qq))]⟩ [qq,qq] (Int) (fun x=>qci N x.1 x.2.1) cs1 fun x=>qtW x.1 x.2.1
theorem qr8 (N:Nat):q9 Tryz.prog (qj4 N):=
 q0 (H:=qtN) (L:=qQ (qun N)) (ts:=[qq,qq]) (T:=fun x=>qc4 N x.1 x.2.1) 0 qCQ (qpV N) (qu (by kernel_rfl) trivial) (rg0 (by kernel_rfl)) fun x=>by kernel_rfl
noncomputable def qF6:Code:=Tryz.f29.body.getD .skip
theorem qGn:FnF Tryz.prog 29 Tryz.f29 qF6:=⟨qj,by kernel_rfl,by kernel_rfl,by kernel_rfl⟩
def qGW:TH:={ live:=[(0,[0,2]),(1,[2])] }
def qFz (N:Nat):List Ent:=[qtJ N]
theorem qBC (N:Nat):qT Tryz.prog (qFz N):=⟨qpX N,trivial⟩
def qFU (z:Vector UInt8 32):TV×THp:=(.tv (.ba 32) z,[])
def qoB (N:Nat) (a0:List UInt8):Tree (Vector UInt8 32):=
 .chk (qmB (a0:List UInt8).length) <|
 .bind (qd2 N a0) fun r1=>
 .ret r1
def qhz (N:Nat) (a0:List UInt8):Option (Vector UInt8 32):=(qoB N a0).run some
def qF_ (N:Nat):List (Nat×qG):=[]
def qo4 (N:Nat):Ent:=smF ⟨29,[],[.x .s],[],[]⟩ [.s] (Vector UInt8 32) (fun x=>qhz N x.1) cs1 fun _=>qFU
theorem qty (N:Nat):q9 Tryz.prog (qo4 N):=
 q0 (H:=qGW) (L:=qQ (qF_ N)) (ts:=[.s]) (T:=fun x=>qoB N x.1) 0 qGn (qBC N) (qu (by kernel_rfl) trivial) (rg0 (by kernel_rfl)) fun x=>by kernel_rfl
noncomputable def qDF:Code:=Tryz.f170.body.getD .skip
theorem qCv:FnF Tryz.prog 170 Tryz.f170 qDF:=⟨qj,by kernel_rfl,by kernel_rfl,by kernel_rfl⟩
def qBl:TH:={ live:=[(0,[2,3]),(1,[4])],dec:=[8] }
def qB6 (N:Nat):List Ent:=[WM]
theorem qwh (N:Nat):qT Tryz.prog (qB6 N):=⟨K9,trivial⟩
def qAj (z:Bool):TV×THp:=(xb z,[])
def qiy (a0:Vector UInt8 32) (a1:Vector UInt8 32):Tree (Bool):=
 .cond (!(eqE (.ba 32) a0 a1)) (
 .bind (Wb a0.toList a1.toList) fun r1=>
 .ret (decide (r1 < ((0:Int))))) <|
 .ret false
def qe0 (a0:Vector UInt8 32) (a1:Vector UInt8 32):Option (Bool):=(qiy a0 a1).run some
def qAm:List (Nat×qG):=[]
def qq3:Ent:=smF ⟨170,[],[.x (.ba 32),.x (.ba 32)],[],[]⟩ [(.ba 32),(.ba 32)] (Bool) (fun x=>qe0 x.1 x.2.1) cs1 fun _=>qAj
theorem qyY:q9 Tryz.prog (qq3):=
 q0 (H:=qBl) (L:=qQ (qAm)) (ts:=[(.ba 32),(.ba 32)]) (T:=fun x=>qiy x.1 x.2.1) 0 qCv (qwh 0) (qu (by kernel_rfl) trivial) (rg0 (by kernel_rfl)) fun x=>by kernel_rfl
noncomputable def qCD:Code:=Tryz.f169.body.getD .skip
theorem qDK:FnF Tryz.prog 169 Tryz.f169 qCD:=⟨qj,by kernel_rfl,by kernel_rfl,by kernel_rfl⟩
def qkm:TH:={ live:=[(0,[2,3,4]),(1,[2,3,4,7]),(2,[6]),(3,[12]),(4,[6]),(5,[6])] }
def qj5 (N:Nat):List Ent:=[qq3]
theorem qhK (N:Nat):qT Tryz.prog (qj5 N):=⟨qyY,trivial⟩
def qj_ (z:Int):TV×THp:=(xi z,[])
def Wx (a0:Vector UInt8 32) (a1:Vector UInt8 32):Tree (Int):=
 .bind (qe0 a0 a1) fun r1=>
 .cond r1 (
 .ret (-1)) <|
 .bind (qe0 a1 a0) fun r2=>
 .cond r2 (
 .ret 1) <|
 .ret 0
def VJ (a0:Vector UInt8 32) (a1:Vector UInt8 32):Option (Int):=(Wx a0 a1).run some
def qke:List (Nat×qG):=[]
def qbN:Ent:=smF ⟨169,[],[.x (.ba 32),.x (.ba 32),.fn 170 [] []],[],[]⟩ [(.ba 32),(.ba 32)] (Int) (fun x=>VJ x.1 x.2.1) cs1 fun _=>qj_
theorem qjq:q9 Tryz.prog (qbN):=
 q0 (H:=qkm) (L:=qQ (qke)) (ts:=[(.ba 32),(.ba 32)]) (T:=fun x=>Wx x.1 x.2.1) 0 qDK (qhK 0) (qu (by kernel_rfl) trivial) (rg0 (by kernel_rfl)) fun x=>by kernel_rfl
noncomputable def qCW:Code:=Tryz.f168.body.getD .skip
theorem qDu:FnF Tryz.prog 168 Tryz.f168 qCW:=⟨qj,by kernel_rfl,by kernel_rfl,by kernel_rfl⟩
def qtV:TH:={ live:=[(0,[0,1]),(1,[2])] }
def qur (N:Nat):List Ent:=[qo4 N,qbN]
theorem qqq (N:Nat):qT Tryz.prog (qur N):=⟨qty N,qjq,trivial⟩
def quz (a0:qc) (a1:qc) (z:Int):TV×THp:=(xi z,[(20,.cell false (.tv qq a0)),(30,.cell false (.tv qq a1))])
def qdk (N:Nat) (a0:qc) (a1:qc):Tree (Int):=
 .bind (qhz N (qc.V a0)) fun r1=>
 .bind (qhz N (qc.V a1)) fun r2=>
 .bind (VJ r1 r2) fun r3=>
 .ret r3
def qcd (N:Nat) (a0:qc) (a1:qc):Option (Int):=(qdk N a0 a1).run some
def quy (N:Nat):List (Nat×qG):=[]
def qjZ (N:Nat):Ent:=smF ⟨168,[],[],[.k (.p 20 [] 0),.k (.p 30 [] 0)],[(20,.cell false (.x qq)),(30,.cell false (.x qq))]⟩ [qq,qq] (Int) (fun x=>qcd N x.1 x.2.1) cs1 fun x=>quz x.1 x.2.1
theorem qrE (N:Nat):q9 Tryz.prog (qjZ N):=
 q0 (H:=qtV) (L:=qQ (quy N)) (ts:=[qq,qq]) (T:=fun x=>qdk N x.1 x.2.1) 0 qDu (qqq N) (qu (by kernel_rfl) trivial) (rg0 (by kernel_rfl)) fun x=>by kernel_rfl
noncomputable def qEQ:Code:=Tryz.f175.body.getD .skip
theorem qCm:FnF Tryz.prog 175 Tryz.f175 qEQ:=⟨qj,by kernel_rfl,by kernel_rfl,by kernel_rfl⟩
def qkB:TH:={ live:=[(0,[0]),(1,[2])] }
def qk_ (N:Nat):List Ent:=[]
theorem qjr (N:Nat):qT Tryz.prog (qk_ N):=trivial
def qkw (a0:List UInt8) (z:Unit):TV×THp:=(xb (!decide (a0=a0)),[])
def qcp (a0:List UInt8):Tree (Unit):=
 .ret ()
def XH (a0:List UInt8):Option (Unit):=(qcp a0).run some
def qku:List (Nat×qG):=[]
def qcs:Ent:=smF ⟨175,[],[.x .s],[],[]⟩ [.s] (Unit) (fun x=>XH x.1) cs1 fun x=>qkw x.1
theorem qkp:q9 Tryz.prog (qcs):=
 q0 (H:=qkB) (L:=qQ (qku)) (ts:=[.s]) (T:=fun x=>qcp x.1) 0 qCm (qjr 0) (qu (by kernel_rfl) trivial) (rg0 (by kernel_rfl)) fun x=>by kernel_rfl
noncomputable def qD7:Code:=Tryz.f172.body.getD .skip
theorem qDZ:FnF Tryz.prog 172 Tryz.f172 qD7:=⟨qj,by kernel_rfl,by kernel_rfl,by kernel_rfl⟩
def qiL:TH:={ live:=[(0,[0,1]),(1,[0,1,5]),(2,[0,1,5,6]),(3,[0,1,6,11]),(4,[12]),(5,[4]),(6,[4]),(7,[0,1,13]),(8,[4]),(9,[0,1,16]),(10,[4]),(11,[19]),(12,[4]),(13,[4])] }
def qjh (N:Nat):List Ent:=[qcs]
theorem qgz (N:Nat):qT Tryz.prog (qjh N):=⟨qkp,trivial⟩
def qiR (z:Int):TV×THp:=(xi z,[])
def XE (a0:List UInt8) (a1:List UInt8):Tree (Int):=
 .bind (XH a0) fun r1=>
 .bind (XH a1) fun r2=>
 .cond (!decide (a0=a0)) (
 .cond (!decide (a1=a1)) (
 .ret 0) <|
 .ret (-1)) <|
 .cond (!decide (a1=a1)) (
 .ret 1) <|
 .cond (Op.bytesLess a0 a1) (
 .ret (-1)) <|
 .cond (!(Op.bytesLess a0 a1||decide (a0=a1))) (
 .ret 1) <|
 .ret 0
def Vf (a0:List UInt8) (a1:List UInt8):Option (Int):=(XE a0 a1).run some
def qiJ:List (Nat×qG):=[]
def qbB:Ent:=smF ⟨172,[],[.x .s,.x .s],[],[]⟩ [.s,.s] (Int) (fun x=>Vf x.1 x.2.1) cs1 fun _=>qiR
theorem qhe:q9 Tryz.prog (qbB):=
 q0 (H:=qiL) (L:=qQ (qiJ)) (ts:=[.s,.s]) (T:=fun x=>XE x.1 x.2.1) 0 qDZ (qgz 0) (qu (by kernel_rfl) trivial) (rg0 (by kernel_rfl)) fun x=>by kernel_rfl
noncomputable def qCS:Code:=Tryz.f171.body.getD .skip
theorem qCs:FnF Tryz.prog 171 Tryz.f171 qCS:=⟨qj,by kernel_rfl,by kernel_rfl,by kernel_rfl⟩
def qub:TH:={ live:=[(0,[0,1]),(1,[2])] }
def quK (N:Nat):List Ent:=[qbB]
theorem qp0 (N:Nat):qT Tryz.prog (quK N):=⟨qhe,trivial⟩
def quG (a0:qc) (a1:qc) (z:Int):TV×THp:=(xi z,[(20,.cell false (.tv qq a0)),(30,.cell false (.tv qq a1))])
def qdl (a0:qc) (a1:qc):Tree (Int):=
 .bind (Vf (qc.V a0) (qc.V a1)) fun r1=>
 .ret r1
def qcc (a0:qc) (a1:qc):Option (Int):=(qdl a0 a1).run some
def quu:List (Nat×qG):=[]
def qjQ:Ent:=smF ⟨171,[],[],[.k (.p 20 [] 0),.k (.p 30 [] 0)],[(20,.cell false (.x qq)),(30,.cell false (.x qq))]⟩ [qq,qq] (Int) (fun x=>qcc x.1 x.2.1) cs1 fun x=>quG x.1 x.2.1
theorem qr5:q9 Tryz.prog (qjQ):=
 q0 (H:=qub) (L:=qQ (quu)) (ts:=[qq,qq]) (T:=fun x=>qdl x.1 x.2.1) 0 qCs (qp0 0) (qu (by kernel_rfl) trivial) (rg0 (by kernel_rfl)) fun x=>by kernel_rfl
noncomputable def qaK:Code:=Tryz.f159.body.getD .skip
theorem qCG:FnF Tryz.prog 159 Tryz.f159 qaK:=⟨qj,by kernel_rfl,by kernel_rfl,by kernel_rfl⟩
def Wt:TH:={ live:=[(0,[2,3]),(1,[5]),(2,[13,14]),(3,[13,14,15]),(4,[7,13,14]),(5,[8,13,14]),(6,[8,13,14,20]),(7,[4]),(8,[13,14]),(9,[4])] }
def KL (N:Nat):List Ent:=[qj4 N,qjZ N,qjQ]
theorem Wl (N:Nat):qT Tryz.prog (KL N):=⟨qr8 N,qrE N,qr5,trivial⟩
abbrev zu:=qc×qc
abbrev zw:=Bool⊕Unit
def zA (f:zu):zw→Ex×TSt
 | .inl y=>(.ret,⟨0,24,[],[(4,xb y)],[],false,[]⟩)
 | .inr y=>(.exit 0,⟨0,24,[],[(13,.ag [.fn (.func 166) [] [.p 20 [] 0,.p 30 [] 0],.fn (.func 168) [] [.p 20 [] 0,.p 30 [] 0],.fn (.func 171) [] [.p 20 [] 0,.p 30 [] 0]]),(14,.ic .i64 3),(15,.bc false)],[(20,.cell false (.tv qq f.1)),(30,.cell false (.tv qq f.2))],false,[]⟩)
def YS (N:Nat):List (Nat×qG):=[]
abbrev QX:=Unit
def qnA:SP:=⟨0,24,[],[(13,.ag [.fn 166 [] [.k (.p 20 [] 0),.k (.p 30 [] 0)],.fn 168 [] [.k (.p 20 [] 0),.k (.p 30 [] 0)],.fn 171 [] [.k (.p 20 [] 0),.k (.p 30 [] 0)]]),(14,.k (.ic .i64 3))],[(20,.cell false (.x qq)),(30,.cell false (.x qq))],false,[]⟩
def qdo (f:zu) (v:QX):TSt:=jh qnA [dv qq f.1,dv qq f.2]
def Ja (N:Nat) (o_3:qc) (o_3_2:qc) (v:QX):Tree (QX⊕zw):=
 .ret (.inr (.inr ()))
def qdr (N n:Nat) (f:zu) (v:QX):Option zw:=q6 (Ja N f.1 f.2) some n v
theorem qng (N:Nat) (f:zu) (n:Nat) (v:QX) (y:zw) (h:qdr N n f v=some y):LG Tryz.prog Wt 159 (q8 qaK 3) (qdo f v) (zA f y):=
 zQ qj (E:=KL N) (L:=qQ (YS N)) (st:=zA f) (g:=some) (R:=zA f) (Wl N) (qu (by kernel_rfl) trivial) (rg0 (by kernel_rfl)) (fun v=>by kernel_rfl) (zg (st:=zA f) fun y=>by rcases y with _ | _<;>rfl) n v y h
abbrev Q0:=Unit
def qnd:SP:=⟨0,24,[],[(13,.ag [.fn 166 [] [.k (.p 20 [] 0),.k (.p 30 [] 0)],.fn 168 [] [.k (.p 20 [] 0),.k (.p 30 [] 0)],.fn 171 [] [.k (.p 20 [] 0),.k (.p 30 [] 0)]]),(14,.k (.ic .i64 2))],[(20,.cell false (.x qq)),(30,.cell false (.x qq))],false,[]⟩
def qdt (f:zu) (v:Q0):TSt:=jh qnd [dv qq f.1,dv qq f.2]
abbrev Kr:=QX⊕zw
def QW (N:Nat) (o_3:qc) (o_3_2:qc) (v:Q0):Tree (Q0⊕Kr):=
 .chk (0≤(2:Int)∧(2:Int) < ((3:Nat):Int)) <|
 .bind (qcc o_3 o_3_2) fun r1=>
 .cond (!decide (r1=((0:Int)))) (
 .ret (.inr (.inr ((.inl (decide (r1 < ((0:Int))))))))) <|
 .ret (.inr (.inl ()))
def Je (N n:Nat) (f:zu):Kr→Option zw
 | .inl w=>qdr N n f w
 | .inr w=>some w
def qnz (f:zu):Kr→Ex×TSt
 | .inl w=>(.normal,qdo f w)
 | .inr w=>zA f w
def qdx (N n:Nat) (f:zu) (v:Q0):Option zw:=q6 (QW N f.1 f.2) (Je N n f) n v
theorem qne (N:Nat) (f:zu) (n:Nat) (v:Q0) (y:zw) (h:qdx N n f v=some y):LG Tryz.prog Wt 159 (q8 qaK 3) (qdt f v) (zA f y):=
 zQ qj (E:=KL N) (L:=qQ (YS N)) (st:=qnz f) (g:=(Je N n f)) (R:=zA f) (Wl N) (qu (by kernel_rfl) trivial) (rg0 (by kernel_rfl)) (fun v=>by kernel_rfl) (fun w y h=>by
 rcases w with w | w
 ·exact qng N f n w y h
 ·exact zg (st:=zA f) (fun y=>by rcases y with _ | _<;>rfl) w y h
) n v y h
abbrev QY:=Unit
def qnw:SP:=⟨0,24,[],[(13,.ag [.fn 166 [] [.k (.p 20 [] 0),.k (.p 30 [] 0)],.fn 168 [] [.k (.p 20 [] 0),.k (.p 30 [] 0)],.fn 171 [] [.k (.p 20 [] 0),.k (.p 30 [] 0)]]),(14,.k (.ic .i64 1))],[(20,.cell false (.x qq)),(30,.cell false (.x qq))],false,[]⟩
def qdu (f:zu) (v:QY):TSt:=jh qnw [dv qq f.1,dv qq f.2]
abbrev Kq:=Q0⊕zw
def Q3 (N:Nat) (o_3:qc) (o_3_2:qc) (v:QY):Tree (QY⊕Kq):=
 .chk (0≤(1:Int)∧(1:Int) < ((3:Nat):Int)) <|
 .bind (qcd N o_3 o_3_2) fun r1=>
 .cond (!decide (r1=((0:Int)))) (
 .ret (.inr (.inr ((.inl (decide (r1 < ((0:Int))))))))) <|
 .ret (.inr (.inl ()))
def Jc (N n:Nat) (f:zu):Kq→Option zw
 | .inl w=>qdx N n f w
 | .inr w=>some w
def qnl (f:zu):Kq→Ex×TSt
 | .inl w=>(.normal,qdt f w)
 | .inr w=>zA f w
def qdy (N n:Nat) (f:zu) (v:QY):Option zw:=q6 (Q3 N f.1 f.2) (Jc N n f) n v
theorem qm4 (N:Nat) (f:zu) (n:Nat) (v:QY) (y:zw) (h:qdy N n f v=some y):LG Tryz.prog Wt 159 (q8 qaK 3) (qdu f v) (zA f y):=
 zQ qj (E:=KL N) (L:=qQ (YS N)) (st:=qnl f) (g:=(Jc N n f)) (R:=zA f) (Wl N) (qu (by kernel_rfl) trivial) (rg0 (by kernel_rfl)) (fun v=>by kernel_rfl) (fun w y h=>by
 rcases w with w | w
 ·exact qne N f n w y h
 ·exact zg (st:=zA f) (fun y=>by rcases y with _ | _<;>rfl) w y h
) n v y h
abbrev V0:=Unit
def qhq:SP:=⟨0,24,[],[(13,.ag [.fn 166 [] [.k (.p 20 [] 0),.k (.p 30 [] 0)],.fn 168 [] [.k (.p 20 [] 0),.k (.p 30 [] 0)],.fn 171 [] [.k (.p 20 [] 0),.k (.p 30 [] 0)]]),(14,.k (.ic .i64 0))],[(20,.cell false (.x qq)),(30,.cell false (.x qq))],false,[]⟩
def qsA (f:zu) (v:V0):TSt:=jh qhq [dv qq f.1,dv qq f.2]
abbrev qb4:=QY⊕zw
def Y6 (N:Nat) (o_3:qc) (o_3_2:qc) (v:V0):Tree (V0⊕qb4):=
 .chk (0≤(0:Int)∧(0:Int) < ((3:Nat):Int)) <|
 .bind (qci N o_3 o_3_2) fun r1=>
 .cond (!decide (r1=((0:Int)))) (
 .ret (.inr (.inr ((.inl (decide (r1 < ((0:Int))))))))) <|
 .ret (.inr (.inl ()))
def qca (N n:Nat) (f:zu):qb4→Option zw
 | .inl w=>qdy N n f w
 | .inr w=>some w
def qr1 (f:zu):qb4→Ex×TSt
 | .inl w=>(.normal,qdu f w)
 | .inr w=>zA f w
def qhV (N n:Nat) (f:zu) (v:V0):Option zw:=q6 (Y6 N f.1 f.2) (qca N n f) n v
theorem qsc (N:Nat) (f:zu) (n:Nat) (v:V0) (y:zw) (h:qhV N n f v=some y):LG Tryz.prog Wt 159 (q8 qaK 3) (qsA f v) (zA f y):=
 zQ qj (E:=KL N) (L:=qQ (YS N)) (st:=qr1 f) (g:=(qca N n f)) (R:=zA f) (Wl N) (qu (by kernel_rfl) trivial) (rg0 (by kernel_rfl)) (fun v=>by kernel_rfl) (fun w y h=>by
 rcases w with w | w
 ·exact qm4 N f n w y h
 ·exact zg (st:=zA f) (fun y=>by rcases y with _ | _<;>rfl) w y h
) n v y h
def qaY (N:Nat) (o_3:qc) (o_3_2:qc):Option zw:=qhV N N (o_3,o_3_2) ()
def qhW (N:Nat):qG:=smL qhq [qq,qq] zw (fun x=>qaY N x.1 x.2.1) (csS cs1) fun x=>zA (x.1,x.2.1)
theorem qqf (N:Nat):vJ Tryz.prog Wt 159 (q8 qaK 3) (qhW N):=jk fun x z h=>qsc N (x.1,x.2.1) N () z h
def qya (z:Bool):TV×THp:=(xb z,[])
def qgy (N:Nat) (a0:qc) (a1:qc):Tree (Bool):=
 .bind (qaY N a0 a1) fun z1=>
 .sum z1 (fun z2=>
 .ret z2) fun z2=>
 .ret false
def qfT (N:Nat) (a0:qc) (a1:qc):Option (Bool):=(qgy N a0 a1).run some
def qyv (N:Nat):List (Nat×qG):=[(3,qhW N)]
def qnU (N:Nat):Ent:=smF ⟨159,[],[.x qq,.x qq],[],[]⟩ [qq,qq] (Bool) (fun x=>qfT N x.1 x.2.1) cs1 fun _=>qya
theorem qw4 (N:Nat):q9 Tryz.prog (qnU N):=
 q0 (H:=Wt) (L:=qQ (qyv N)) (ts:=[qq,qq]) (T:=fun x=>qgy N x.1 x.2.1) 0 qCG (Wl N) (qu (by kernel_rfl) ⟨qqf N,trivial⟩) (rg0 (by kernel_rfl)) fun x=>by kernel_rfl
noncomputable def qEL:Code:=Tryz.f144.body.getD .skip
theorem qEA:FnF Tryz.prog 144 Tryz.f144 qEL:=⟨qj,by kernel_rfl,by kernel_rfl,by kernel_rfl⟩
def qx9:TH:={ live:=[(0,[2,3,4]),(1,[2,3,4,7]),(2,[4]),(3,[4])] }
def qyg (N:Nat):List Ent:=[qnU N]
theorem quB (N:Nat):qT Tryz.prog (qyg N):=⟨qw4 N,trivial⟩
def qyb (z:qc):TV×THp:=(.tv qq z,[])
def qf_ (N:Nat) (a0:qc) (a1:qc):Tree (qc):=
 .bind (qfT N a0 a1) fun r1=>
 .cond r1 (
 .ret a1) <|
 .ret a0
def qfJ (N:Nat) (a0:qc) (a1:qc):Option (qc):=(qf_ N a0 a1).run some
def qyM (N:Nat):List (Nat×qG):=[]
def qoc (N:Nat):Ent:=smF ⟨144,[],[.x qq,.x qq],[],[]⟩ [qq,qq] (qc) (fun x=>qfJ N x.1 x.2.1) cs1 fun _=>qyb
theorem qwg (N:Nat):q9 Tryz.prog (qoc N):=
 q0 (H:=qx9) (L:=qQ (qyM N)) (ts:=[qq,qq]) (T:=fun x=>qf_ N x.1 x.2.1) 0 qEA (quB N) (qu (by kernel_rfl) trivial) (rg0 (by kernel_rfl)) fun x=>by kernel_rfl
noncomputable def qlr:Code:=Tryz.f130.body.getD .skip
theorem qDJ:FnF Tryz.prog 130 Tryz.f130 qlr:=⟨qj,by kernel_rfl,by kernel_rfl,by kernel_rfl⟩
def WY:TH:={ live:=[(0,[0,3]),(1,[0,9,10,11]),(2,[0,9,10,11,12]),(3,[0,5,9,10,11]),(4,[0,5,6,7,9,10,11]),(5,[0,5,6,9,10,11,22]),(6,[0,9,10,11]),(7,[0,9,10,11]),(8,[0,9,10,11])] }
def qcq (N:Nat):List Ent:=[qoc N]
theorem qaQ (N:Nat):qT Tryz.prog (qcq N):=⟨qwg N,trivial⟩
abbrev ZW:=List qb×Int
abbrev vv:=Nat×List (Int×qc×Nat)×Int×Bool
def Qw (f:ZW) (y:vv):Ex×TSt:=(.exit 0,⟨1,36,[250],[(0,.m 250),(9,.tv (.sl 4 qp) f.1),(10,xi f.2),(11,xi y.2.2.1),(12,xb y.2.2.2)],[(250,.map y.1 (.i .i64) qq (y.2.1:List (Int×qc×Nat)))],false,[]⟩)
def qhZ (N:Nat):List (Nat×qG):=[]
abbrev Qs:=Nat×List (Int×qc×Nat)×Int
def qay:SP:=⟨1,36,[250],[(0,.k (.m 250)),(9,.x (.sl 4 qp)),(10,.x (.i .i64)),(11,.x (.i .i64))],[(250,.map (.i .i64) qq)],false,[]⟩
def qia (f:ZW) (v:Qs):TSt:=jh qay [dv .nat v.1,dv (XO (.i .i64) qq) v.2.1,dv (.sl 4 qp) f.1,dv (.i .i64) f.2,dv (.i .i64) v.2.2]
def QA (N:Nat) (s9_2:List qb) (s10_2:Int) (v:Qs):Tree (Qs⊕vv):=
 .cond (decide (v.2.2 < s10_2)) (
 .bind (zl s9_2 v.2.2) fun e1=>
 .opt (fnd (β:=qc) (.i .i64) (qb.No e1) v.2.1) (
 .chk (qz (v.2.2 + 1)) <|
 .ret (.inl ((QI (.i .i64) (qb.No e1) (qb.C e1) v.1 v.2.1).1,(QI (.i .i64) (qb.No e1) (qb.C e1) v.1 v.2.1).2,v.2.2 + 1))) fun e2=>
 .bind (qfJ N e2.1 (qb.C e1)) fun r3=>
 .chk (qz (v.2.2 + 1)) <|
 .ret (.inl ((QI (.i .i64) (qb.No e1) r3 v.1 v.2.1).1,(QI (.i .i64) (qb.No e1) r3 v.1 v.2.1).2,v.2.2 + 1))) <|
 .ret (.inr (v.1,v.2.1,v.2.2,decide (v.2.2 < s10_2)))
def qaC (N n:Nat) (f:ZW) (v:Qs):Option vv:=q6 (QA N f.1 f.2) some n v
theorem qhw (N:Nat) (f:ZW) (n:Nat) (v:Qs) (y:vv) (h:qaC N n f v=some y):LG Tryz.prog WY 130 (q8 qlr 2) (qia f v) (Qw f y):=
 zQ qj (E:=qcq N) (L:=qQ (qhZ N)) (st:=Qw f) (g:=some) (R:=Qw f) (qaQ N) (qu (by kernel_rfl) trivial) (rg0 (by kernel_rfl)) (fun v=>by kernel_rfl) (zg (st:=Qw f) fun y=>by rfl) n v y h
def WB (N:Nat) (s9_2:List qb) (s10_2:Int) (o_2:Nat) (o_2_2:List (Int×qc×Nat)) (s11_2:Int):Option vv:=qaC N N (s9_2,s10_2) (o_2,o_2_2,s11_2)
def qao (N:Nat):qG:=smL qay [.nat,(XO (.i .i64) qq),(.sl 4 qp),(.i .i64),(.i .i64)] vv (fun x=>WB N x.2.2.1 x.2.2.2.1 x.1 x.2.1 x.2.2.2.2.1) cs1 fun x=>Qw (x.2.2.1,x.2.2.2.1)
theorem qgd (N:Nat):vJ Tryz.prog WY 130 (q8 qlr 2) (qao N):=jk fun x z h=>qhw N (x.2.2.1,x.2.2.2.1) N (x.1,x.2.1,x.2.2.2.2.1) z h
def ql6 (z:Nat×List (Int×qc×Nat)):TV×THp:=(.tup [],[(250,.map z.1 (.i .i64) qq (z.2:List (Int×qc×Nat)))])
def Yi (N:Nat) (a0:Nat) (a1:List (Int×qc×Nat)) (a2:qa):Tree (Nat×List (Int×qc×Nat)):=
 .bind (WB N (qa.F a2) (((qa.F a2).length:Nat):Int) a0 a1 0) fun z1=>
 .ret (z1.1,z1.2.1)
def JJ (N:Nat) (a0:Nat) (a1:List (Int×qc×Nat)) (a2:qa):Option (Nat×List (Int×qc×Nat)):=(Yi N a0 a1 a2).run some
def qlI (N:Nat):List (Nat×qG):=[(2,qao N)]
def qcI (N:Nat):Ent:=smF ⟨130,[],[.k (.m 250),.x qg],[],[(250,.map (.i .i64) qq)]⟩ [.nat,(XO (.i .i64) qq),qg] (Nat×List (Int×qc×Nat)) (fun x=>JJ N x.1 x.2.1 x.2.2.1) cs1 fun _=>ql6
theorem qkk (N:Nat):q9 Tryz.prog (qcI N):=
 q0 (H:=WY) (L:=qQ (qlI N)) (ts:=[.nat,(XO (.i .i64) qq),qg]) (T:=fun x=>Yi N x.1 x.2.1 x.2.2.1) 0 qDJ (qaQ N) (qu (by kernel_rfl) ⟨qgd N,trivial⟩) (rg0 (by kernel_rfl)) fun x=>by kernel_rfl
noncomputable def qCL:Code:=Tryz.f131.body.getD .skip
theorem qEg:FnF Tryz.prog 131 Tryz.f131 qCL:=⟨qj,by kernel_rfl,by kernel_rfl,by kernel_rfl⟩
def qy7:TH:={ live:=[(0,[2,3,4]),(1,[2,3,4,7]),(2,[4]),(3,[4])] }
def qyE (N:Nat):List Ent:=[W8 N]
theorem quv (N:Nat):qT Tryz.prog (qyE N):=⟨K6 N,trivial⟩
def qx0 (z:qe):TV×THp:=(.tv qn z,[])
def qgN (N:Nat) (a0:qe) (a1:qe):Tree (qe):=
 .bind (QL N a0 a1) fun r1=>
 .cond r1 (
 .ret a1) <|
 .ret a0
def qfn (N:Nat) (a0:qe) (a1:qe):Option (qe):=(qgN N a0 a1).run some
def qyJ (N:Nat):List (Nat×qG):=[]
def qn8 (N:Nat):Ent:=smF ⟨131,[],[.x qn,.x qn],[],[]⟩ [qn,qn] (qe) (fun x=>qfn N x.1 x.2.1) cs1 fun _=>qx0
theorem qwP (N:Nat):q9 Tryz.prog (qn8 N):=
 q0 (H:=qy7) (L:=qQ (qyJ N)) (ts:=[qn,qn]) (T:=fun x=>qgN N x.1 x.2.1) 0 qEg (quv N) (qu (by kernel_rfl) trivial) (rg0 (by kernel_rfl)) fun x=>by kernel_rfl
noncomputable def qES:Code:=Tryz.f132.body.getD .skip
theorem qC9:FnF Tryz.prog 132 Tryz.f132 qES:=⟨qj,by kernel_rfl,by kernel_rfl,by kernel_rfl⟩
def qh_:TH:={ live:=[(0,[2,3]),(1,[4])],esc:=true }
def qhf (N:Nat):List Ent:=[]
theorem qfc (N:Nat):qT Tryz.prog (qhf N):=trivial
def qhJ (a0:Nat) (a1:List (Int×qc×Nat)) (a2:qe) (z:Unit):TV×THp:=(.fn (.func 145) [] [.p 100020 [] 0,.p 100030 [] 0],[(250,.map a0 (.i .i64) qq a1),(100020,.cell false (.m 250)),(100030,.cell false (.tv qn a2))])
def qaN (a0:Nat) (a1:List (Int×qc×Nat)) (a2:qe):Tree (Unit):=
 .ret ()
def qbO (a0:Nat) (a1:List (Int×qc×Nat)) (a2:qe):Option (Unit):=(qaN a0 a1 a2).run some
def qhn:List (Nat×qG):=[]
def qaq:Ent:=smF ⟨132,[],[.k (.m 250),.x qn],[],[(250,.map (.i .i64) qq)]⟩ [.nat,(XO (.i .i64) qq),qn] (Unit) (fun x=>qbO x.1 x.2.1 x.2.2.1) cs1 fun x=>qhJ x.1 x.2.1 x.2.2.1
theorem qgl:q9 Tryz.prog (qaq):=
 q0 (H:=qh_) (L:=qQ (qhn)) (ts:=[.nat,(XO (.i .i64) qq),qn]) (T:=fun x=>qaN x.1 x.2.1 x.2.2.1) 0 qC9 (qfc 0) (qu (by kernel_rfl) trivial) (rg0 (by kernel_rfl)) fun x=>by kernel_rfl
def qk9:TH:={ live:=[(0,[2,3,4]),(1,[2,3,4,23]),(2,[4,5]),(3,[2,3,4,6]),(4,[2,3,4,6]),(5,[2,3,4,6]),(6,[4,6,7]),(7,[4,7,43]),(8,[7,8]),(10,[4,5])],dec:=[12,17],fresh:=[43] }
def qmt (N:Nat):List Ent:=[]
theorem qir (N:Nat):qT Tryz.prog (qmt N):=trivial
def qkN (a0:List qb) (a1:List qb) (a2:Nat) (a3:List (Int×qc×Nat)) (a4:Vector UInt8 16) (a5:qe) (a6:Vector UInt8 16) (a7:qe) (a8:qe) (a9:qb) (z:Unit):TV×THp:=(.bc true,[(40,.cell false (.ag [.tv (.ba 16) a4,.tv qn a5,.v 45 a0.length])),(45,.vec false 4 (.sl 4 qp) a0),(70,.cell false (.ag [.tv (.ba 16) a6,.tv qn a7,.v 75 ((a1++[a9]).length)])),(75,.vec false 4 (.sl 4 qp) (a1++[a9]:List qb)),(250,.map a2 (.i .i64) qq a3),(50080,.loop [44] 52 [(4,.p 40 [] 0),(7,.p 70 [] 0),(43,.fn (.func 145) [] [.p 100020 [] 0,.p 100030 [] 0])] 11300008 113 .ready none 50081),(50081,.dfr true),(100020,.cell false (.m 250)),(100030,.cell false (.tv qn a8))])
def Yo (a0:List qb) (a1:List qb) (a2:Nat) (a3:List (Int×qc×Nat)) (a4:Vector UInt8 16) (a5:qe) (a6:Vector UInt8 16) (a7:qe) (a8:qe) (a9:qb):Tree (Unit):=
 .chk (Vt a1.length a1.length ((a1++[a9]).length) 40) <|
 .ret ()
def XY (a0:List qb) (a1:List qb) (a2:Nat) (a3:List (Int×qc×Nat)) (a4:Vector UInt8 16) (a5:qe) (a6:Vector UInt8 16) (a7:qe) (a8:qe) (a9:qb):Option (Unit):=(Yo a0 a1 a2 a3 a4 a5 a6 a7 a8 a9).run some
def qk7:List (Nat×qG):=[]
def qcH:Ent:=smR 50080 [.x qp] [(40,.cell false (.ag [.x (.ba 16),.x qn,.vs 45])),(45,.vec false 4),(70,.cell false (.ag [.x (.ba 16),.x qn,.vs 75])),(75,.vec false 4),(250,.map (.i .i64) qq),(50080,.loop [44] 52 [(4,.k (.p 40 [] 0)),(7,.k (.p 70 [] 0)),(43,.fn 145 [] [.k (.p 100020 [] 0),.k (.p 100030 [] 0)])] 11300008 113 .ready none 50081),(50081,.dfr true),(100020,.cell false (.k (.m 250))),(100030,.cell false (.x qn))] [(.sl 4 qp),(.sl 4 qp),.nat,(XO (.i .i64) qq),(.ba 16),qn,(.ba 16),qn,qn,qp] (Unit) (fun x=>XY x.1 x.2.1 x.2.2.1 x.2.2.2.1 x.2.2.2.2.1 x.2.2.2.2.2.1 x.2.2.2.2.2.2.1 x.2.2.2.2.2.2.2.1 x.2.2.2.2.2.2.2.2.1 x.2.2.2.2.2.2.2.2.2.1) cs1 fun x=>qkN x.1 x.2.1 x.2.2.1 x.2.2.2.1 x.2.2.2.2.1 x.2.2.2.2.2.1 x.2.2.2.2.2.2.1 x.2.2.2.2.2.2.2.1 x.2.2.2.2.2.2.2.2.1 x.2.2.2.2.2.2.2.2.2.1
theorem qkj:q9 Tryz.prog (qcH):=
 qJN (H:=qk9) (L:=qQ (qk7)) (ts:=[(.sl 4 qp),(.sl 4 qp),.nat,(XO (.i .i64) qq),(.ba 16),qn,(.ba 16),qn,qn,qp]) (T:=fun x=>Yo x.1 x.2.1 x.2.2.1 x.2.2.2.1 x.2.2.2.2.1 x.2.2.2.2.2.1 x.2.2.2.2.2.2.1 x.2.2.2.2.2.2.2.1 x.2.2.2.2.2.2.2.2.1 x.2.2.2.2.2.2.2.2.2.1) (K:=113) (cid:=11300008) 2 qj (qir 0) (by kernel_rfl) (qu (by kernel_rfl) trivial) (rg0 (by kernel_rfl)) (rg0 (by kernel_rfl)) (fun x=>by kernel_rfl) fun x=>by kernel_rfl
noncomputable def qle:Code:=Tryz.f145.body.getD .skip
theorem qCN:FnF Tryz.prog 145 Tryz.f145 qle:=⟨qj,by kernel_rfl,by kernel_rfl,by kernel_rfl⟩
def JW:TH:={ live:=[(0,[0,1,2,7]),(1,[0,1,2,7,8]),(2,[0,1,2,4,7]),(3,[0,1,2,4,5,6,7]),(4,[0,1,2,7,30]),(5,[0,1,2,7])],dec:=[17,23] }
def Kg (N:Nat):List Ent:=[W8 N,qcH]
theorem WH (N:Nat):qT Tryz.prog (Kg N):=⟨K6 N,qkj,trivial⟩
abbrev Qe:=List qb×Nat×List (Int×qc×Nat)×Vector UInt8 16×qe×Vector UInt8 16×qe×qe
abbrev jv:=List qb×Int×Bool
def jY (f:Qe) (y:jv):Ex×TSt:=(.exit 0,⟨2,32,[40,45,70,75,250,50080,50081,100020,100030],[(0,.yl 50080),(1,.p 100020 [] 0),(2,.p 100030 [] 0),(7,xi y.2.1),(8,xb y.2.2)],[(40,.cell false (.ag [.tv (.ba 16) f.2.2.2.1,.tv qn f.2.2.2.2.1,.v 45 f.1.length])),(45,.vec false 4 (.sl 4 qp) f.1),(70,.cell false (.ag [.tv (.ba 16) f.2.2.2.2.2.1,.tv qn f.2.2.2.2.2.2.1,.v 75 y.1.length])),(75,.vec false 4 (.sl 4 qp) (y.1:List qb)),(250,.map f.2.1 (.i .i64) qq f.2.2.1),(50080,.loop [44] 52 [(4,.p 40 [] 0),(7,.p 70 [] 0),(43,.fn (.func 145) [] [.p 100020 [] 0,.p 100030 [] 0])] 11300008 113 .ready none 50081),(50081,.dfr true),(100020,.cell false (.m 250)),(100030,.cell false (.tv qn f.2.2.2.2.2.2.2))],false,[]⟩)
def qdf (N:Nat):List (Nat×qG):=[]
abbrev jW:=List qb×Int
def Wh:SP:=⟨2,32,[40,45,70,75,250,50080,50081,100020,100030],[(0,.k (.yl 50080)),(1,.k (.p 100020 [] 0)),(2,.k (.p 100030 [] 0)),(7,.x (.i .i64))],[(40,.cell false (.ag [.x (.ba 16),.x qn,.vs 45])),(45,.vec false 4),(70,.cell false (.ag [.x (.ba 16),.x qn,.vs 75])),(75,.vec false 4),(250,.map (.i .i64) qq),(50080,.loop [44] 52 [(4,.k (.p 40 [] 0)),(7,.k (.p 70 [] 0)),(43,.fn 145 [] [.k (.p 100020 [] 0),.k (.p 100030 [] 0)])] 11300008 113 .ready none 50081),(50081,.dfr true),(100020,.cell false (.k (.m 250))),(100030,.cell false (.x qn))],false,[]⟩
def qc3 (f:Qe) (v:jW):TSt:=jh Wh [dv (.sl 4 qp) f.1,dv (.sl 4 qp) v.1,dv .nat f.2.1,dv (XO (.i .i64) qq) f.2.2.1,dv (.ba 16) f.2.2.2.1,dv qn f.2.2.2.2.1,dv (.ba 16) f.2.2.2.2.2.1,dv qn f.2.2.2.2.2.2.1,dv qn f.2.2.2.2.2.2.2,dv (.i .i64) v.2]
def Qh (N:Nat) (o_1:List qb) (o_1_3:Nat) (o_1_4:List (Int×qc×Nat)) (o_1_5:Vector UInt8 16) (o_1_6:qe) (o_1_7:Vector UInt8 16) (o_1_8:qe) (o_1_9:qe) (v:jW):Tree (jW⊕jv):=
 .cond (decide (v.2 < ((8:Int)))) (
 .opt (fnd (β:=qc) (.i .i64) v.2 o_1_4) (
 .chk (qz (v.2 + 1)) <|
 .ret (.inl (v.1,v.2 + 1))) fun e1=>
 .bind (QL N o_1_9 (qc.S e1.1)) fun r2=>
 .cond r2 (
 .bind (jV [(o_1.length,o_1.length),(v.1.length,v.1.length)] (XY o_1 v.1 o_1_3 o_1_4 o_1_5 o_1_6 o_1_7 o_1_8 o_1_9 (qb.mk v.2 e1.1))) fun r3=>
 .chk (qz (v.2 + 1)) <|
 .ret (.inl (v.1++[qb.mk v.2 e1.1],v.2 + 1))) <|
 .chk (qz (v.2 + 1)) <|
 .ret (.inl (v.1,v.2 + 1))) <|
 .ret (.inr (v.1,v.2,decide (v.2 < ((8:Int)))))
def X4 (N n:Nat) (f:Qe) (v:jW):Option jv:=q6 (Qh N f.1 f.2.1 f.2.2.1 f.2.2.2.1 f.2.2.2.2.1 f.2.2.2.2.2.1 f.2.2.2.2.2.2.1 f.2.2.2.2.2.2.2) some n v
theorem qc6 (N:Nat) (f:Qe) (n:Nat) (v:jW) (y:jv) (h:X4 N n f v=some y):LG Tryz.prog JW 145 (q8 qle 1) (qc3 f v) (jY f y):=
 zQ qj (E:=Kg N) (L:=qQ (qdf N)) (st:=jY f) (g:=some) (R:=jY f) (WH N) (qu (by kernel_rfl) trivial) (rg0 (by kernel_rfl)) (fun v=>by kernel_rfl) (zg (st:=jY f) fun y=>by rfl) n v y h
def JQ (N:Nat) (o_1:List qb) (o_1_3:Nat) (o_1_4:List (Int×qc×Nat)) (o_1_5:Vector UInt8 16) (o_1_6:qe) (o_1_7:Vector UInt8 16) (o_1_8:qe) (o_1_9:qe) (o_1_2:List qb) (s7_1:Int):Option jv:=X4 N N (o_1,o_1_3,o_1_4,o_1_5,o_1_6,o_1_7,o_1_8,o_1_9) (o_1_2,s7_1)
def Wj (N:Nat):qG:=smL Wh [(.sl 4 qp),(.sl 4 qp),.nat,(XO (.i .i64) qq),(.ba 16),qn,(.ba 16),qn,qn,(.i .i64)] jv (fun x=>JQ N x.1 x.2.2.1 x.2.2.2.1 x.2.2.2.2.1 x.2.2.2.2.2.1 x.2.2.2.2.2.2.1 x.2.2.2.2.2.2.2.1 x.2.2.2.2.2.2.2.2.1 x.2.1 x.2.2.2.2.2.2.2.2.2.1) cs1 fun x=>jY (x.1,x.2.2.1,x.2.2.2.1,x.2.2.2.2.1,x.2.2.2.2.2.1,x.2.2.2.2.2.2.1,x.2.2.2.2.2.2.2.1,x.2.2.2.2.2.2.2.2.1)
theorem qcW (N:Nat):vJ Tryz.prog JW 145 (q8 qle 1) (Wj N):=jk fun x z h=>qc6 N (x.1,x.2.2.1,x.2.2.2.1,x.2.2.2.2.1,x.2.2.2.2.2.1,x.2.2.2.2.2.2.1,x.2.2.2.2.2.2.2.1,x.2.2.2.2.2.2.2.2.1) N (x.2.1,x.2.2.2.2.2.2.2.2.2.1) z h
def qfj (a0:List qb) (a2:Nat) (a3:List (Int×qc×Nat)) (a4:Vector UInt8 16) (a5:qe) (a6:Vector UInt8 16) (a7:qe) (a8:qe) (z:List qb):TV×THp:=(.tup [],[(40,.cell false (.ag [.tv (.ba 16) a4,.tv qn a5,.v 45 a0.length])),(45,.vec false 4 (.sl 4 qp) a0),(70,.cell false (.ag [.tv (.ba 16) a6,.tv qn a7,.v 75 z.length])),(75,.vec false 4 (.sl 4 qp) z),(250,.map a2 (.i .i64) qq a3),(50080,.loop [44] 52 [(4,.p 40 [] 0),(7,.p 70 [] 0),(43,.fn (.func 145) [] [.p 100020 [] 0,.p 100030 [] 0])] 11300008 113 .ready none 50081),(50081,.dfr true),(100020,.cell false (.m 250)),(100030,.cell false (.tv qn a8))])
def JU (N:Nat) (a0:List qb) (a1:List qb) (a2:Nat) (a3:List (Int×qc×Nat)) (a4:Vector UInt8 16) (a5:qe) (a6:Vector UInt8 16) (a7:qe) (a8:qe):Tree (List qb):=
 .bind (jV [(a0.length,a0.length),(a1.length,a1.length)] (JQ N a0 a2 a3 a4 a5 a6 a7 a8 a1 0)) fun z1=>
 .ret z1.1
def ZK (N:Nat) (a0:List qb) (a1:List qb) (a2:Nat) (a3:List (Int×qc×Nat)) (a4:Vector UInt8 16) (a5:qe) (a6:Vector UInt8 16) (a7:qe) (a8:qe):Option (List qb):=(JU N a0 a1 a2 a3 a4 a5 a6 a7 a8).run some
def qfa (N:Nat):List (Nat×qG):=[(1,Wj N)]
def Ki (N:Nat):Ent:=smF ⟨145,[],[.k (.yl 50080)],[.k (.p 100020 [] 0),.k (.p 100030 [] 0)],[(40,.cell false (.ag [.x (.ba 16),.x qn,.vs 45])),(45,.vec false 4),(70,.cell false (.ag [.x (.ba 16),.x qn,.vs 75])),(75,.vec false 4),(250,.map (.i .i64) qq),(50080,.loop [44] 52 [(4,.k (.p 40 [] 0)),(7,.k (.p 70 [] 0)),(43,.fn 145 [] [.k (.p 100020 [] 0),.k (.p 100030 [] 0)])] 11300008 113 .ready none 50081),(50081,.dfr true),(100020,.cell false (.k (.m 250))),(100030,.cell false (.x qn))]⟩ [(.sl 4 qp),(.sl 4 qp),.nat,(XO (.i .i64) qq),(.ba 16),qn,(.ba 16),qn,qn] (List qb) (fun x=>ZK N x.1 x.2.1 x.2.2.1 x.2.2.2.1 x.2.2.2.2.1 x.2.2.2.2.2.1 x.2.2.2.2.2.2.1 x.2.2.2.2.2.2.2.1 x.2.2.2.2.2.2.2.2.1) cs1 fun x=>qfj x.1 x.2.2.1 x.2.2.2.1 x.2.2.2.2.1 x.2.2.2.2.2.1 x.2.2.2.2.2.2.1 x.2.2.2.2.2.2.2.1 x.2.2.2.2.2.2.2.2.1
theorem qeY (N:Nat):q9 Tryz.prog (Ki N):=
 q0 (H:=JW) (L:=qQ (qfa N)) (ts:=[(.sl 4 qp),(.sl 4 qp),.nat,(XO (.i .i64) qq),(.ba 16),qn,(.ba 16),qn,qn]) (T:=fun x=>JU N x.1 x.2.1 x.2.2.1 x.2.2.2.1 x.2.2.2.2.1 x.2.2.2.2.2.1 x.2.2.2.2.2.2.1 x.2.2.2.2.2.2.2.1 x.2.2.2.2.2.2.2.2.1) 1 qCN (WH N) (qu (by kernel_rfl) ⟨qcW N,trivial⟩) (rg0 (by kernel_rfl)) fun x=>by kernel_rfl
noncomputable def qEt:Code:=Tryz.f113.body.getD .skip
theorem qEJ:FnF Tryz.prog 113 Tryz.f113 qEt:=⟨qj,by kernel_rfl,by kernel_rfl,by kernel_rfl⟩
def qCj:TH:={ live:=[(0,[2,3,4]),(1,[2,3,4,23]),(2,[4,5]),(3,[2,3,4,6]),(4,[2,3,4,6]),(5,[2,3,4,6]),(6,[4,6,7]),(7,[4,7,43]),(8,[7,8]),(10,[4,5])],dec:=[12,17],fresh:=[43],nil:=[(0,[⟨.ob 40 [2],45,(.sl 4 qp)⟩]),(2,[⟨.ob 40 [2],45,(.sl 4 qp)⟩]),(6,[⟨.ob 70 [2],75,(.sl 4 qp)⟩])] }
def qBu (N:Nat):List Ent:=[qfQ N,qcI N,qn8 N,qaq,Ki N]
theorem qu9 (N:Nat):qT Tryz.prog (qBu N):=⟨qje N,qkk N,qwP N,qgl,qeY N,trivial⟩
def qB7 (z:qa×Bool):TV×THp:=(.tup [.tv qg (z.1:qa),xb z.2],[])
def qjw (N:Nat) (a0:qa) (a1:qa):Tree (qa×Bool):=
 .bind (qbR N a0) fun r1=>
 .cond (!r1) (
 .chk (0=0) <|
 .ret (qa.mk ((Vector.replicate 16 0)) (qe.mk 0 0) [],false)) <|
 .bind (qbR N a1) fun r2=>
 .cond (!r2) (
 .chk (0=0) <|
 .ret (qa.mk ((Vector.replicate 16 0)) (qe.mk 0 0) [],false)) <|
 .cond (!(eqE (.ba 16) (qa.ID a0) (qa.ID a1))) (
 .chk (0=0) <|
 .ret (qa.mk ((Vector.replicate 16 0)) (qe.mk 0 0) [],false)) <|
 .bind (JJ N 0 [] a0) fun r3=>
 .bind (JJ N r3.1 r3.2 a1) fun r4=>
 .bind (qfn N (qa.qX a0) (qa.qX a1)) fun r5=>
 .bind (qbO r4.1 r4.2 r5) fun r6=>
 .bind (jV [(([]:List qb).length,0),(([]:List qb).length,0)] (ZK N [] [] r4.1 r4.2 ((Vector.replicate 16 0)) (qe.mk 0 0) (qa.ID a0) r5 r5)) fun r7=>
 .chk (r7.length=r7.length) <|
 .ret (qa.mk (qa.ID a0) r5 r7,true)
def qiI (N:Nat) (a0:qa) (a1:qa):Option (qa×Bool):=(qjw N a0 a1).run some
def qBq (N:Nat):List (Nat×qG):=[]
def qq9 (N:Nat):Ent:=smF ⟨113,[],[.x qg,.x qg],[],[]⟩ [qg,qg] (qa×Bool) (fun x=>qiI N x.1 x.2.1) cs1 fun _=>qB7
theorem qyq (N:Nat):q9 Tryz.prog (qq9 N):=
 q0 (H:=qCj) (L:=qQ (qBq N)) (ts:=[qg,qg]) (T:=fun x=>qjw N x.1 x.2.1) 0 qEJ (qu9 N) (qu (by kernel_rfl) trivial) (rgs (by kernel_rfl)) fun x=>by kernel_rfl
noncomputable def qEo:Code:=Tryz.f155.body.getD .skip
theorem qEp:FnF Tryz.prog 155 Tryz.f155 qEo:=⟨qj,by kernel_rfl,by kernel_rfl,by kernel_rfl⟩
def qm5:TH:={ live:=[(0,[0,2]),(1,[0,2,4]),(2,[0]),(3,[0,2]),(4,[0,2,8]),(5,[0,2]),(6,[0,2]),(7,[0,2,14]),(8,[0,2]),(9,[0,2]),(10,[2])] }
def qnb (N:Nat):List Ent:=[]
theorem qkd (N:Nat):qT Tryz.prog (qnb N):=trivial
def qm7 (z:Int):TV×THp:=(xi z,[])
def qdq (a0:Int):Tree (Int):=
 .cond (decide (((4294967296:Int))≤a0)) (
 .chk (0≤(32:Int)) <|
 .cond (decide (65536≤(ZF a0 32))) (
 .chk (0≤(16:Int)) <|
 .cond (decide (256≤(ZF (ZF a0 32) 16))) (
 .chk (0≤(8:Int)) <|
 let w1:Int:=IntKind.u8.wrap (ZF (ZF (ZF a0 32) 16) 8)
 .bind (zl ql2 w1) fun e2=>
 .chk (qz ((e2.toNat:Nat):Int)) <|
 .chk (qz (((56:Int)) + ((e2.toNat:Nat):Int))) <|
 .ret (((56:Int)) + ((e2.toNat:Nat):Int))) <|
 .bind (zl ql2 (IntKind.u8.wrap (ZF (ZF a0 32) 16))) fun e1=>
 .chk (qz ((e1.toNat:Nat):Int)) <|
 .chk (qz (((48:Int)) + ((e1.toNat:Nat):Int))) <|
 .ret (((48:Int)) + ((e1.toNat:Nat):Int))) <|
 .cond (decide (256≤(ZF a0 32))) (
 .chk (0≤(8:Int)) <|
 .bind (zl ql2 (IntKind.u8.wrap (ZF (ZF a0 32) 8))) fun e1=>
 .chk (qz ((e1.toNat:Nat):Int)) <|
 .chk (qz (((40:Int)) + ((e1.toNat:Nat):Int))) <|
 .ret (((40:Int)) + ((e1.toNat:Nat):Int))) <|
 .bind (zl ql2 (IntKind.u8.wrap (ZF a0 32))) fun e1=>
 .chk (qz ((e1.toNat:Nat):Int)) <|
 .chk (qz (((32:Int)) + ((e1.toNat:Nat):Int))) <|
 .ret (((32:Int)) + ((e1.toNat:Nat):Int))) <|
 .cond (decide (((65536:Int))≤a0)) (
 .chk (0≤(16:Int)) <|
 .cond (decide (256≤(ZF a0 16))) (
 .chk (0≤(8:Int)) <|
 .bind (zl ql2 (IntKind.u8.wrap (ZF (ZF a0 16) 8))) fun e1=>
 .chk (qz ((e1.toNat:Nat):Int)) <|
 .chk (qz (((24:Int)) + ((e1.toNat:Nat):Int))) <|
 .ret (((24:Int)) + ((e1.toNat:Nat):Int))) <|
 .bind (zl ql2 (IntKind.u8.wrap (ZF a0 16))) fun e1=>
 .chk (qz ((e1.toNat:Nat):Int)) <|
 .chk (qz (((16:Int)) + ((e1.toNat:Nat):Int))) <|
 .ret (((16:Int)) + ((e1.toNat:Nat):Int))) <|
 .cond (decide (((256:Int))≤a0)) (
 .chk (0≤(8:Int)) <|
 .bind (zl ql2 (IntKind.u8.wrap (ZF a0 8))) fun e1=>
 .chk (qz ((e1.toNat:Nat):Int)) <|
 .chk (qz (((8:Int)) + ((e1.toNat:Nat):Int))) <|
 .ret (((8:Int)) + ((e1.toNat:Nat):Int))) <|
 .bind (zl ql2 (IntKind.u8.wrap a0)) fun e1=>
 .chk (qz ((e1.toNat:Nat):Int)) <|
 .chk (qz (((0:Int)) + ((e1.toNat:Nat):Int))) <|
 .ret (((0:Int)) + ((e1.toNat:Nat):Int))
def qfZ (a0:Int):Option (Int):=(qdq a0).run some
def qnr:List (Nat×qG):=[]
def qdw:Ent:=smF ⟨155,[],[.x (.i .u64)],[],[]⟩ [(.i .u64)] (Int) (fun x=>qfZ x.1) cs1 fun _=>qm7
theorem qlH:q9 Tryz.prog (qdw):=
 q0 (H:=qm5) (L:=qQ (qnr)) (ts:=[(.i .u64)]) (T:=fun x=>qdq x.1) 0 qEp (qkd 0) (qu (by kernel_rfl) trivial) (rg0 (by kernel_rfl)) fun x=>by kernel_rfl
noncomputable def qC5:Code:=Tryz.f134.body.getD .skip
theorem qET:FnF Tryz.prog 134 Tryz.f134 qC5:=⟨qj,by kernel_rfl,by kernel_rfl,by kernel_rfl⟩
def qrk:TH:={ live:=[(0,[0]),(1,[2]),(2,[2])] }
def qrd (N:Nat):List Ent:=[qdw]
theorem qni (N:Nat):qT Tryz.prog (qrd N):=⟨qlH,trivial⟩
def qqK (z:Int):TV×THp:=(xi z,[])
def qft (a0:Int):Tree (Int):=
 .bind (qfZ a0) fun r1=>
 .ret r1
def KW (a0:Int):Option (Int):=(qft a0).run some
def qqU:List (Nat×qG):=[]
def qfy:Ent:=smF ⟨134,[],[.x (.i .u64)],[],[]⟩ [(.i .u64)] (Int) (fun x=>KW x.1) cs1 fun _=>qqK
theorem qpb:q9 Tryz.prog (qfy):=
 q0 (H:=qrk) (L:=qQ (qqU)) (ts:=[(.i .u64)]) (T:=fun x=>qft x.1) 0 qET (qni 0) (qu (by kernel_rfl) trivial) (rg0 (by kernel_rfl)) fun x=>by kernel_rfl
noncomputable def qEx:Code:=Tryz.f115.body.getD .skip
theorem qEh:FnF Tryz.prog 115 Tryz.f115 qEx:=⟨qj,by kernel_rfl,by kernel_rfl,by kernel_rfl⟩
def qrX:TH:={ live:=[(0,[2,3]),(1,[4])] }
def qsC (N:Nat):List Ent:=[WM]
theorem qoE (N:Nat):qT Tryz.prog (qsC N):=⟨K9,trivial⟩
def qsO (z:Int):TV×THp:=(xi z,[])
def qhd (a0:Vector UInt8 16) (a1:Vector UInt8 16):Tree (Int):=
 .bind (Wb a0.toList a1.toList) fun r1=>
 .ret r1
def qef (a0:Vector UInt8 16) (a1:Vector UInt8 16):Option (Int):=(qhd a0 a1).run some
def qsq:List (Nat×qG):=[]
def qhc:Ent:=smF ⟨115,[],[.x (.ba 16),.x (.ba 16)],[],[]⟩ [(.ba 16),(.ba 16)] (Int) (fun x=>qef x.1 x.2.1) cs1 fun _=>qsO
theorem qro:q9 Tryz.prog (qhc):=
 q0 (H:=qrX) (L:=qQ (qsq)) (ts:=[(.ba 16),(.ba 16)]) (T:=fun x=>qhd x.1 x.2.1) 0 qEh (qoE 0) (qu (by kernel_rfl) trivial) (rg0 (by kernel_rfl)) fun x=>by kernel_rfl
noncomputable def qcE:Code:=Tryz.f146.body.getD .skip
theorem qCU:FnF Tryz.prog 146 Tryz.f146 qcE:=⟨qj,by kernel_rfl,by kernel_rfl,by kernel_rfl⟩
def jj:TH:={ live:=[(0,[0,1,2,3,8]),(1,[0,1,2,3,8,14]),(2,[0,1,2,3,8]),(3,[0,1,2,3,8,9]),(4,[0,1,2,3,8,9,34]),(5,[0,1,2,3,8,9]),(6,[0,1,2,3,8,9])],dec:=[21] }
def Qm (N:Nat):List Ent:=[qhc]
theorem vT (N:Nat):qT Tryz.prog (Qm N):=⟨qro,trivial⟩
abbrev jy:=Nat×Int×Int×Int
abbrev zG:=List (Vector UInt8 16)×Int×Bool
def zZ (f:jy) (y:zG):Ex×TSt:=(.exit 2,⟨1,53,[75],[(0,.v 75 f.1),(1,xi f.2.1),(2,xi f.2.2.1),(3,.fn (.func 115) [] []),(8,xi f.2.2.2),(9,xi y.2.1),(34,xb y.2.2)],[(75,.vec false 16 (.sl 16 (.ba 16)) (y.1:List (Vector UInt8 16)))],false,[]⟩)
def YU (N:Nat):List (Nat×qG):=[]
abbrev jb:=List (Vector UInt8 16)×Int
def ZS:SP:=⟨1,53,[75],[(0,.v 75),(1,.x (.i .i64)),(2,.x (.i .i64)),(3,.fn 115 [] []),(8,.x (.i .i64)),(9,.x (.i .i64))],[(75,.vec false 16)],false,[]⟩
def YT (f:jy) (v:jb):TSt:=jh ZS [dv (.sl 16 (.ba 16)) v.1,dv .nat f.1,dv (.i .i64) f.2.1,dv (.i .i64) f.2.2.1,dv (.i .i64) f.2.2.2,dv (.i .i64) v.2]
def ja (N:Nat) (s0_4:Nat) (s1_4:Int) (s2_4:Int) (s8_4:Int) (v:jb):Tree (jb⊕zG):=
 .cond (decide (s1_4 < v.2)) (
 .chk (0≤v.2∧v.2 < ((s0_4:Nat):Int)) <|
 .bind (Kn v.1 s0_4 v.2.toNat) fun e1=>
 .chk (qz (v.2 - 1)) <|
 .chk (0≤(v.2 - 1)∧(v.2 - 1) < ((s0_4:Nat):Int)) <|
 .bind (Kn v.1 s0_4 ((v.2 - 1).toNat)) fun e2=>
 .bind (qef e1 e2) fun r3=>
 .cond (decide (r3 < ((0:Int)))) (
 .chk (qz (v.2 - 1)) <|
 .chk (qz (v.2 - 1)) <|
 .chk (0≤(v.2 - 1)∧(v.2 - 1) < ((s0_4:Nat):Int)) <|
 .bind (Kn v.1 s0_4 ((v.2 - 1).toNat)) fun e4=>
 .chk (0≤v.2∧v.2 < ((s0_4:Nat):Int)) <|
 .bind (Kn v.1 s0_4 v.2.toNat) fun e5=>
 .chk (0≤v.2∧v.2 < ((s0_4:Nat):Int)) <|
 .chk (qfS v.1.length s0_4 v.2.toNat) <|
 .chk (0≤(v.2 - 1)∧(v.2 - 1) < ((s0_4:Nat):Int)) <|
 .chk (qfS ((v.1.set v.2.toNat e4).length) s0_4 ((v.2 - 1).toNat)) <|
 .chk (qz (v.2 - 1)) <|
 .ret (.inl ((v.1.set v.2.toNat e4).set ((v.2 - 1).toNat) e5,v.2 - 1))) <|
 .ret (.inr (v.1,v.2,decide (r3 < ((0:Int)))))) <|
 .ret (.inr (v.1,v.2,false))
def ZN (N n:Nat) (f:jy) (v:jb):Option zG:=q6 (ja N f.1 f.2.1 f.2.2.1 f.2.2.2) some n v
theorem YK (N:Nat) (f:jy) (n:Nat) (v:jb) (y:zG) (h:ZN N n f v=some y):LG Tryz.prog jj 146 (q8 (q8 qcE 1) 4) (YT f v) (zZ f y):=
 zQ qj (E:=Qm N) (L:=qQ (YU N)) (st:=zZ f) (g:=some) (R:=zZ f) (vT N) (qu (by kernel_rfl) trivial) (rg0 (by kernel_rfl)) (fun v=>by kernel_rfl) (zg (st:=zZ f) fun y=>by rfl) n v y h
def Jr (N:Nat) (s0_4:Nat) (s1_4:Int) (s2_4:Int) (s8_4:Int) (o_4:List (Vector UInt8 16)) (s9_4:Int):Option zG:=ZN N N (s0_4,s1_4,s2_4,s8_4) (o_4,s9_4)
def ZM (N:Nat):qG:=smL ZS [(.sl 16 (.ba 16)),.nat,(.i .i64),(.i .i64),(.i .i64),(.i .i64)] zG (fun x=>Jr N x.2.1 x.2.2.1 x.2.2.2.1 x.2.2.2.2.1 x.1 x.2.2.2.2.2.1) cs1 fun x=>zZ (x.2.1,x.2.2.1,x.2.2.2.1,x.2.2.2.2.1)
theorem YB (N:Nat):vJ Tryz.prog jj 146 (q8 (q8 qcE 1) 4) (ZM N):=jk fun x z h=>YK N (x.2.1,x.2.2.1,x.2.2.2.1,x.2.2.2.2.1) N (x.1,x.2.2.2.2.2.1) z h
abbrev jx:=Nat×Int×Int
abbrev zE:=List (Vector UInt8 16)×Int×Bool
def z9 (f:jx) (y:zE):Ex×TSt:=(.exit 0,⟨1,53,[75],[(0,.v 75 f.1),(1,xi f.2.1),(2,xi f.2.2),(3,.fn (.func 115) [] []),(8,xi y.2.1),(14,xb y.2.2)],[(75,.vec false 16 (.sl 16 (.ba 16)) (y.1:List (Vector UInt8 16)))],false,[]⟩)
def Y4 (N:Nat):List (Nat×qG):=[(4,ZM N)]
abbrev zY:=List (Vector UInt8 16)×Int
def Z3:SP:=⟨1,53,[75],[(0,.v 75),(1,.x (.i .i64)),(2,.x (.i .i64)),(3,.fn 115 [] []),(8,.x (.i .i64))],[(75,.vec false 16)],false,[]⟩
def YL (f:jx) (v:zY):TSt:=jh Z3 [dv (.sl 16 (.ba 16)) v.1,dv .nat f.1,dv (.i .i64) f.2.1,dv (.i .i64) f.2.2,dv (.i .i64) v.2]
def zr (N:Nat) (s0_1:Nat) (s1_1:Int) (s2_1:Int) (v:zY):Tree (zY⊕zE):=
 .cond (decide (v.2 < s2_1)) (
 .bind (Jr N s0_1 s1_1 s2_1 v.2 v.1 v.2) fun z1=>
 .chk (qz (v.2 + 1)) <|
 .ret (.inl (z1.1,v.2 + 1))) <|
 .ret (.inr (v.1,v.2,decide (v.2 < s2_1)))
def ZV (N n:Nat) (f:jx) (v:zY):Option zE:=q6 (zr N f.1 f.2.1 f.2.2) some n v
theorem YW (N:Nat) (f:jx) (n:Nat) (v:zY) (y:zE) (h:ZV N n f v=some y):LG Tryz.prog jj 146 (q8 qcE 1) (YL f v) (z9 f y):=
 zQ qj (E:=Qm N) (L:=qQ (Y4 N)) (st:=z9 f) (g:=some) (R:=z9 f) (vT N) (qu (by kernel_rfl) ⟨YB N,trivial⟩) (rg0 (by kernel_rfl)) (fun v=>by kernel_rfl) (zg (st:=z9 f) fun y=>by rfl) n v y h
def jJ (N:Nat) (s0_1:Nat) (s1_1:Int) (s2_1:Int) (o_1:List (Vector UInt8 16)) (s8_1:Int):Option zE:=ZV N N (s0_1,s1_1,s2_1) (o_1,s8_1)
def ZT (N:Nat):qG:=smL Z3 [(.sl 16 (.ba 16)),.nat,(.i .i64),(.i .i64),(.i .i64)] zE (fun x=>jJ N x.2.1 x.2.2.1 x.2.2.2.1 x.1 x.2.2.2.2.1) cs1 fun x=>z9 (x.2.1,x.2.2.1,x.2.2.2.1)
theorem WU (N:Nat):vJ Tryz.prog jj 146 (q8 qcE 1) (ZT N):=jk fun x z h=>YW N (x.2.1,x.2.2.1,x.2.2.2.1) N (x.1,x.2.2.2.2.1) z h
def qaf (z:List (Vector UInt8 16)):TV×THp:=(.tup [],[(75,.vec false 16 (.sl 16 (.ba 16)) z)])
def jU (N:Nat) (a0:List (Vector UInt8 16)) (a1:Int) (a2:Int):Tree (List (Vector UInt8 16)):=
 .chk (qz (a1 + 1)) <|
 .bind (jJ N a0.length a1 a2 a0 (a1 + 1)) fun z1=>
 .ret z1.1
def zK (N:Nat) (a0:List (Vector UInt8 16)) (a1:Int) (a2:Int):Option (List (Vector UInt8 16)):=(jU N a0 a1 a2).run some
def qai (N:Nat):List (Nat×qG):=[(1,ZT N)]
def JK (N:Nat):Ent:=smF ⟨146,[],[.vs 75,.x (.i .i64),.x (.i .i64),.fn 115 [] []],[],[(75,.vec false 16)]⟩ [(.sl 16 (.ba 16)),(.i .i64),(.i .i64)] (List (Vector UInt8 16)) (fun x=>zK N x.1 x.2.1 x.2.2.1) cs1 fun _=>qaf
theorem KG (N:Nat):q9 Tryz.prog (JK N):=
 q0 (H:=jj) (L:=qQ (qai N)) (ts:=[(.sl 16 (.ba 16)),(.i .i64),(.i .i64)]) (T:=fun x=>jU N x.1 x.2.1 x.2.2.1) 0 qCU (vT N) (qu (by kernel_rfl) ⟨WU N,trivial⟩) (rg0 (by kernel_rfl)) fun x=>by kernel_rfl
noncomputable def qlL:Code:=Tryz.f133.body.getD .skip
theorem qEC:FnF Tryz.prog 133 Tryz.f133 qlL:=⟨qj,by kernel_rfl,by kernel_rfl,by kernel_rfl⟩
def Z6:TH:={ live:=[(0,[0,1,2,3,4,10]),(1,[0,1,2,3,4,10,11]),(2,[0,1,2,3,4,10,11,12]),(3,[0,1,2,3,4,10,11,12,25]),(5,[0,1,2,3,4,10,11,12,32]),(7,[0,1,2,3,4,10,11,12,39]),(8,[0,1,2,3,4,10,11,12]),(9,[0,1,2,3,4,10,11,12]),(10,[0,1,2,3,4,10,11,12,13,14]),(11,[0,1,2,3,4,10,11,12,13,14,56]),(12,[0,1,2,3,4,10,11,12,13]),(13,[0,1,2,3,4,10,11,12,13]),(14,[0,1,2,3,4,10,11,12,13,14]),(15,[0,1,2,3,4,10,11,12,13,75]),(16,[0,1,2,3,4,10,11,12,13,80]),(17,[0,1,2,3,4,10,11,12,13,97]),(18,[0,2,3,4,10,11,15]),(19,[0,1,2,3,4,10,11]),(20,[0,1,2,3,4,12,16,17]),(21,[0,1,2,3,4,11,12,16]),(22,[0,1,2,3,4,11,12,16,18,19]),(23,[0,1,2,3,4,11,16,18,19,20]),(24,[0,1,2,3,4,11,16,18,19,20,125]),(25,[0,1,2,3,4,10,11,16]),(26,[0,2,3,4,10,11,16]),(27,[0,1,2,3,4,10,11]),(28,[0,1,2,3,4,10,11,16]),(29,[0,1,3,4,10,11,16]),(30,[0,1,2,3,4,10,11])],dec:=[69,72,83],raw:=[146] }
def X6 (N:Nat):List Ent:=[JK N]
theorem V4 (N:Nat):qT Tryz.prog (X6 N):=⟨KG N,trivial⟩
abbrev vA:=List (Vector UInt8 16)×Int×Int×Int
abbrev jc:=List (Vector UInt8 16)
def jE (f:vA) (y:jc):Ex×TSt:=(.ret,⟨1,148,[75],[],[(75,.vec false 16 (.sl 16 (.ba 16)) y)],false,[]⟩)
def qbG (N:Nat):List (Nat×qG):=[]
abbrev jD:=Unit
def VE:SP:=⟨1,148,[75],[(0,.vs 75),(1,.x (.i .i64)),(2,.x (.i .i64)),(3,.x (.i .i64)),(4,.fn 115 [] []),(10,.k (.bc true)),(11,.k (.bc true))],[(75,.vec false 16)],false,[]⟩
def qbH (f:vA) (v:jD):TSt:=jh VE [dv (.sl 16 (.ba 16)) f.1,dv (.i .i64) f.2.1,dv (.i .i64) f.2.2.1,dv (.i .i64) f.2.2.2]
def vB (N:Nat) (o_2:List (Vector UInt8 16)) (s1_2:Int) (s2_2:Int) (s3_2:Int) (v:jD):Tree (jD⊕jc):=
 .chk (qz (s2_2 - s1_2)) <|
 .cond (decide ((s2_2 - s1_2)≤12)) (
 .bind (jV [(o_2.length,o_2.length)] (zK N o_2 s1_2 s2_2)) fun r1=>
 .ret (.inr r1)) <|
 .cond (decide (s3_2=((0:Int)))) (
 .chk (o_2.length=o_2.length) <|
 .no) <|
 .chk (o_2.length=o_2.length) <|
 .no
def VF (N n:Nat) (f:vA) (v:jD):Option jc:=q6 (vB N f.1 f.2.1 f.2.2.1 f.2.2.2) some n v
theorem qbI (N:Nat) (f:vA) (n:Nat) (v:jD) (y:jc) (h:VF N n f v=some y):LG Tryz.prog Z6 133 (q8 qlL 2) (qbH f v) (jE f y):=
 zQ qj (E:=X6 N) (L:=qQ (qbG N)) (st:=jE f) (g:=some) (R:=jE f) (V4 N) (qu (by kernel_rfl) trivial) (rg0 (by kernel_rfl)) (fun v=>by kernel_rfl) (zg (st:=jE f) fun y=>by rfl) n v y h
def ZJ (N:Nat) (o_2:List (Vector UInt8 16)) (s1_2:Int) (s2_2:Int) (s3_2:Int):Option jc:=VF N N (o_2,s1_2,s2_2,s3_2) ()
def VD (N:Nat):qG:=smL VE [(.sl 16 (.ba 16)),(.i .i64),(.i .i64),(.i .i64)] jc (fun x=>ZJ N x.1 x.2.1 x.2.2.1 x.2.2.2.1) cs1 fun x=>jE (x.1,x.2.1,x.2.2.1,x.2.2.2.1)
theorem qbr (N:Nat):vJ Tryz.prog Z6 133 (q8 qlL 2) (VD N):=jk fun x z h=>qbI N (x.1,x.2.1,x.2.2.1,x.2.2.2.1) N () z h
def qdi (z:List (Vector UInt8 16)):TV×THp:=(.tup [],[(75,.vec false 16 (.sl 16 (.ba 16)) z)])
def Z_ (N:Nat) (a0:List (Vector UInt8 16)) (a1:Int) (a2:Int) (a3:Int):Tree (List (Vector UInt8 16)):=
 .bind (jV [(a0.length,a0.length)] (ZJ N a0 a1 a2 a3)) fun z1=>
 .ret z1
def QU (N:Nat) (a0:List (Vector UInt8 16)) (a1:Int) (a2:Int) (a3:Int):Option (List (Vector UInt8 16)):=(Z_ N a0 a1 a2 a3).run some
def qdn (N:Nat):List (Nat×qG):=[(2,VD N)]
def X9 (N:Nat):Ent:=smF ⟨133,[],[.vs 75,.x (.i .i64),.x (.i .i64),.x (.i .i64),.fn 115 [] []],[],[(75,.vec false 16)]⟩ [(.sl 16 (.ba 16)),(.i .i64),(.i .i64),(.i .i64)] (List (Vector UInt8 16)) (fun x=>QU N x.1 x.2.1 x.2.2.1 x.2.2.2.1) cs1 fun _=>qdi
theorem qct (N:Nat):q9 Tryz.prog (X9 N):=
 q0 (H:=Z6) (L:=qQ (qdn N)) (ts:=[(.sl 16 (.ba 16)),(.i .i64),(.i .i64),(.i .i64)]) (T:=fun x=>Z_ N x.1 x.2.1 x.2.2.1 x.2.2.2.1) 0 qEC (V4 N) (qu (by kernel_rfl) ⟨qbr N,trivial⟩) (rg0 (by kernel_rfl)) fun x=>by kernel_rfl
noncomputable def qCH:Code:=Tryz.f114.body.getD .skip
theorem qDH:FnF Tryz.prog 114 Tryz.f114 qCH:=⟨qj,by kernel_rfl,by kernel_rfl,by kernel_rfl⟩
def qju:TH:={ live:=[(0,[0,1,4])],raw:=[133] }
def qi5 (N:Nat):List Ent:=[qfy,X9 N]
theorem qf5 (N:Nat):qT Tryz.prog (qi5 N):=⟨qpb,qct N,trivial⟩
def qja (z:List (Vector UInt8 16)):TV×THp:=(.tup [],[(75,.vec false 16 (.sl 16 (.ba 16)) z)])
def XB (N:Nat) (a0:List (Vector UInt8 16)):Tree (List (Vector UInt8 16)):=
 let w1:Int:=IntKind.u64.wrap ((a0.length:Nat):Int)
 .bind (KW w1) fun r2=>
 .bind (jV [(a0.length,a0.length)] (QU N a0 0 ((a0.length:Nat):Int) r2)) fun r3=>
 .ret r3
def Vh (N:Nat) (a0:List (Vector UInt8 16)):Option (List (Vector UInt8 16)):=(XB N a0).run some
def qij (N:Nat):List (Nat×qG):=[]
def qa3 (N:Nat):Ent:=smF ⟨114,[],[.vs 75,.fn 115 [] []],[],[(75,.vec false 16)]⟩ [(.sl 16 (.ba 16))] (List (Vector UInt8 16)) (fun x=>Vh N x.1) cs1 fun _=>qja
theorem qhp (N:Nat):q9 Tryz.prog (qa3 N):=
 q0 (H:=qju) (L:=qQ (qij N)) (ts:=[(.sl 16 (.ba 16))]) (T:=fun x=>XB N x.1) 0 qDH (qf5 N) (qu (by kernel_rfl) trivial) (rg0 (by kernel_rfl)) fun x=>by kernel_rfl
noncomputable def qe3:Code:=Tryz.f83.body.getD .skip
theorem qE8:FnF Tryz.prog 83 Tryz.f83 qe3:=⟨qj,by kernel_rfl,by kernel_rfl,by kernel_rfl⟩
def KI:TH:={ live:=[(0,[2,3,4]),(1,[2,3,4,22]),(2,[4,5]),(3,[2,3,4,6]),(4,[2,3,4,6,7]),(5,[4,6,7,30,31,32]),(6,[4,6,7,30,31,32,33]),(7,[4,6,7,9,30,31,32]),(8,[4,6,7,9,10,11,30,31,32]),(9,[4,6,7,9,10,30,31,32,44]),(10,[4,6,7,9,30,31,32]),(11,[4,6,7,30,31,32]),(12,[4,6,7,30,31,32]),(13,[4,6,7,30,31,32]),(14,[4,6,7,67]),(15,[4,5]),(16,[4,6,7]),(17,[4,6,7,12]),(18,[4,6,12,71,72,73]),(19,[4,6,12,71,72,73,74]),(20,[4,6,12,14,71,72,73]),(21,[4,6,12,71,72,73]),(22,[4,6,12,71,72,73]),(23,[4,5])],dec:=[18],raw:=[114],nil:=[(0,[⟨.ob 40 [0],43,(.sl 19 qg)⟩]),(2,[⟨.ob 40 [0],43,(.sl 19 qg)⟩]),(4,[⟨.sl 7,75,(.sl 16 (.ba 16))⟩]),(8,[⟨.ob 100 [2],105,(.sl 4 qp)⟩]),(15,[⟨.ob 40 [0],43,(.sl 19 qg)⟩]),(17,[⟨.ob 120 [0],123,(.sl 19 qg)⟩])] }
def qgm (N:Nat):List Ent:=[qdQ N,qbK N,qi0,qq9 N,qa3 N]
theorem qc0 (N:Nat):qT Tryz.prog (qgm N):=⟨qgn N,qi3 N,qoa,qyq N,qhp N,trivial⟩
abbrev Y3:=List qa×List qa×Int
abbrev JB:=List (Vector UInt8 16)×Nat×List (Vector UInt8 16×qa×Nat)×Int×Bool
def Xf (f:Y3) (y:JB):Ex×TSt:=(.exit 0,⟨0,87,[],[(4,.p 40 [] 0),(6,.m 240),(7,.v 75 y.1.length),(30,.tv (.sl 19 qg) f.2.1),(31,xi f.2.2),(32,xi y.2.2.2.1),(33,xb y.2.2.2.2)],[(40,.cell false (.ag [.v 43 f.1.length])),(43,.vec false 19 (.sl 19 qg) f.1),(75,.vec false 16 (.sl 16 (.ba 16)) (y.1:List (Vector UInt8 16))),(240,.map y.2.1 (.ba 16) qg (y.2.2.1:List (Vector UInt8 16×qa×Nat)))],false,[]⟩)
def qsE (N:Nat):List (Nat×qG):=[]
abbrev Xa:=List (Vector UInt8 16)×Nat×List (Vector UInt8 16×qa×Nat)×Int
def qhu:SP:=⟨0,87,[],[(4,.k (.p 40 [] 0)),(6,.k (.m 240)),(7,.vs 75),(30,.x (.sl 19 qg)),(31,.x (.i .i64)),(32,.x (.i .i64))],[(40,.cell false (.ag [.vs 43])),(43,.vec false 19),(75,.vec false 16),(240,.map (.ba 16) qg)],false,[]⟩
def qr3 (f:Y3) (v:Xa):TSt:=jh qhu [dv (.sl 19 qg) f.1,dv (.sl 16 (.ba 16)) v.1,dv .nat v.2.1,dv (XO (.ba 16) qg) v.2.2.1,dv (.sl 19 qg) f.2.1,dv (.i .i64) f.2.2,dv (.i .i64) v.2.2.2]
def V8 (N:Nat) (o_6:List qa) (s30_6:List qa) (s31_6:Int) (v:Xa):Tree (Xa⊕JB):=
 .cond (decide (v.2.2.2 < s31_6)) (
 .bind (zl s30_6 v.2.2.2) fun e1=>
 .opt (fnd (β:=qa) (.ba 16) (qa.ID e1) v.2.2.1) (
 .chk (Vt v.1.length v.1.length ((v.1++[qa.ID e1]).length) 16) <|
 .bind (K_ e1) fun r3=>
 .chk (qz (v.2.2.2 + 1)) <|
 .ret (.inl (v.1++[qa.ID e1],(QI (.ba 16) (qa.ID e1) (qa.mk (qa.ID e1) (qa.qX e1) ((([]:List qb))++(qa.F e1))) v.2.1 v.2.2.1).1,(QI (.ba 16) (qa.ID e1) (qa.mk (qa.ID e1) (qa.qX e1) ((([]:List qb))++(qa.F e1))) v.2.1 v.2.2.1).2,v.2.2.2 + 1))) fun e2=>
 .bind (qiI N e2.1 e1) fun r3=>
 .chk (qz (v.2.2.2 + 1)) <|
 .ret (.inl (v.1,(QI (.ba 16) (qa.ID e1) r3.1 v.2.1 v.2.2.1).1,(QI (.ba 16) (qa.ID e1) r3.1 v.2.1 v.2.2.1).2,v.2.2.2 + 1))) <|
 .ret (.inr (v.1,v.2.1,v.2.2.1,v.2.2.2,decide (v.2.2.2 < s31_6)))
def qhk (N n:Nat) (f:Y3) (v:Xa):Option JB:=q6 (V8 N f.1 f.2.1 f.2.2) some n v
theorem qr7 (N:Nat) (f:Y3) (n:Nat) (v:Xa) (y:JB) (h:qhk N n f v=some y):LG Tryz.prog KI 83 (q8 qe3 6) (qr3 f v) (Xf f y):=
 zQ qj (E:=qgm N) (L:=qQ (qsE N)) (st:=Xf f) (g:=some) (R:=Xf f) (qc0 N) (qu (by kernel_rfl) trivial) (rg0 (by kernel_rfl)) (fun v=>by kernel_rfl) (zg (st:=Xf f) fun y=>by rfl) n v y h
def qeh (N:Nat) (o_6:List qa) (s30_6:List qa) (s31_6:Int) (o_6_2:List (Vector UInt8 16)) (o_6_3:Nat) (o_6_4:List (Vector UInt8 16×qa×Nat)) (s32_6:Int):Option JB:=qhk N N (o_6,s30_6,s31_6) (o_6_2,o_6_3,o_6_4,s32_6)
def qhU (N:Nat):qG:=smL qhu [(.sl 19 qg),(.sl 16 (.ba 16)),.nat,(XO (.ba 16) qg),(.sl 19 qg),(.i .i64),(.i .i64)] JB (fun x=>qeh N x.1 x.2.2.2.2.1 x.2.2.2.2.2.1 x.2.1 x.2.2.1 x.2.2.2.1 x.2.2.2.2.2.2.1) cs1 fun x=>Xf (x.1,x.2.2.2.2.1,x.2.2.2.2.2.1)
theorem qqr (N:Nat):vJ Tryz.prog KI 83 (q8 qe3 6) (qhU N):=jk fun x z h=>qr7 N (x.1,x.2.2.2.2.1,x.2.2.2.2.2.1) N (x.2.1,x.2.2.1,x.2.2.2.1,x.2.2.2.2.2.2.1) z h
abbrev WR:=List qa×List (Vector UInt8 16)×Nat×List (Vector UInt8 16×qa×Nat)×Nat×Int
abbrev Z1:=List qa×Int×Bool
def J5 (f:WR) (y:Z1):Ex×TSt:=(.exit 2,⟨0,87,[],[(4,.p 40 [] 0),(6,.m 240),(12,.p 120 [] 0),(71,.v 75 f.2.2.2.2.1),(72,xi f.2.2.2.2.2),(73,xi y.2.1),(74,xb y.2.2)],[(40,.cell false (.ag [.v 43 f.1.length])),(43,.vec false 19 (.sl 19 qg) f.1),(75,.vec false 16 (.sl 16 (.ba 16)) f.2.1),(120,.cell false (.ag [.v 123 y.1.length])),(123,.vec false 19 (.sl 19 qg) (y.1:List qa)),(240,.map f.2.2.1 (.ba 16) qg f.2.2.2.1)],false,[]⟩)
def qrs (N:Nat):List (Nat×qG):=[]
abbrev Vj:=List qa×Int
def qfI:SP:=⟨0,87,[],[(4,.k (.p 40 [] 0)),(6,.k (.m 240)),(12,.k (.p 120 [] 0)),(71,.v 75),(72,.x (.i .i64)),(73,.x (.i .i64))],[(40,.cell false (.ag [.vs 43])),(43,.vec false 19),(75,.vec false 16),(120,.cell false (.ag [.vs 123])),(123,.vec false 19),(240,.map (.ba 16) qg)],false,[]⟩
def qqH (f:WR) (v:Vj):TSt:=jh qfI [dv (.sl 19 qg) f.1,dv (.sl 16 (.ba 16)) f.2.1,dv (.sl 19 qg) v.1,dv .nat f.2.2.1,dv (XO (.ba 16) qg) f.2.2.2.1,dv .nat f.2.2.2.2.1,dv (.i .i64) f.2.2.2.2.2,dv (.i .i64) v.2]
def WI (N:Nat) (o_19:List qa) (o_19_2:List (Vector UInt8 16)) (o_19_4:Nat) (o_19_5:List (Vector UInt8 16×qa×Nat)) (s71_19:Nat) (s72_19:Int) (v:Vj):Tree (Vj⊕Z1):=
 .cond (decide (v.2 < s72_19)) (
 .chk (0≤v.2∧v.2 < ((s71_19:Nat):Int)) <|
 .bind (Kn o_19_2 s71_19 v.2.toNat) fun e1=>
 .opt (fnd (β:=qa) (.ba 16) e1 o_19_5) (
 .chk (Vt v.1.length v.1.length ((v.1++[qa.mk ((Vector.replicate 16 0)) (qe.mk 0 0) []]).length) 56) <|
 .chk (qz (v.2 + 1)) <|
 .ret (.inl (v.1++[qa.mk ((Vector.replicate 16 0)) (qe.mk 0 0) []],v.2 + 1))) fun e2=>
 .chk (Vt v.1.length v.1.length ((v.1++[e2.1]).length) 56) <|
 .chk (qz (v.2 + 1)) <|
 .ret (.inl (v.1++[e2.1],v.2 + 1))) <|
 .ret (.inr (v.1,v.2,decide (v.2 < s72_19)))
def qfx (N n:Nat) (f:WR) (v:Vj):Option Z1:=q6 (WI N f.1 f.2.1 f.2.2.1 f.2.2.2.1 f.2.2.2.2.1 f.2.2.2.2.2) some n v
theorem qrz (N:Nat) (f:WR) (n:Nat) (v:Vj) (y:Z1) (h:qfx N n f v=some y):LG Tryz.prog KI 83 (q8 qe3 19) (qqH f v) (J5 f y):=
 zQ qj (E:=qgm N) (L:=qQ (qrs N)) (st:=J5 f) (g:=some) (R:=J5 f) (qc0 N) (qu (by kernel_rfl) trivial) (rg0 (by kernel_rfl)) (fun v=>by kernel_rfl) (zg (st:=J5 f) fun y=>by rfl) n v y h
def qdg (N:Nat) (o_19:List qa) (o_19_2:List (Vector UInt8 16)) (o_19_4:Nat) (o_19_5:List (Vector UInt8 16×qa×Nat)) (s71_19:Nat) (s72_19:Int) (o_19_3:List qa) (s73_19:Int):Option Z1:=qfx N N (o_19,o_19_2,o_19_4,o_19_5,s71_19,s72_19) (o_19_3,s73_19)
def qfK (N:Nat):qG:=smL qfI [(.sl 19 qg),(.sl 16 (.ba 16)),(.sl 19 qg),.nat,(XO (.ba 16) qg),.nat,(.i .i64),(.i .i64)] Z1 (fun x=>qdg N x.1 x.2.1 x.2.2.2.1 x.2.2.2.2.1 x.2.2.2.2.2.1 x.2.2.2.2.2.2.1 x.2.2.1 x.2.2.2.2.2.2.2.1) cs1 fun x=>J5 (x.1,x.2.1,x.2.2.2.1,x.2.2.2.2.1,x.2.2.2.2.2.1,x.2.2.2.2.2.2.1)
theorem qpn (N:Nat):vJ Tryz.prog KI 83 (q8 qe3 19) (qfK N):=jk fun x z h=>qrz N (x.1,x.2.1,x.2.2.2.1,x.2.2.2.2.1,x.2.2.2.2.2.1,x.2.2.2.2.2.2.1) N (x.2.2.1,x.2.2.2.2.2.2.2.1) z h
def qyh (z:qd×Int):TV×THp:=(.tup [.tv qR (z.1:qd),xi z.2],[])
def qck (N:Nat) (a0:qd) (a1:qd):Tree (qd×Int):=
 .bind (Yp N a0) fun r1=>
 .cond (!r1) (
 .chk (0=0) <|
 .ret (qd.mk [],1)) <|
 .bind (Yp N a1) fun r2=>
 .cond (!r2) (
 .chk (0=0) <|
 .ret (qd.mk [],1)) <|
 .bind (VL N [qd.R a0,qd.R a1]) fun r3=>
 .bind (jV [(([]:List qa).length,0),(([]:List (Vector UInt8 16)).length,0)] (qeh N [] r3 ((r3.length:Nat):Int) [] 0 [] 0)) fun z4=>
 .cond (decide (((10:Int)) < ((z4.1.length:Nat):Int))) (
 .chk (0=0) <|
 .ret (qd.mk [],4)) <|
 .bind (jV [(z4.1.length,z4.1.length)] (Vh N z4.1)) fun r5=>
 .bind (jV [(([]:List qa).length,0),(([]:List qa).length,0)] (qdg N [] r5 z4.2.1 z4.2.2.1 z4.1.length ((z4.1.length:Nat):Int) [] 0)) fun z6=>
 .chk (z6.1.length=z6.1.length) <|
 .ret (qd.mk z6.1,0)
def Xm (N:Nat) (a0:qd) (a1:qd):Option (qd×Int):=(qck N a0 a1).run some
def qy1 (N:Nat):List (Nat×qG):=[(6,qhU N),(19,qfK N)]
def qn0 (N:Nat):Ent:=smF ⟨83,[],[.x qR,.x qR],[],[]⟩ [qR,qR] (qd×Int) (fun x=>Xm N x.1 x.2.1) cs1 fun _=>qyh
theorem qv1 (N:Nat):q9 Tryz.prog (qn0 N):=
 q0 (H:=KI) (L:=qQ (qy1 N)) (ts:=[qR,qR]) (T:=fun x=>qck N x.1 x.2.1) 0 qE8 (qc0 N) (qu (by kernel_rfl) ⟨qqr N,qpn N,trivial⟩) (rg0 (by kernel_rfl)) fun x=>by kernel_rfl
noncomputable def qo0:Code:=Tryz.f68.body.getD .skip
theorem qGB:FnF Tryz.prog 68 Tryz.f68 qo0:=⟨qj,by kernel_rfl,by kernel_rfl,by kernel_rfl⟩
def qgY:TH:={ live:=[(0,[2,3,4]),(1,[2,3,4,6]),(2,[2,3,4,6,39]),(3,[4,5]),(4,[2,4,47,48,49]),(5,[2,4,47,48,49,50]),(6,[2,4,8,47,48,49]),(7,[2,4,8,47,48,49,54]),(8,[2,4,9,10,47,48,49]),(9,[2,4,9,10,47,48,49,64]),(10,[4,5]),(11,[2,4,47,48,49]),(12,[2,4,47,48,49]),(13,[4,5])],dec:=[19,23,29,34],nil:=[(0,[⟨.ob 40 [0],43,(.sl 19 qg)⟩]),(3,[⟨.ob 40 [0],43,(.sl 19 qg)⟩]),(10,[⟨.ob 40 [0],43,(.sl 19 qg)⟩])] }
def qn7 (N:Nat):List Ent:=[qdQ N,qlF,KE,qfQ N,qn0 N]
theorem qjO (N:Nat):qT Tryz.prog (qn7 N):=⟨qgn N,qtX,qbC,qje N,qv1 N,trivial⟩
abbrev YV:=List qa×List qa×Int
abbrev Jy:=(qd×Int×Bool)⊕Int
def Xb (f:YV):Jy→Ex×TSt
 | .inl y=>(.exit 0,⟨0,70,[],[(2,.p 20 [] 0),(4,.p 40 [] 0),(47,.tv (.sl 19 qg) f.2.1),(48,xi f.2.2),(49,xi y.2.1),(50,xb y.2.2)],[(20,.cell false (.tv qR (y.1:qd))),(40,.cell false (.ag [.v 43 f.1.length])),(43,.vec false 19 (.sl 19 qg) f.1)],false,[]⟩)
 | .inr y=>(.ret,⟨0,70,[],[(4,.p 40 [] 0),(5,xi y)],[(40,.cell false (.ag [.v 43 0])),(43,.vec false 19 (.sl 19 qg) ([]:List qa))],false,[]⟩)
def qsy (N:Nat):List (Nat×qG):=[]
abbrev Xh:=qd×Int
def qhh:SP:=⟨0,70,[],[(2,.k (.p 20 [] 0)),(4,.k (.p 40 [] 0)),(47,.x (.sl 19 qg)),(48,.x (.i .i64)),(49,.x (.i .i64))],[(20,.cell false (.x qR)),(40,.cell false (.ag [.vs 43])),(43,.vec false 19)],false,[]⟩
def qrF (f:YV) (v:Xh):TSt:=jh qhh [dv (.sl 19 qg) f.1,dv qR v.1,dv (.sl 19 qg) f.2.1,dv (.i .i64) f.2.2,dv (.i .i64) v.2]
def VV (N:Nat) (o_5:List qa) (s47_5:List qa) (s48_5:Int) (v:Xh):Tree (Xh⊕Jy):=
 .cond (decide (v.2 < s48_5)) (
 .bind (zl s47_5 v.2) fun e1=>
 .bind (XN e1) fun r2=>
 .cond r2 (
 .chk (qz (v.2 + 1)) <|
 .ret (.inl (v.1,v.2 + 1))) <|
 .bind (Xm N v.1 (qd.mk [e1])) fun r3=>
 .cond (!decide (r3.2=0)) (
 .ret (.inr (.inr r3.2))) <|
 .chk (qz (v.2 + 1)) <|
 .ret (.inl (r3.1,v.2 + 1))) <|
 .ret (.inr (.inl (v.1,v.2,decide (v.2 < s48_5))))
def qhr (N n:Nat) (f:YV) (v:Xh):Option Jy:=q6 (VV N f.1 f.2.1 f.2.2) some n v
theorem qsu (N:Nat) (f:YV) (n:Nat) (v:Xh) (y:Jy) (h:qhr N n f v=some y):LG Tryz.prog qgY 68 (q8 qo0 5) (qrF f v) (Xb f y):=
 zQ qj (E:=qn7 N) (L:=qQ (qsy N)) (st:=Xb f) (g:=some) (R:=Xb f) (qjO N) (qu (by kernel_rfl) trivial) (rg0 (by kernel_rfl)) (fun v=>by kernel_rfl) (zg (st:=Xb f) fun y=>by rcases y with _ | _<;>rfl) n v y h
def VS (N:Nat) (o_5:List qa) (s47_5:List qa) (s48_5:Int) (o_5_2:qd) (s49_5:Int):Option Jy:=qhr N N (o_5,s47_5,s48_5) (o_5_2,s49_5)
def qhI (N:Nat):qG:=smL qhh [(.sl 19 qg),qR,(.sl 19 qg),(.i .i64),(.i .i64)] Jy (fun x=>VS N x.1 x.2.2.1 x.2.2.2.1 x.2.1 x.2.2.2.2.1) (csS cs1) fun x=>Xb (x.1,x.2.2.1,x.2.2.2.1)
theorem qq5 (N:Nat):vJ Tryz.prog qgY 68 (q8 qo0 5) (qhI N):=jk fun x z h=>qsu N (x.1,x.2.2.1,x.2.2.2.1) N (x.2.1,x.2.2.2.2.1) z h
def qyF (z:qd×Int):TV×THp:=(.tup [.tv qR (z.1:qd),xi z.2],[])
def qgw (N:Nat) (a0:qd) (a1:qa):Tree (qd×Int):=
 .bind (Yp N a0) fun r1=>
 .cond (!r1) (
 .chk (0=0) <|
 .ret (qd.mk [],1)) <|
 .bind (XN a1) fun r2=>
 .cond r2 (
 .chk (0=0) <|
 .ret (qd.mk [],1)) <|
 .bind (Ys (qa.qX a1)) fun r3=>
 .cond (!r3) (
 .chk (0=0) <|
 .ret (qd.mk [],1)) <|
 .cond (decide (((0:Int)) < (((qa.F a1).length:Nat):Int))) (
 .bind (qbR N (qa.mk (qa.ID a1) (qe.mk 0 0) (qa.F a1))) fun r4=>
 .cond (!r4) (
 .chk (0=0) <|
 .ret (qd.mk [],1)) <|
 .bind (jV [(([]:List qa).length,0)] (VS N [] [qa.mk (qa.ID a1) (qa.qX a1) [],qa.mk (qa.ID a1) (qe.mk 0 0) (qa.F a1)] (((([qa.mk (qa.ID a1) (qa.qX a1) [],qa.mk (qa.ID a1) (qe.mk 0 0) (qa.F a1)]:List qa)).length:Nat):Int) a0 0)) fun z5=>
 .sum z5 (fun z6=>
 .ret (z6.1,0)) fun z6=>
 .chk (0=0) <|
 .ret (qd.mk [],z6)) <|
 .bind (jV [(([]:List qa).length,0)] (VS N [] [qa.mk (qa.ID a1) (qa.qX a1) [],qa.mk (qa.ID a1) (qe.mk 0 0) (qa.F a1)] (((([qa.mk (qa.ID a1) (qa.qX a1) [],qa.mk (qa.ID a1) (qe.mk 0 0) (qa.F a1)]:List qa)).length:Nat):Int) a0 0)) fun z4=>
 .sum z4 (fun z5=>
 .ret (z5.1,0)) fun z5=>
 .chk (0=0) <|
 .ret (qd.mk [],z5)
def Xn (N:Nat) (a0:qd) (a1:qa):Option (qd×Int):=(qgw N a0 a1).run some
def qyI (N:Nat):List (Nat×qG):=[(5,qhI N)]
def qn3 (N:Nat):Ent:=smF ⟨68,[],[.x qR,.x qg],[],[]⟩ [qR,qg] (qd×Int) (fun x=>Xn N x.1 x.2.1) cs1 fun _=>qyF
theorem qvM (N:Nat):q9 Tryz.prog (qn3 N):=
 q0 (H:=qgY) (L:=qQ (qyI N)) (ts:=[qR,qg]) (T:=fun x=>qgw N x.1 x.2.1) 0 qGB (qjO N) (qu (by kernel_rfl) ⟨qq5 N,trivial⟩) (rg0 (by kernel_rfl)) fun x=>by kernel_rfl
noncomputable def qGL:Code:=Tryz.f65.body.getD .skip
theorem qGD:FnF Tryz.prog 65 Tryz.f65 qGL:=⟨qj,by kernel_rfl,by kernel_rfl,by kernel_rfl⟩
def qru:TH:={ live:=[(0,[1]),(1,[2,3])] }
def qp3 (N:Nat):List Ent:=[]
theorem qm9 (N:Nat):qT Tryz.prog (qp3 N):=trivial
def qqp (a0:qW) (z:Unit):TV×THp:=(.tup [.tv .s (qf.V (qW.o a0)),.ic .i64 0],[])
def qfO (a0:qW):Tree (Unit):=
 .ret ()
def qdj (a0:qW):Option (Unit):=(qfO a0).run some
def qqZ:List (Nat×qG):=[]
def qfp:Ent:=smF ⟨65,[],[.x js],[],[]⟩ [js] (Unit) (fun x=>qdj x.1) cs1 fun x=>qqp x.1
theorem qou:q9 Tryz.prog (qfp):=
 q0 (H:=qru) (L:=qQ (qqZ)) (ts:=[js]) (T:=fun x=>qfO x.1) 0 qGD (qm9 0) (qu (by kernel_rfl) trivial) (rg0 (by kernel_rfl)) fun x=>by kernel_rfl
noncomputable def qFB:Code:=Tryz.f74.body.getD .skip
theorem qHc:FnF Tryz.prog 74 Tryz.f74 qFB:=⟨qj,by kernel_rfl,by kernel_rfl,by kernel_rfl⟩
def qt8:TH:={ live:=[(0,[1,2]),(1,[3])] }
def qui (N:Nat):List Ent:=[]
theorem qqv (N:Nat):qT Tryz.prog (qui N):=trivial
def qt3 (a0:Vector UInt8 16) (a1:qa) (z:Unit):TV×THp:=(xb (eqE (.ba 16) (qa.ID a1) a0),[(30,.cell false (.tv (.ba 16) a0))])
def qc2 (a0:Vector UInt8 16) (a1:qa):Tree (Unit):=
 .ret ()
def qgJ (a0:Vector UInt8 16) (a1:qa):Option (Unit):=(qc2 a0 a1).run some
def quh:List (Nat×qG):=[]
def qjE:Ent:=smF ⟨74,[],[.x qg],[.k (.p 30 [] 0)],[(30,.cell false (.x (.ba 16)))]⟩ [(.ba 16),qg] (Unit) (fun x=>qgJ x.1 x.2.1) cs1 fun x=>qt3 x.1 x.2.1
theorem qsd:q9 Tryz.prog (qjE):=
 q0 (H:=qt8) (L:=qQ (quh)) (ts:=[(.ba 16),qg]) (T:=fun x=>qc2 x.1 x.2.1) 0 qHc (qqv 0) (qu (by kernel_rfl) trivial) (rg0 (by kernel_rfl)) fun x=>by kernel_rfl
noncomputable def qok:Code:=Tryz.f73.body.getD .skip
theorem qE9:FnF Tryz.prog 73 Tryz.f73 qok:=⟨qj,by kernel_rfl,by kernel_rfl,by kernel_rfl⟩
def Vn:TH:={ live:=[(0,[0,1]),(1,[0,1,7,8]),(2,[0,1,7,8,9]),(3,[0,1,5,7,8]),(4,[0,1,5,7,8,16]),(5,[4]),(6,[0,1,7,8]),(7,[4])] }
def KM (N:Nat):List Ent:=[qjE]
theorem Yf (N:Nat):qT Tryz.prog (KM N):=⟨qsd,trivial⟩
abbrev QG:=Vector UInt8 16×List qa×Int
abbrev jz:=Int⊕(Int×Bool)
def vp (f:QG):jz→Ex×TSt
 | .inl y=>(.ret,⟨1,19,[30],[(4,xi y)],[(30,.cell false (.tv (.ba 16) f.1))],false,[]⟩)
 | .inr y=>(.exit 0,⟨1,19,[30],[(0,.tv (.sl 19 qg) f.2.1),(1,.fn (.func 74) [] [.p 30 [] 0]),(7,xi f.2.2),(8,xi y.1),(9,xb y.2)],[(30,.cell false (.tv (.ba 16) f.1))],false,[]⟩)
def qdT (N:Nat):List (Nat×qG):=[]
abbrev vn:=Int
def WG:SP:=⟨1,19,[30],[(0,.x (.sl 19 qg)),(1,.fn 74 [] [.k (.p 30 [] 0)]),(7,.x (.i .i64)),(8,.x (.i .i64))],[(30,.cell false (.x (.ba 16)))],false,[]⟩
def qdD (f:QG) (v:vn):TSt:=jh WG [dv (.ba 16) f.1,dv (.sl 19 qg) f.2.1,dv (.i .i64) f.2.2,dv (.i .i64) v]
def vl (N:Nat) (o_2:Vector UInt8 16) (s0_2:List qa) (s7_2:Int) (v:vn):Tree (vn⊕jz):=
 .cond (decide (v < s7_2)) (
 .bind (zl s0_2 v) fun e1=>
 .bind (qgJ o_2 e1) fun r2=>
 .cond (eqE (.ba 16) (qa.ID e1) o_2) (
 .ret (.inr (.inl v))) <|
 .chk (qz (v + 1)) <|
 .ret (.inl (v + 1))) <|
 .ret (.inr (.inr ((v,decide (v < s7_2)))))
def WO (N n:Nat) (f:QG) (v:vn):Option jz:=q6 (vl N f.1 f.2.1 f.2.2) some n v
theorem qdL (N:Nat) (f:QG) (n:Nat) (v:vn) (y:jz) (h:WO N n f v=some y):LG Tryz.prog Vn 73 (q8 qok 2) (qdD f v) (vp f y):=
 zQ qj (E:=KM N) (L:=qQ (qdT N)) (st:=vp f) (g:=some) (R:=vp f) (Yf N) (qu (by kernel_rfl) trivial) (rg0 (by kernel_rfl)) (fun v=>by kernel_rfl) (zg (st:=vp f) fun y=>by rcases y with _ | _<;>rfl) n v y h
def JV (N:Nat) (o_2:Vector UInt8 16) (s0_2:List qa) (s7_2:Int) (s8_2:Int):Option jz:=WO N N (o_2,s0_2,s7_2) s8_2
def WN (N:Nat):qG:=smL WG [(.ba 16),(.sl 19 qg),(.i .i64),(.i .i64)] jz (fun x=>JV N x.1 x.2.1 x.2.2.1 x.2.2.2.1) (csS cs1) fun x=>vp (x.1,x.2.1,x.2.2.1)
theorem qda (N:Nat):vJ Tryz.prog Vn 73 (q8 qok 2) (WN N):=jk fun x z h=>qdL N (x.1,x.2.1,x.2.2.1) N x.2.2.2.1 z h
def qgK (a0:Vector UInt8 16) (z:Int):TV×THp:=(xi z,[(30,.cell false (.tv (.ba 16) a0))])
def Vv (N:Nat) (a0:Vector UInt8 16) (a1:List qa):Tree (Int):=
 .bind (JV N a0 a1 ((a1.length:Nat):Int) 0) fun z1=>
 .sum z1 (fun z2=>
 .ret z2) fun z2=>
 .ret (-1)
def Jh (N:Nat) (a0:Vector UInt8 16) (a1:List qa):Option (Int):=(Vv N a0 a1).run some
def qgX (N:Nat):List (Nat×qG):=[(2,WN N)]
def Kx (N:Nat):Ent:=smF ⟨73,[],[.x (.sl 19 qg),.fn 74 [] [.k (.p 30 [] 0)]],[],[(30,.cell false (.x (.ba 16)))]⟩ [(.ba 16),(.sl 19 qg)] (Int) (fun x=>Jh N x.1 x.2.1) cs1 fun x=>qgK x.1
theorem qfb (N:Nat):q9 Tryz.prog (Kx N):=
 q0 (H:=Vn) (L:=qQ (qgX N)) (ts:=[(.ba 16),(.sl 19 qg)]) (T:=fun x=>Vv N x.1 x.2.1) 0 qE9 (Yf N) (qu (by kernel_rfl) ⟨qda N,trivial⟩) (rg0 (by kernel_rfl)) fun x=>by kernel_rfl
noncomputable def qGz:Code:=Tryz.f27.body.getD .skip
theorem qHu:FnF Tryz.prog 27 Tryz.f27 qGz:=⟨qj,by kernel_rfl,by kernel_rfl,by kernel_rfl⟩
def qyU:TH:={ live:=[(0,[2,3,4]),(1,[2,4,6]),(2,[2,4,6,12]),(3,[4,5]),(4,[4,5])],nil:=[(0,[⟨.ob 40 [2],45,(.sl 4 qp)⟩]),(3,[⟨.ob 40 [2],45,(.sl 4 qp)⟩])] }
def qx4 (N:Nat):List Ent:=[Kx N,qi0]
theorem qup (N:Nat):qT Tryz.prog (qx4 N):=⟨qfb N,qoa,trivial⟩
def qyO (z:qa×Bool):TV×THp:=(.tup [.tv qg (z.1:qa),xb z.2],[])
def qgj (N:Nat) (a0:qd) (a1:Vector UInt8 16):Tree (qa×Bool):=
 .bind (Jh N a1 (qd.R a0)) fun r1=>
 .cond (decide (r1 < ((0:Int)))) (
 .chk (0=0) <|
 .ret (qa.mk ((Vector.replicate 16 0)) (qe.mk 0 0) [],false)) <|
 .bind (zl (qd.R a0) r1) fun e2=>
 .bind (K_ e2) fun r3=>
 .ret (qa.mk (qa.ID e2) (qa.qX e2) ((([]:List qb))++(qa.F e2)),true)
def qfV (N:Nat) (a0:qd) (a1:Vector UInt8 16):Option (qa×Bool):=(qgj N a0 a1).run some
def qym (N:Nat):List (Nat×qG):=[]
def qnQ (N:Nat):Ent:=smF ⟨27,[],[.x qR,.x (.ba 16)],[],[]⟩ [qR,(.ba 16)] (qa×Bool) (fun x=>qfV N x.1 x.2.1) cs1 fun _=>qyO
theorem qwH (N:Nat):q9 Tryz.prog (qnQ N):=
 q0 (H:=qyU) (L:=qQ (qym N)) (ts:=[qR,(.ba 16)]) (T:=fun x=>qgj N x.1 x.2.1) 0 qHu (qup N) (qu (by kernel_rfl) trivial) (rg0 (by kernel_rfl)) fun x=>by kernel_rfl
noncomputable def qGx:Code:=Tryz.f77.body.getD .skip
theorem qFG:FnF Tryz.prog 77 Tryz.f77 qGx:=⟨qj,by kernel_rfl,by kernel_rfl,by kernel_rfl⟩
def qxT:TH:={ live:=[(0,[1,2]),(1,[3])] }
def qvN (N:Nat):List Ent:=[]
theorem qrY (N:Nat):qT Tryz.prog (qvN N):=trivial
def qvS (a0:Int) (a1:qb) (z:Unit):TV×THp:=(xb (decide ((qb.No a1)=a0)),[(30,.cell false (xi a0))])
def qep (a0:Int) (a1:qb):Tree (Unit):=
 .ret ()
def qid (a0:Int) (a1:qb):Option (Unit):=(qep a0 a1).run some
def qwy:List (Nat×qG):=[]
def qlz:Ent:=smF ⟨77,[],[.x qp],[.k (.p 30 [] 0)],[(30,.cell false (.x (.i .i64)))]⟩ [(.i .i64),qp] (Unit) (fun x=>qid x.1 x.2.1) cs1 fun x=>qvS x.1 x.2.1
theorem quw:q9 Tryz.prog (qlz):=
 q0 (H:=qxT) (L:=qQ (qwy)) (ts:=[(.i .i64),qp]) (T:=fun x=>qep x.1 x.2.1) 0 qFG (qrY 0) (qu (by kernel_rfl) trivial) (rg0 (by kernel_rfl)) fun x=>by kernel_rfl
noncomputable def qot:Code:=Tryz.f76.body.getD .skip
theorem qGs:FnF Tryz.prog 76 Tryz.f76 qot:=⟨qj,by kernel_rfl,by kernel_rfl,by kernel_rfl⟩
def JE:TH:={ live:=[(0,[0,1]),(1,[0,1,7,8]),(2,[0,1,7,8,9]),(3,[0,1,5,7,8]),(4,[0,1,5,7,8,16]),(5,[4]),(6,[0,1,7,8]),(7,[4])] }
def Yh (N:Nat):List Ent:=[qlz]
theorem Wa (N:Nat):qT Tryz.prog (Yh N):=⟨quw,trivial⟩
abbrev vW:=Int×List qb×Int
abbrev jn:=Int⊕(Int×Bool)
def jN (f:vW):jn→Ex×TSt
 | .inl y=>(.ret,⟨1,19,[30],[(4,xi y)],[(30,.cell false (xi f.1))],false,[]⟩)
 | .inr y=>(.exit 0,⟨1,19,[30],[(0,.tv (.sl 4 qp) f.2.1),(1,.fn (.func 77) [] [.p 30 [] 0]),(7,xi f.2.2),(8,xi y.1),(9,xb y.2)],[(30,.cell false (xi f.1))],false,[]⟩)
def qcT (N:Nat):List (Nat×qG):=[]
abbrev jL:=Int
def Xr:SP:=⟨1,19,[30],[(0,.x (.sl 4 qp)),(1,.fn 77 [] [.k (.p 30 [] 0)]),(7,.x (.i .i64)),(8,.x (.i .i64))],[(30,.cell false (.x (.i .i64)))],false,[]⟩
def qcz (f:vW) (v:jL):TSt:=jh Xr [dv (.i .i64) f.1,dv (.sl 4 qp) f.2.1,dv (.i .i64) f.2.2,dv (.i .i64) v]
def jO (N:Nat) (o_2:Int) (s0_2:List qb) (s7_2:Int) (v:jL):Tree (jL⊕jn):=
 .cond (decide (v < s7_2)) (
 .bind (zl s0_2 v) fun e1=>
 .bind (qid o_2 e1) fun r2=>
 .cond (decide ((qb.No e1)=o_2)) (
 .ret (.inr (.inl v))) <|
 .chk (qz (v + 1)) <|
 .ret (.inl (v + 1))) <|
 .ret (.inr (.inr ((v,decide (v < s7_2)))))
def Xl (N n:Nat) (f:vW) (v:jL):Option jn:=q6 (jO N f.1 f.2.1 f.2.2) some n v
theorem qcy (N:Nat) (f:vW) (n:Nat) (v:jL) (y:jn) (h:Xl N n f v=some y):LG Tryz.prog JE 76 (q8 qot 2) (qcz f v) (jN f y):=
 zQ qj (E:=Yh N) (L:=qQ (qcT N)) (st:=jN f) (g:=some) (R:=jN f) (Wa N) (qu (by kernel_rfl) trivial) (rg0 (by kernel_rfl)) (fun v=>by kernel_rfl) (zg (st:=jN f) fun y=>by rcases y with _ | _<;>rfl) n v y h
def Jk (N:Nat) (o_2:Int) (s0_2:List qb) (s7_2:Int) (s8_2:Int):Option jn:=Xl N N (o_2,s0_2,s7_2) s8_2
def Xk (N:Nat):qG:=smL Xr [(.i .i64),(.sl 4 qp),(.i .i64),(.i .i64)] jn (fun x=>Jk N x.1 x.2.1 x.2.2.1 x.2.2.2.1) (csS cs1) fun x=>jN (x.1,x.2.1,x.2.2.1)
theorem qbT (N:Nat):vJ Tryz.prog JE 76 (q8 qot 2) (Xk N):=jk fun x z h=>qcy N (x.1,x.2.1,x.2.2.1) N x.2.2.2.1 z h
def qeJ (a0:Int) (z:Int):TV×THp:=(xi z,[(30,.cell false (xi a0))])
def JL (N:Nat) (a0:Int) (a1:List qb):Tree (Int):=
 .bind (Jk N a0 a1 ((a1.length:Nat):Int) 0) fun z1=>
 .sum z1 (fun z2=>
 .ret z2) fun z2=>
 .ret (-1)
def ZA (N:Nat) (a0:Int) (a1:List qb):Option (Int):=(JL N a0 a1).run some
def qeT (N:Nat):List (Nat×qG):=[(2,Xk N)]
def W9 (N:Nat):Ent:=smF ⟨76,[],[.x (.sl 4 qp),.fn 77 [] [.k (.p 30 [] 0)]],[],[(30,.cell false (.x (.i .i64)))]⟩ [(.i .i64),(.sl 4 qp)] (Int) (fun x=>ZA N x.1 x.2.1) cs1 fun x=>qeJ x.1
theorem qdG (N:Nat):q9 Tryz.prog (W9 N):=
 q0 (H:=JE) (L:=qQ (qeT N)) (ts:=[(.i .i64),(.sl 4 qp)]) (T:=fun x=>JL N x.1 x.2.1) 0 qGs (Wa N) (qu (by kernel_rfl) ⟨qbT N,trivial⟩) (rg0 (by kernel_rfl)) fun x=>by kernel_rfl
noncomputable def qF1:Code:=Tryz.f28.body.getD .skip
theorem qGh:FnF Tryz.prog 28 Tryz.f28 qF1:=⟨qj,by kernel_rfl,by kernel_rfl,by kernel_rfl⟩
def qBW:TH:={ live:=[(0,[2,3,4]),(1,[2,4,6]),(2,[2,4,6,12]),(3,[4,5]),(4,[4,5])] }
def qBe (N:Nat):List Ent:=[W9 N]
theorem qwr (N:Nat):qT Tryz.prog (qBe N):=⟨qdG N,trivial⟩
def qAU (z:qc×Bool):TV×THp:=(.tup [.tv qq (z.1:qc),xb z.2],[])
def qi9 (N:Nat) (a0:qa) (a1:Int):Tree (qc×Bool):=
 .bind (ZA N a1 (qa.F a0)) fun r1=>
 .cond (decide (r1 < ((0:Int)))) (
 .ret (qc.mk (qe.mk 0 0) [],false)) <|
 .bind (zl (qa.F a0) r1) fun e2=>
 .ret (qb.C e2,true)
def qiT (N:Nat) (a0:qa) (a1:Int):Option (qc×Bool):=(qi9 N a0 a1).run some
def qA0 (N:Nat):List (Nat×qG):=[]
def qrl (N:Nat):Ent:=smF ⟨28,[],[.x qg,.x (.i .i64)],[],[]⟩ [qg,(.i .i64)] (qc×Bool) (fun x=>qiT N x.1 x.2.1) cs1 fun _=>qAU
theorem qyQ (N:Nat):q9 Tryz.prog (qrl N):=
 q0 (H:=qBW) (L:=qQ (qA0 N)) (ts:=[qg,(.i .i64)]) (T:=fun x=>qi9 N x.1 x.2.1) 0 qGh (qwr N) (qu (by kernel_rfl) trivial) (rg0 (by kernel_rfl)) fun x=>by kernel_rfl
noncomputable def qGm:Code:=Tryz.f93.body.getD .skip
theorem qHn:FnF Tryz.prog 93 Tryz.f93 qGm:=⟨qj,by kernel_rfl,by kernel_rfl,by kernel_rfl⟩
def qov:TH:={ live:=[(0,[2,3,4]),(1,[2,8]),(2,[10,11]),(3,[10,26]),(4,[6,7]),(5,[6,7])] }
def qoW (N:Nat):List Ent:=[qnQ N,qrl N]
theorem qk6 (N:Nat):qT Tryz.prog (qoW N):=⟨qwH N,qyQ N,trivial⟩
def qpi (z:List UInt8×Int):TV×THp:=(.tup [.tv .s (z.1:List UInt8),xi z.2],[])
def qak (N:Nat) (a0:qW) (a1:Vector UInt8 16) (a2:Int):Tree (List UInt8×Int):=
 .bind (qfV N (qW.b a0) a1) fun r1=>
 .bind (qiT N r1.1 a2) fun r2=>
 .cond (!r2.2) (
 .ret ([],6)) <|
 .ret (qc.V r2.1,0)
def Xi (N:Nat) (a0:qW) (a1:Vector UInt8 16) (a2:Int):Option (List UInt8×Int):=(qak N a0 a1 a2).run some
def qoP (N:Nat):List (Nat×qG):=[]
def qaa (N:Nat):Ent:=smF ⟨93,[],[.x js,.x (.ba 16),.x (.i .i64)],[],[]⟩ [js,(.ba 16),(.i .i64)] (List UInt8×Int) (fun x=>Xi N x.1 x.2.1 x.2.2.1) cs1 fun _=>qpi
theorem qdA (N:Nat):q9 Tryz.prog (qaa N):=
 q0 (H:=qov) (L:=qQ (qoP N)) (ts:=[js,(.ba 16),(.i .i64)]) (T:=fun x=>qak N x.1 x.2.1 x.2.2.1) 0 qHn (qk6 N) (qu (by kernel_rfl) trivial) (rg0 (by kernel_rfl)) fun x=>by kernel_rfl
noncomputable def qGq:Code:=Tryz.f92.body.getD .skip
theorem qHl:FnF Tryz.prog 92 Tryz.f92 qGq:=⟨qj,by kernel_rfl,by kernel_rfl,by kernel_rfl⟩
def qkb:TH:={ live:=[(0,[1,2,3]),(1,[1,2,17]),(2,[6,7]),(3,[6,7])],dec:=[10] }
def qkg (N:Nat):List Ent:=[qo4 N]
theorem qh5 (N:Nat):qT Tryz.prog (qkg N):=⟨qty N,trivial⟩
def qks (z:List UInt8×Int):TV×THp:=(.tup [.tv .s (z.1:List UInt8),xi z.2],[])
def WC (N:Nat) (a0:qW) (a1:List UInt8) (a2:Int):Tree (List UInt8×Int):=
 .cond (decide (a2=((0:Int)))) (
 .bind (qhz N a1) fun r1=>
 .cond (!(eqE (.ba 32) r1 (qf.D (qW.o a0)))) (
 .ret ([],7)) <|
 .ret (a1,a2)) <|
 .ret (a1,a2)
def VK (N:Nat) (a0:qW) (a1:List UInt8) (a2:Int):Option (List UInt8×Int):=(WC N a0 a1 a2).run some
def qkc (N:Nat):List (Nat×qG):=[]
def qbP (N:Nat):Ent:=smF ⟨92,[],[.x js,.x .s,.x (.i .i64)],[],[]⟩ [js,.s,(.i .i64)] (List UInt8×Int) (fun x=>VK N x.1 x.2.1 x.2.2.1) cs1 fun _=>qks
theorem qjc (N:Nat):q9 Tryz.prog (qbP N):=
 q0 (H:=qkb) (L:=qQ (qkc N)) (ts:=[js,.s,(.i .i64)]) (T:=fun x=>WC N x.1 x.2.1 x.2.2.1) 0 qHl (qh5 N) (qu (by kernel_rfl) trivial) (rg0 (by kernel_rfl)) fun x=>by kernel_rfl
noncomputable def qGA:Code:=Tryz.f66.body.getD .skip
theorem qHm:FnF Tryz.prog 66 Tryz.f66 qGA:=⟨qj,by kernel_rfl,by kernel_rfl,by kernel_rfl⟩
def qml:TH:={ live:=[(0,[1]),(1,[2,3])] }
def qmm (N:Nat):List Ent:=[qaa N,qbP N]
theorem qiF (N:Nat):qT Tryz.prog (qmm N):=⟨qdA N,qjc N,trivial⟩
def qmr (z:List UInt8×Int):TV×THp:=(.tup [.tv .s (z.1:List UInt8),xi z.2],[])
def Yv (N:Nat) (a0:qW):Tree (List UInt8×Int):=
 .bind (Xi N a0 (qf.XU (qW.o a0)) (qf.Jb (qW.o a0))) fun r1=>
 .bind (VK N a0 r1.1 r1.2) fun r2=>
 .ret (r2.1,r2.2)
def XG (N:Nat) (a0:qW):Option (List UInt8×Int):=(Yv N a0).run some
def qk2 (N:Nat):List (Nat×qG):=[]
def qcN (N:Nat):Ent:=smF ⟨66,[],[.x js],[],[]⟩ [js] (List UInt8×Int) (fun x=>XG N x.1) cs1 fun _=>qmr
theorem qkr (N:Nat):q9 Tryz.prog (qcN N):=
 q0 (H:=qml) (L:=qQ (qk2 N)) (ts:=[js]) (T:=fun x=>Yv N x.1) 0 qHm (qiF N) (qu (by kernel_rfl) trivial) (rg0 (by kernel_rfl)) fun x=>by kernel_rfl
noncomputable def qo1:Code:=Tryz.f94.body.getD .skip
theorem qGO:FnF Tryz.prog 94 Tryz.f94 qo1:=⟨qj,by kernel_rfl,by kernel_rfl,by kernel_rfl⟩
def qc1:TH:={ live:=[(0,[0,1]),(1,[0,1,11]),(2,[4,5]),(3,[0,1,6]),(4,[0,6,12,13,14]),(5,[0,6,12,13,14,15]),(6,[0,6,8,12,13,14]),(7,[0,6,8,12,13,14,29]),(8,[4,5]),(9,[0,6,8,12,13,14]),(10,[0,6,8,12,13,14,34]),(11,[0,6,12,13,14]),(12,[0,6,12,13,14]),(13,[4,5])],dec:=[20],nil:=[(3,[⟨.ob 60 [1],64,.bl⟩])] }
def qjG (N:Nat):List Ent:=[qgV N]
theorem qfN (N:Nat):qT Tryz.prog (qjG N):=⟨qlu N,trivial⟩
abbrev XP:=List UInt8×List UInt8×List qk×Int
abbrev Zr:=Unit⊕Unit
def JN (f:XP):Zr→Ex×TSt
 | .inl y=>(.ret,⟨0,47,[],[(4,.tv .s ([]:List UInt8)),(5,.bc false)],[],false,[]⟩)
 | .inr y=>(.exit 0,⟨0,47,[],[(0,.tv .s f.2.1),(6,.p 60 [] 0),(12,.tv (.sl 4 qK) f.2.2.1),(13,xi f.2.2.2),(14,.ic .i64 0),(15,xb (decide (((0:Int)) < f.2.2.2)))],[(60,.cell false (.ag [.nilp,.v 64 f.1.length])),(64,.vec false 1 .bl f.1)],false,[]⟩)
def qoz (N:Nat):List (Nat×qG):=[]
abbrev JH:=Unit
def qeb:SP:=⟨0,47,[],[(0,.x .s),(6,.k (.p 60 [] 0)),(12,.x (.sl 4 qK)),(13,.x (.i .i64)),(14,.k (.ic .i64 0))],[(60,.cell false (.ag [.k .nilp,.vs 64])),(64,.vec false 1)],false,[]⟩
def qoA (f:XP) (v:JH):TSt:=jh qeb [dv .bl f.1,dv .s f.2.1,dv (.sl 4 qK) f.2.2.1,dv (.i .i64) f.2.2.2]
def qo7 (N:Nat) (o_5:List UInt8) (s0_5:List UInt8) (s12_5:List qk) (s13_5:Int) (v:JH):Tree (JH⊕Zr):=
 .cond (decide (((0:Int)) < s13_5)) (
 .bind (zl s12_5 0) fun e1=>
 .cond (qk.qwG e1) (
 .chk (qz (((s0_5.length:Nat):Int) - (qk.XU e1))) <|
 .cond (decide ((((s0_5.length:Nat):Int) - (qk.XU e1)) < (qk.Len e1))) (
 .ret (.inr (.inl ()))) <|
 .no) <|
 .no) <|
 .ret (.inr (.inr ()))
def qet (N n:Nat) (f:XP) (v:JH):Option Zr:=q6 (qo7 N f.1 f.2.1 f.2.2.1 f.2.2.2) some n v
theorem qo2 (N:Nat) (f:XP) (n:Nat) (v:JH) (y:Zr) (h:qet N n f v=some y):LG Tryz.prog qc1 94 (q8 qo1 5) (qoA f v) (JN f y):=
 zQ qj (E:=qjG N) (L:=qQ (qoz N)) (st:=JN f) (g:=some) (R:=JN f) (qfN N) (qu (by kernel_rfl) trivial) (rg0 (by kernel_rfl)) (fun v=>by kernel_rfl) (zg (st:=JN f) fun y=>by rcases y with _ | _<;>rfl) n v y h
def qhb (N:Nat) (o_5:List UInt8) (s0_5:List UInt8) (s12_5:List qk) (s13_5:Int):Option Zr:=qet N N (o_5,s0_5,s12_5,s13_5) ()
def qer (N:Nat):qG:=smL qeb [.bl,.s,(.sl 4 qK),(.i .i64)] Zr (fun x=>qhb N x.1 x.2.1 x.2.2.1 x.2.2.2.1) (csS cs1) fun x=>JN (x.1,x.2.1,x.2.2.1,x.2.2.2.1)
theorem qnk (N:Nat):vJ Tryz.prog qc1 94 (q8 qo1 5) (qer N):=jk fun x z h=>qo2 N (x.1,x.2.1,x.2.2.1,x.2.2.2.1) N () z h
def qtU (z:Unit):TV×THp:=(.tup [.tv .s ([]:List UInt8),.bc false],[])
def qjV (N:Nat) (a0:List UInt8) (a1:List qk):Tree (Unit):=
 .bind (qcU N a1) fun r1=>
 .cond (!r1) (
 .ret ()) <|
 .bind (jV [(([]:List UInt8).length,0)] (qhb N [] a0 a1 ((a1.length:Nat):Int))) fun z2=>
 .sum z2 (fun z3=>
 .ret ()) fun z3=>
 .no
def qnD (N:Nat) (a0:List UInt8) (a1:List qk):Option (Unit):=(qjV N a0 a1).run some
def que (N:Nat):List (Nat×qG):=[(5,qer N)]
def qjA (N:Nat):Ent:=smF ⟨94,[],[.x .s,.x (.sl 4 qK)],[],[]⟩ [.s,(.sl 4 qK)] (Unit) (fun x=>qnD N x.1 x.2.1) cs1 fun _=>qtU
theorem qrZ (N:Nat):q9 Tryz.prog (qjA N):=
 q0 (H:=qc1) (L:=qQ (que N)) (ts:=[.s,(.sl 4 qK)]) (T:=fun x=>qjV N x.1 x.2.1) 0 qGO (qfN N) (qu (by kernel_rfl) ⟨qnk N,trivial⟩) (rg0 (by kernel_rfl)) fun x=>by kernel_rfl
noncomputable def qFs:Code:=Tryz.f67.body.getD .skip
theorem qG9:FnF Tryz.prog 67 Tryz.f67 qFs:=⟨qj,by kernel_rfl,by kernel_rfl,by kernel_rfl⟩
def qog:TH:={ live:=[(0,[1]),(1,[1,4,5]),(2,[1,4,5,20]),(3,[2,3]),(4,[1,6,7]),(5,[1,6,31]),(6,[2,3]),(7,[2,3])] }
def qoJ (N:Nat):List Ent:=[qaa N,qjA N]
theorem qms (N:Nat):qT Tryz.prog (qoJ N):=⟨qdA N,qrZ N,trivial⟩
def qoN (z:Int):TV×THp:=(.tup [.tv .s ([]:List UInt8),xi z],[])
def qeO (N:Nat) (a0:qW):Tree (Int):=
 .bind (Xi N a0 (qf.ID (qW.o a0)) (qf.No (qW.o a0))) fun r1=>
 .cond (!decide (r1.2=0)) (
 .ret r1.2) <|
 .bind (qnD N r1.1 (qf.P (qW.o a0))) fun r2=>
 .ret 7
def qhE (N:Nat) (a0:qW):Option (Int):=(qeO N a0).run some
def qpj (N:Nat):List (Nat×qG):=[]
def qe5 (N:Nat):Ent:=smF ⟨67,[],[.x js],[],[]⟩ [js] (Int) (fun x=>qhE N x.1) cs1 fun _=>qoN
theorem qna (N:Nat):q9 Tryz.prog (qe5 N):=
 q0 (H:=qog) (L:=qQ (qpj N)) (ts:=[js]) (T:=fun x=>qeO N x.1) 0 qG9 (qms N) (qu (by kernel_rfl) trivial) (rg0 (by kernel_rfl)) fun x=>by kernel_rfl
noncomputable def qHz:Code:=Tryz.f24.body.getD .skip
theorem qGC:FnF Tryz.prog 24 Tryz.f24 qHz:=⟨qj,by kernel_rfl,by kernel_rfl,by kernel_rfl⟩
def qIg:TH:={ live:=[(0,[2,3,4]),(1,[2,3,4,17]),(2,[4,5]),(3,[2,3,4,6]),(4,[2,3,4,7]),(5,[2,3,4,7,25]),(6,[4,5]),(7,[2,3,4,8,9]),(8,[2,3,4,8,9,44]),(9,[4,5]),(10,[4,5])],dec:=[13,21],nil:=[(0,[⟨.ob 40 [0],43,(.sl 19 qg)⟩]),(2,[⟨.ob 40 [0],43,(.sl 19 qg)⟩]),(9,[⟨.ob 40 [0],43,(.sl 19 qg)⟩])] }
def qIH (N:Nat):List Ent:=[qdQ N,qxR N,qn3 N,qfp,qcN N,qe5 N]
theorem qDz (N:Nat):qT Tryz.prog (qIH N):=⟨qgn N,qDc N,qvM N,qou,qkr N,qna N,trivial⟩
def qH8 (z:qd×Int):TV×THp:=(.tup [.tv qR (z.1:qd),xi z.2],[])
def qsm (N:Nat) (a0:qd) (a1:qf):Tree (qd×Int):=
 .bind (Yp N a0) fun r1=>
 .cond (!r1) (
 .chk (0=0) <|
 .ret (qd.mk [],1)) <|
 .bind (qqu N a1) fun r2=>
 .cond (!r2) (
 .chk (0=0) <|
 .ret (qd.mk [],1)) <|
 .cond (decide ((qf.Kind a1)=0)) (
 .chk (0≤(0:Int)∧(0:Int) < ((4:Nat):Int)) <|
 .bind (Xn N a0 (qa.mk (qf.ID a1) (qf.S a1) [])) fun r3=>
 .ret (r3.1,r3.2)) <|
 .cond (decide ((qf.Kind a1)=1)) (
 .chk (0≤(1:Int)∧(1:Int) < ((4:Nat):Int)) <|
 .bind (qdj (qW.mk a0 a1)) fun r3=>
 .bind (Xn N a0 (qa.mk (qf.ID a1) (qe.mk 0 0) [qb.mk (qf.No a1) (qc.mk (qf.S a1) (qf.V a1))])) fun r4=>
 .ret (r4.1,r4.2)) <|
 .cond (decide ((qf.Kind a1)=2)) (
 .chk (0≤(2:Int)∧(2:Int) < ((4:Nat):Int)) <|
 .bind (XG N (qW.mk a0 a1)) fun r3=>
 .cond (!decide (r3.2=0)) (
 .chk (0=0) <|
 .ret (qd.mk [],r3.2)) <|
 .bind (Xn N a0 (qa.mk (qf.ID a1) (qe.mk 0 0) [qb.mk (qf.No a1) (qc.mk (qf.S a1) r3.1)])) fun r4=>
 .ret (r4.1,r4.2)) <|
 .cond (decide ((qf.Kind a1)=3)) (
 .chk (0≤(3:Int)∧(3:Int) < ((4:Nat):Int)) <|
 .bind (qhE N (qW.mk a0 a1)) fun r3=>
 .cond (!decide (r3=((0:Int)))) (
 .chk (0=0) <|
 .ret (qd.mk [],r3)) <|
 .bind (Xn N a0 (qa.mk (qf.ID a1) (qe.mk 0 0) [qb.mk (qf.No a1) (qc.mk (qf.S a1) [])])) fun r4=>
 .ret (r4.1,r4.2)) <|
 .no
def qiu (N:Nat) (a0:qd) (a1:qf):Option (qd×Int):=(qsm N a0 a1).run some
def qID (N:Nat):List (Nat×qG):=[]
def qzJ (N:Nat):Ent:=smF ⟨24,[],[.x qR,.x zC],[],[]⟩ [qR,zC] (qd×Int) (fun x=>qiu N x.1 x.2.1) cs1 fun _=>qH8
theorem qGV (N:Nat):q9 Tryz.prog (qzJ N):=
 q0 (H:=qIg) (L:=qQ (qID N)) (ts:=[qR,zC]) (T:=fun x=>qsm N x.1 x.2.1) 0 qGC (qDz N) (qu (by kernel_rfl) trivial) (rg0 (by kernel_rfl)) fun x=>by kernel_rfl
noncomputable def qlh:Code:=Tryz.f111.body.getD .skip
theorem qC0:FnF Tryz.prog 111 Tryz.f111 qlh:=⟨qj,by kernel_rfl,by kernel_rfl,by kernel_rfl⟩
def XS:TH:={ live:=[(0,[0,1]),(1,[0,1,10]),(2,[4]),(3,[0,1,12,13]),(4,[0,1,12,13,14]),(5,[0,1,5,12,13]),(6,[0,1,12,13,24]),(7,[4]),(8,[0,1,12,13]),(9,[4])] }
def qbA (N:Nat):List Ent:=[]
theorem Kv (N:Nat):qT Tryz.prog (qbA N):=trivial
abbrev Zd:=List qb×List qb×Int
abbrev jS:=Unit⊕(Int×Bool)
def vO (f:Zd):jS→Ex×TSt
 | .inl y=>(.ret,⟨0,26,[],[(4,.bc false)],[],false,[]⟩)
 | .inr y=>(.exit 0,⟨0,26,[],[(0,.tv (.sl 4 qp) f.1),(1,.tv (.sl 4 qp) f.2.1),(12,xi f.2.2),(13,xi y.1),(14,xb y.2)],[],false,[]⟩)
def qfd (N:Nat):List (Nat×qG):=[]
abbrev vL:=Int
def Ka:SP:=⟨0,26,[],[(0,.x (.sl 4 qp)),(1,.x (.sl 4 qp)),(12,.x (.i .i64)),(13,.x (.i .i64))],[],false,[]⟩
def qfk (f:Zd) (v:vL):TSt:=jh Ka [dv (.sl 4 qp) f.1,dv (.sl 4 qp) f.2.1,dv (.i .i64) f.2.2,dv (.i .i64) v]
def Zb (N:Nat) (s0_4:List qb) (s1_4:List qb) (s12_4:Int) (v:vL):Tree (vL⊕jS):=
 .cond (decide (v < s12_4)) (
 .bind (zl s0_4 v) fun e1=>
 .bind (zl s1_4 v) fun e2=>
 .cond (!(eqE qp e1 e2)) (
 .ret (.inr (.inl ()))) <|
 .chk (qz (v + 1)) <|
 .ret (.inl (v + 1))) <|
 .ret (.inr (.inr ((v,decide (v < s12_4)))))
def Y_ (N n:Nat) (f:Zd) (v:vL):Option jS:=q6 (Zb N f.1 f.2.1 f.2.2) some n v
theorem qfg (N:Nat) (f:Zd) (n:Nat) (v:vL) (y:jS) (h:Y_ N n f v=some y):LG Tryz.prog XS 111 (q8 qlh 4) (qfk f v) (vO f y):=
 zQ qj (E:=qbA N) (L:=qQ (qfd N)) (st:=vO f) (g:=some) (R:=vO f) (Kv N) (qu (by kernel_rfl) trivial) (rg0 (by kernel_rfl)) (fun v=>by kernel_rfl) (zg (st:=vO f) fun y=>by rcases y with _ | _<;>rfl) n v y h
def qaH (N:Nat) (s0_4:List qb) (s1_4:List qb) (s12_4:Int) (s13_4:Int):Option jS:=Y_ N N (s0_4,s1_4,s12_4) s13_4
def Kf (N:Nat):qG:=smL Ka [(.sl 4 qp),(.sl 4 qp),(.i .i64),(.i .i64)] jS (fun x=>qaH N x.1 x.2.1 x.2.2.1 x.2.2.2.1) (csS cs1) fun x=>vO (x.1,x.2.1,x.2.2.1)
theorem qeU (N:Nat):vJ Tryz.prog XS 111 (q8 qlh 4) (Kf N):=jk fun x z h=>qfg N (x.1,x.2.1,x.2.2.1) N x.2.2.2.1 z h
def qiV (z:Bool):TV×THp:=(xb z,[])
def XA (N:Nat) (a0:List qb) (a1:List qb):Tree (Bool):=
 .cond (!decide (((a0.length:Nat):Int)=((a1.length:Nat):Int))) (
 .ret false) <|
 .bind (qaH N a0 a1 ((a0.length:Nat):Int) 0) fun z1=>
 .sum z1 (fun z2=>
 .ret false) fun z2=>
 .ret true
def Vc (N:Nat) (a0:List qb) (a1:List qb):Option (Bool):=(XA N a0 a1).run some
def qjj (N:Nat):List (Nat×qG):=[(4,Kf N)]
def qa8 (N:Nat):Ent:=smF ⟨111,[],[.x (.sl 4 qp),.x (.sl 4 qp)],[],[]⟩ [(.sl 4 qp),(.sl 4 qp)] (Bool) (fun x=>Vc N x.1 x.2.1) cs1 fun _=>qiV
theorem qhx (N:Nat):q9 Tryz.prog (qa8 N):=
 q0 (H:=XS) (L:=qQ (qjj N)) (ts:=[(.sl 4 qp),(.sl 4 qp)]) (T:=fun x=>XA N x.1 x.2.1) 0 qC0 (Kv N) (qu (by kernel_rfl) ⟨qeU N,trivial⟩) (rg0 (by kernel_rfl)) fun x=>by kernel_rfl
noncomputable def qF8:Code:=Tryz.f82.body.getD .skip
theorem qGF:FnF Tryz.prog 82 Tryz.f82 qF8:=⟨qj,by kernel_rfl,by kernel_rfl,by kernel_rfl⟩
def qBt:TH:={ live:=[(0,[2,3]),(1,[4])],dec:=[10,17] }
def qCe (N:Nat):List Ent:=[qa8 N]
theorem qvC (N:Nat):qT Tryz.prog (qCe N):=⟨qhx N,trivial⟩
def qAt (z:Bool):TV×THp:=(xb z,[])
def qiU (N:Nat) (a0:qa) (a1:qa):Tree (Bool):=
 .cond (eqE (.ba 16) (qa.ID a0) (qa.ID a1)) (
 .cond (eqE qn (qa.qX a0) (qa.qX a1)) (
 .bind (Vc N (qa.F a0) (qa.F a1)) fun r1=>
 .ret r1) <|
 .ret false) <|
 .ret false
def qjk (N:Nat) (a0:qa) (a1:qa):Option (Bool):=(qiU N a0 a1).run some
def qA9 (N:Nat):List (Nat×qG):=[]
def qri (N:Nat):Ent:=smF ⟨82,[],[.x qg,.x qg],[],[]⟩ [qg,qg] (Bool) (fun x=>qjk N x.1 x.2.1) cs1 fun _=>qAt
theorem qx8 (N:Nat):q9 Tryz.prog (qri N):=
 q0 (H:=qBt) (L:=qQ (qA9 N)) (ts:=[qg,qg]) (T:=fun x=>qiU N x.1 x.2.1) 0 qGF (qvC N) (qu (by kernel_rfl) trivial) (rg0 (by kernel_rfl)) fun x=>by kernel_rfl
noncomputable def qpy:Code:=Tryz.f81.body.getD .skip
theorem qF2:FnF Tryz.prog 81 Tryz.f81 qpy:=⟨qj,by kernel_rfl,by kernel_rfl,by kernel_rfl⟩
def VC:TH:={ live:=[(0,[0,1,2]),(1,[0,1,2,14]),(2,[6]),(3,[1,2,15,16,17]),(4,[1,2,15,16,17,18]),(5,[1,2,7,8,15,16,17]),(6,[1,2,8,9,15,16,17]),(7,[1,2,15,16,17,30]),(8,[6]),(9,[1,2,15,16,17]),(10,[6])] }
def KP (N:Nat):List Ent:=[qri N]
theorem Yz (N:Nat):qT Tryz.prog (KP N):=⟨qx8 N,trivial⟩
abbrev QF:=List qa×List qa×Int
abbrev jw:=Unit⊕(Int×Bool)
def vo (f:QF):jw→Ex×TSt
 | .inl y=>(.ret,⟨0,32,[],[(6,.bc false)],[],false,[]⟩)
 | .inr y=>(.exit 0,⟨0,32,[],[(1,.tv (.sl 19 qg) f.1),(2,.fn (.func 82) [] []),(15,.tv (.sl 19 qg) f.2.1),(16,xi f.2.2),(17,xi y.1),(18,xb y.2)],[],false,[]⟩)
def qd1 (N:Nat):List (Nat×qG):=[]
abbrev vq:=Int
def WL:SP:=⟨0,32,[],[(1,.x (.sl 19 qg)),(2,.fn 82 [] []),(15,.x (.sl 19 qg)),(16,.x (.i .i64)),(17,.x (.i .i64))],[],false,[]⟩
def qdU (f:QF) (v:vq):TSt:=jh WL [dv (.sl 19 qg) f.1,dv (.sl 19 qg) f.2.1,dv (.i .i64) f.2.2,dv (.i .i64) v]
def QB (N:Nat) (s1_4:List qa) (s15_4:List qa) (s16_4:Int) (v:vq):Tree (vq⊕jw):=
 .cond (decide (v < s16_4)) (
 .bind (zl s15_4 v) fun e1=>
 .bind (zl s1_4 v) fun e2=>
 .bind (qjk N e1 e2) fun r3=>
 .cond (!r3) (
 .ret (.inr (.inl ()))) <|
 .chk (qz (v + 1)) <|
 .ret (.inl (v + 1))) <|
 .ret (.inr (.inr ((v,decide (v < s16_4)))))
def WQ (N n:Nat) (f:QF) (v:vq):Option jw:=q6 (QB N f.1 f.2.1 f.2.2) some n v
theorem qdN (N:Nat) (f:QF) (n:Nat) (v:vq) (y:jw) (h:WQ N n f v=some y):LG Tryz.prog VC 81 (q8 qpy 4) (qdU f v) (vo f y):=
 zQ qj (E:=KP N) (L:=qQ (qd1 N)) (st:=vo f) (g:=some) (R:=vo f) (Yz N) (qu (by kernel_rfl) trivial) (rg0 (by kernel_rfl)) (fun v=>by kernel_rfl) (zg (st:=vo f) fun y=>by rcases y with _ | _<;>rfl) n v y h
def Kd (N:Nat) (s1_4:List qa) (s15_4:List qa) (s16_4:Int) (s17_4:Int):Option jw:=WQ N N (s1_4,s15_4,s16_4) s17_4
def WT (N:Nat):qG:=smL WL [(.sl 19 qg),(.sl 19 qg),(.i .i64),(.i .i64)] jw (fun x=>Kd N x.1 x.2.1 x.2.2.1 x.2.2.2.1) (csS cs1) fun x=>vo (x.1,x.2.1,x.2.2.1)
theorem qdc (N:Nat):vJ Tryz.prog VC 81 (q8 qpy 4) (WT N):=jk fun x z h=>qdN N (x.1,x.2.1,x.2.2.1) N x.2.2.2.1 z h
def qg8 (z:Bool):TV×THp:=(xb z,[])
def Vp (N:Nat) (a0:List qa) (a1:List qa):Tree (Bool):=
 .cond (!decide (((a0.length:Nat):Int)=((a1.length:Nat):Int))) (
 .ret false) <|
 .bind (Kd N a1 a0 ((a0.length:Nat):Int) 0) fun z1=>
 .sum z1 (fun z2=>
 .ret false) fun z2=>
 .ret true
def Jn (N:Nat) (a0:List qa) (a1:List qa):Option (Bool):=(Vp N a0 a1).run some
def qgE (N:Nat):List (Nat×qG):=[(4,WT N)]
def KN (N:Nat):Ent:=smF ⟨81,[],[.x (.sl 19 qg),.x (.sl 19 qg),.fn 82 [] []],[],[]⟩ [(.sl 19 qg),(.sl 19 qg)] (Bool) (fun x=>Jn N x.1 x.2.1) cs1 fun _=>qg8
theorem qfh (N:Nat):q9 Tryz.prog (KN N):=
 q0 (H:=VC) (L:=qQ (qgE N)) (ts:=[(.sl 19 qg),(.sl 19 qg)]) (T:=fun x=>Vp N x.1 x.2.1) 0 qF2 (Yz N) (qu (by kernel_rfl) ⟨qdc N,trivial⟩) (rg0 (by kernel_rfl)) fun x=>by kernel_rfl
noncomputable def qFq:Code:=Tryz.f31.body.getD .skip
theorem qFQ:FnF Tryz.prog 31 Tryz.f31 qFq:=⟨qj,by kernel_rfl,by kernel_rfl,by kernel_rfl⟩
def qzb:TH:={ live:=[(0,[2,3]),(1,[4])] }
def qx7 (N:Nat):List Ent:=[KN N]
theorem qt1 (N:Nat):qT Tryz.prog (qx7 N):=⟨qfh N,trivial⟩
def qyS (z:Bool):TV×THp:=(xb z,[])
def qgF (N:Nat) (a0:qd) (a1:qd):Tree (Bool):=
 .bind (Jn N (qd.R a0) (qd.R a1)) fun r1=>
 .ret r1
def qfY (N:Nat) (a0:qd) (a1:qd):Option (Bool):=(qgF N a0 a1).run some
def qy_ (N:Nat):List (Nat×qG):=[]
def qnM (N:Nat):Ent:=smF ⟨31,[],[.x qR,.x qR],[],[]⟩ [qR,qR] (Bool) (fun x=>qfY N x.1 x.2.1) cs1 fun _=>qyS
theorem qv7 (N:Nat):q9 Tryz.prog (qnM N):=
 q0 (H:=qzb) (L:=qQ (qy_ N)) (ts:=[qR,qR]) (T:=fun x=>qgF N x.1 x.2.1) 0 qFQ (qt1 N) (qu (by kernel_rfl) trivial) (rg0 (by kernel_rfl)) fun x=>by kernel_rfl
noncomputable def qz7:Code:=Tryz.f9.body.getD .skip
theorem qHS:FnF Tryz.prog 9 Tryz.f9 qz7:=⟨qj,by kernel_rfl,by kernel_rfl,by kernel_rfl⟩
def qhP:TH:={ live:=[(0,[3,4,5]),(1,[3,4,5,7]),(2,[3,4,5,7,8]),(3,[3,4,5,7,8,9]),(4,[3,4,5,7,8,9,10]),(5,[3,4,5,7,49]),(6,[6]),(7,[3,4,5,11,12]),(8,[3,4,5,12,13,14]),(9,[4,12,13,14,15,16]),(10,[12,13,14,16,17,18]),(11,[13,17,88]),(12,[6]),(13,[6])],dec:=[28,32,36,40,45,77,81,85] }
def qhT (N:Nat):List Ent:=[qxs,qcD N,qcB N,qzJ N,qnM N]
theorem qfm (N:Nat):qT Tryz.prog (qhT N):=⟨qCM,qki N,qkn N,qGV N,qv7 N,trivial⟩
def qhs (z:Bool):TV×THp:=(xb z,[])
def VX (N:Nat) (a0:qd) (a1:qf) (a2:qf):Tree (Bool):=
 .bind (qvg) fun r1=>
 .bind (XL N a0) fun r2=>
 .bind (Qj N a1) fun r3=>
 .bind (Qj N a2) fun r4=>
 .cond (!r1) (
 .ret r1) <|
 .cond (!r2) (
 .ret r1) <|
 .cond (!r3) (
 .ret r1) <|
 .cond (!r4) (
 .ret r1) <|
 .cond (decide (((1:Int)) < (qf.Kind a1))) (
 .ret r1) <|
 .cond (decide (((1:Int)) < (qf.Kind a2))) (
 .ret r1) <|
 .bind (qiu N a0 a1) fun r5=>
 .bind (qiu N r5.1 a2) fun r6=>
 .bind (qiu N a0 a2) fun r7=>
 .bind (qiu N r7.1 a1) fun r8=>
 .cond (!decide (r5.2=0)) (
 .ret true) <|
 .cond (!decide (r6.2=0)) (
 .ret true) <|
 .cond (!decide (r7.2=0)) (
 .ret true) <|
 .cond (!decide (r8.2=0)) (
 .ret true) <|
 .bind (qfY N r6.1 r8.1) fun r9=>
 .ret r9
def v5 (N:Nat) (a0:qd) (a1:qf) (a2:qf):Option (Bool):=(VX N a0 a1 a2).run some
def qh3 (N:Nat):List (Nat×qG):=[]
theorem qe9 (N:Nat):qdE Tryz.prog ⟨9,[],[.x qR,.x zC,.x zC],[],[]⟩ [qR,zC,zC] (fun x=>VX N x.1 x.2.1 x.2.2.1) (fun _=>qhs):=
 qa5 (H:=qhP) (L:=qQ (qh3 N)) 0 qHS (qfm N) (qu (by kernel_rfl) trivial) (rg0 (by kernel_rfl)) fun x=>by kernel_rfl
end Go.Rx
end
set_option maxRecDepth 100000
noncomputable section
namespace Go.Rx
open Go.Proofs
abbrev Qk (q:Nat→Bool) (n:Nat):Bool:=qxP q n 0
theorem Vz {q:Nat→Bool} {n:Nat}:Qk q n=true↔∀ j,j < n→q j=true:=by
 unfold Qk; rw [qxV]
 exact ⟨fun h j hj=>h j (Nat.zero_le _) (by omega),fun h j _ hj=>h j (by omega)⟩
theorem qCI {p q:Nat→Bool} {n:Nat} (h:Jf p n 0=none) (hq:∀ j,j < n→p j=!q j):Qk q n=true:=
 Vz.2 fun j hj=>by
  have:=qnR h j (Nat.zero_le _) (by omega)
  rw [hq j hj] at this; simpa using this
theorem qDh {p q:Nat→Bool} {n i:Nat} (h:Jf p n 0=some i) (hq:∀ j,j < n→p j=!q j):Qk q n=false:=by
 obtain ⟨h1,_,h2,_⟩:=qgW h
 cases e:Qk q n with
 | false=>rfl
 | true=>
  have:=Vz.1 e i (by omega)
  rw [hq i (by omega),this] at h1; simp at h1
theorem Xp {α Y : Type} {B : Int → Tree (Int ⊕ (α ⊕ (Int × Bool)))} {g : α ⊕ (Int × Bool) → Option Y} {q : Nat → Bool} {n : Nat} {hit : α}
    (h1:∀ k,k < n→(B (k:Int)).run some=some (if q k then .inl ((k + 1:Nat):Int) else .inr (.inl hit))) (h2:(B (n:Int)).run some=some (.inr (.inr (((n:Nat):Int),false)))) {N:Nat} (hN:n < N) :
    q6 B g N ((0:Nat):Int)=g (if Qk q n then .inr (((n:Nat):Int),false) else .inl hit):=by
 rw [qfH (p:=fun k=>!q k) (hit:=fun _=>.inl hit) (fin:=.inr (((n:Nat):Int),false)) (n:=n) (fun k hk=>by rw [h1 k hk]; cases q k<;>rfl) h2 N 0 (Nat.zero_le _) (by omega),Nat.sub_zero]
 cases e:Jf (fun k=>!q k) n 0 with
 | none=>rw [qCI e fun _ _=>rfl]; rfl
 | some i=>rw [qDh e fun _ _=>rfl]; rfl
theorem qiO {α:Type} {d:α} {l:List α} {k:Nat} (h:k < l.length):l.take (k + 1)=l.take k++[l.getD k d]:=by
 rw [List.take_succ_eq_append_getElem h,List.getD_eq_getElem?_getD,List.getElem?_eq_getElem h]; rfl
class Zs (N:Nat):Prop where
 h:100000≤N
theorem Zs.of {N:Nat} (h:100000≤N):Zs N:=⟨h⟩
theorem big (N:Nat) [Zs N]:100000≤N:=Zs.h
abbrev zSt:qe:=((0:Int),(0:Int))
theorem qF7 {c n:Nat}:decide (((c:Nat):Int) < ((n:Nat):Int))=!decide (n≤c):=by
 by_cases h:n≤c
 ·rw [decide_eq_true h,decide_eq_false (by omega)]; rfl
 ·rw [decide_eq_false h,decide_eq_true (by omega)]; rfl
def stB (a:qe):Bool:=decide (a=zSt)||(decide (0 < a.1)&&decide (a.1≤1099511627776)&&decide (0≤a.2)&&decide (a.2 < 8))
def slB (a b:qe):Bool:=decide (a.1 < b.1∨(a.1=b.1∧a.2 < b.2))
theorem qla (a b:qe):eqE qn a b=decide (a=b):=Bool.eq_iff_iff.2 ((Qy qn a b).trans (decide_eq_true_iff (p:=(a:Int×Int)=b)).symm)
theorem qu_ (a b:Vector UInt8 16):eqE (.ba 16) a b=decide (a=b):=Bool.eq_iff_iff.2 ((Qy (.ba 16) a b).trans (decide_eq_true_iff (p:=(a:Vector UInt8 16)=b)).symm)
theorem qis (a:qe):Ys a=some (stB a):=by
 unfold Ys qg5
 have e:=qla a (qe.mk 0 0)
 simp only [Tree.run,e]
 show (bif decide (a=zSt) then _ else _)=some (decide (a=zSt)||_)
 cases decide (a=zSt) with
 | true=>rfl
 | false=>
  show (bif decide (0 < a.1) then _ else _)=_
  cases decide (0 < a.1) with
  | false=>rfl
  | true=>
   show (bif decide (a.1≤1099511627776) then _ else _)=_
   cases decide (a.1≤1099511627776) with
   | false=>rfl
   | true=>
    show (bif decide (0≤a.2) then _ else _)=_
    cases decide (0≤a.2)<;>rfl
end Go.Rx
end
set_option maxRecDepth 100000
noncomputable section
namespace Go.Rx
open Go.Proofs
abbrev zP:qk:=(false,0,0,[])
def inP (a lo hi:Int):Bool:=decide (lo≤a)&&decide (a≤hi)
def Yg (p:qk):Bool:=bif p.qwG then inP p.XU 0 200&&inP p.Len 1 200&&decide (p.Lit=[]) else decide (p=(false,0,0,p.Lit))&&inP (p.Lit.length:Nat) 1 200
theorem qHx (a b:qk):eqE qK a b=decide (a=b):=Bool.eq_iff_iff.2 ((Qy qK a b).trans (decide_eq_true_iff (p:=(a:Bool×Int×Int×List UInt8)=b)).symm)
theorem qvd (a lo hi:Int):qb2 a lo hi=some (inP a lo hi):=by
 unfold qb2 qjy inP
 exact jI rfl (fun h=>qE (by rw [h]; rfl)) fun h=>qE (by rw [h]; rfl)
theorem qFR (p:qk):qfL p=some (Yg p):=by
 unfold qfL qg1 Yg
 refine jI rfl (fun h=>?_) fun h=>?_
 ·rw [h]
  refine qB (qvd _ _ _) <| jI rfl (fun h1=>?_) fun h1=>qE (by rw [h1]; rfl)
  refine qB (qvd _ _ _) <| jI rfl (fun h2=>?_) fun h2=>qE (by rw [h1,h2]; rfl)
  exact qE (by rw [h1,h2]; rfl)
 ·rw [h]
  exact jI (qHx _ _) (fun h1=>qB (qvd _ _ _) (qE (by rw [show decide (p=(false,0,0,p.Lit))=true from h1]; rfl))) fun h1=>qE (by rw [show decide (p=(false,0,0,p.Lit))=false from h1]; rfl)
def qe2 (l:List qk) (k:Nat):Int:=((l.take k).map fun p=>p.Len + ((p.Lit.length:Nat):Int)).sum
def qrC (l:List qk):Bool:=Qk (fun k=>Yg (l.getD k zP)) l.length&&decide (l.length≤60)&&decide (qe2 l l.length≤200)
theorem qtn {l:List qk} {k:Nat} (h:k < l.length):qe2 l (k + 1)=qe2 l k + ((l.getD k zP).Len + (((l.getD k zP).Lit.length:Nat):Int)):=by
 unfold qe2
 rw [qiO (d:=zP) h,List.map_append,List.sum_append]; simp
theorem qtf {p:qk} (h:Yg p=true):0≤p.Len + ((p.Lit.length:Nat):Int)∧p.Len + ((p.Lit.length:Nat):Int)≤200∧0≤p.Len:=by
 unfold Yg inP at h
 cases e:p.qwG with
 | true=>
  rw [e,cond_true] at h
  simp only [Bool.and_eq_true,decide_eq_true_eq] at h
  obtain ⟨⟨_,h1,h2⟩,h3⟩:=h
  rw [h3]; simp only [List.length_nil]; omega
 | false=>
  rw [e,cond_false] at h
  simp only [Bool.and_eq_true,decide_eq_true_eq] at h
  obtain ⟨h1,h2,h3⟩:=h
  have:p.Len=0:=by rw [h1]; rfl
  omega
theorem qAd {l:List qk}:∀ {k:Nat},k≤l.length→(∀ j,j < k→Yg (l.getD j zP)=true)→0≤qe2 l k∧qe2 l k≤200 * (k:Int)
 | 0,_,_=>by unfold qe2; simp
 | k + 1,hk,h=>by
  have h1:=qAd (k:=k) (by omega) fun j hj=>h j (by omega)
  have h2:=qtf (h k (by omega))
  rw [qtn (by omega)]; omega
theorem qp8 {V W Y : Type} {B : V → Tree (V ⊕ W)} {g : W → Option Y} {at_ : Nat → V} {q : Nat → Bool} {n : Nat} {hit fin : W}
    (h1:∀ k,k < n→(∀ j,j < k→q j=true)→(B (at_ k)).run some=some (if q k then .inl (at_ (k + 1)) else .inr hit)) (h2:(B (at_ n)).run some=some (.inr fin)) :
    ∀ (m k:Nat),k + m=n→∀ N,m < N→(∀ j,j < k→q j=true)→q6 B g N (at_ k)=g (if Qk q n then fin else hit)
 | 0,k,hk,N + 1,_,hq=>by
  obtain rfl:k=n:=by omega
  rw [zM h2,if_pos (Vz.2 hq)]
 | m + 1,k,hk,N + 1,hN,hq=>by
  have h:=h1 k (by omega) hq
  cases e:q k with
  | true=>
   rw [e,if_pos rfl] at h
   rw [Jt h]
   exact qp8 h1 h2 m (k + 1) (by omega) N (by omega) fun j hj=>by
    by_cases ej:j=k
    ·rw [ej]; exact e
    ·exact hq j (by omega)
  | false=>
   rw [e,if_neg (by simp)] at h
   rw [zM h,if_neg (fun ha=>by have:=Vz.1 ha k (by omega); rw [e] at this; cases this)]
 | _,_,_,0,hN,_=>by omega
section
variable {N:Nat} [Zs N]
theorem qER {l : List qk} (hl : l.length < N) (hl2 : l.length ≤ 1000000000000000) :
    qeM N l l ((l.length:Nat):Int) 0 0=some (if Qk (fun k=>Yg (l.getD k zP)) l.length then .inr (qe2 l l.length,((l.length:Nat):Int),false) else .inl ()):=by
 refine (qp8 (B:=YJ N l l ((l.length:Nat):Int)) (g:=some) (at_:=fun k=>(qe2 l k,(k:Int))) (q:=fun k=>Yg (l.getD k zP)) (n:=l.length) (hit:=.inl ()) (fin:=.inr (qe2 l l.length,((l.length:Nat):Int),false)) (fun k hk hq=>?_) ?_ l.length 0 (by omega) N (by omega) (fun j hj=>by omega)).trans ?_
 ·unfold YJ
  refine w_t (dec_lt hk) <| qB (jM (d:=zP) hk) <| qB (qFR _) <| jI rfl (fun h=>?_) fun h=>?_
  ·have h':Yg (l.getD k zP)=false:=by rw [Bool.not_eq_true'] at h; exact h
   rw [h']; exact qE rfl
  ·have h':Yg (l.getD k zP)=true:=by rw [Bool.not_eq_false'] at h; exact h
   have h1:=qAd (k:=k) (Nat.le_of_lt hk) hq
   have h2:=qtf h'
   rw [h']
   refine zd (show qz ((l.getD k zP).Len + (((l.getD k zP).Lit.length:Nat):Int)) by unfold qz; omega) <| zd (show qz (qe2 l k + ((l.getD k zP).Len + (((l.getD k zP).Lit.length:Nat):Int))) by unfold qz; omega) <| zd (Q2 (by omega)) <| qE ?_
   rw [if_pos rfl,qtn hk,zy]
 ·unfold YJ
  exact w_f (jq (Nat.lt_irrefl _)) (qE (by rw [jq (Nat.lt_irrefl _)]))
 ·split<;>rfl
theorem qDP {l:List qk} (hl:l.length < N) (hl2:l.length≤1000000000000000):qcU N l=some (qrC l):=by
 unfold qcU qg6 qrC
 refine qB (qER hl hl2) ?_
 cases Qk (fun k=>Yg (l.getD k zP)) l.length with
 | false=>rfl
 | true=>
  refine w_r rfl <| jI (c:=decide (l.length≤60)) (decide_eq_decide.2 (by omega)) (fun h=>qE ?_) fun h=>qE ?_
  ·rw [h]; rfl
  ·rw [h]; rfl
end
section
variable {N:Nat}
theorem qHt {l m : List qk} (hl : l.length < N) (hm : m.length = l.length) (hl2 : l.length ≤ 1000000000000000) :
    VQ N l m ((l.length:Nat):Int) 0=some (if Qk (fun k=>decide (l.getD k zP=m.getD k zP)) l.length then .inr (((l.length:Nat):Int),false) else .inl ()):=by
 refine (Xp (B:=Zc N l m ((l.length:Nat):Int)) (g:=some) (q:=fun k=>decide (l.getD k zP=m.getD k zP)) (n:=l.length) (hit:=()) (fun k hk=>?_) ?_ hl)
 ·unfold Zc
  refine w_t (dec_lt hk) <| qB (jM (d:=zP) hk) <| qB (jM (d:=zP) (by omega)) <| jI rfl (fun h=>?_) fun h=>?_
  ·have h':decide (l.getD k zP=m.getD k zP)=false:=by rw [qHx,Bool.not_eq_true'] at h; exact h
   rw [h']; exact qE rfl
  ·have h':decide (l.getD k zP=m.getD k zP)=true:=by rw [qHx,Bool.not_eq_false'] at h; exact h
   rw [h']; exact zd (Q2 (by omega)) <| qE (by rw [zy]; rfl)
 ·unfold Zc
  exact w_f (jq (Nat.lt_irrefl _)) (qE (by rw [jq (Nat.lt_irrefl _)]))
theorem quD {α:Type} {d:α} {l m:List α} (h:m.length=l.length) (hg:∀ k,k < l.length→l.getD k d=m.getD k d):l=m:=by
 refine List.ext_getElem h.symm fun i h1 h2=>?_
 have:=hg i h1
 rw [List.getD_eq_getElem?_getD,List.getD_eq_getElem?_getD,List.getElem?_eq_getElem h1,List.getElem?_eq_getElem h2] at this
 exact this
theorem qG5 {l m:List qk} (hl:l.length < N) (hl2:l.length≤1000000000000000):qdX N l m=some (decide (l=m)):=by
 have e:J7 N l m=some (decide (l=m)):=by
  unfold J7 XI
  by_cases hm:m.length=l.length
  ·refine w_f (by rw [decide_eq_true (by omega)]; rfl) <| qB (qHt hl hm hl2) ?_
   cases e:Qk (fun k=>decide (l.getD k zP=m.getD k zP)) l.length with
   | true=>
    have:l=m:=quD hm fun k hk=>of_decide_eq_true (Vz.1 e k hk)
    exact w_r rfl (qE (by rw [decide_eq_true this]))
   | false=>
    have:¬ l=m:=fun h=>by
     rw [Vz.2 (fun k _=>by rw [h]; exact decide_eq_true rfl)] at e; cases e
    exact w_l rfl (qE (by rw [decide_eq_false this]))
  ·exact w_t (by rw [decide_eq_false (by omega)]; rfl) (qE (by rw [decide_eq_false (fun h=>hm (by rw [h]))]))
 unfold qdX qev
 exact qB e (qE rfl)
theorem qJD (a b:Vector UInt8 32):eqE (.ba 32) a b=decide (a=b):=Bool.eq_iff_iff.2 ((Qy (.ba 32) a b).trans (decide_eq_true_iff (p:=(a:Vector UInt8 32)=b)).symm)
theorem qEs {a b:qf} (hl:(qf.P a).length < N) (hl2:(qf.P a).length≤1000000000000000):qmO N a b=some (decide (a=b)):=by
 unfold qmO qmv
 have no:∀ {p:Prop} [Decidable p],(a=b→p)→decide p=false→some false=some (decide (a=b)):=fun hp h=>by rw [decide_eq_false (fun e=>of_decide_eq_false h (hp e))]
 refine jI (qu_ _ _) (fun h1=>?_) fun h1=>qE (no (fun e=>by rw [e]) h1)
 refine jI (qu_ _ _) (fun h2=>?_) fun h2=>qE (no (fun e=>by rw [e]) h2)
 refine jI rfl (fun h3=>?_) fun h3=>qE (no (fun e=>by rw [e]) h3)
 refine jI rfl (fun h4=>?_) fun h4=>qE (no (fun e=>by rw [e]) h4)
 refine jI rfl (fun h5=>?_) fun h5=>qE (no (fun e=>by rw [e]) h5)
 refine jI (qla _ _) (fun h6=>?_) fun h6=>qE (no (fun e=>by rw [e]) h6)
 refine jI rfl (fun h7=>?_) fun h7=>qE (no (fun e=>by rw [e]) h7)
 refine jI (qJD _ _) (fun h8=>?_) fun h8=>qE (no (fun e=>by rw [e]) h8)
 refine qB (qG5 hl hl2) <| qE ?_
 have key:qf.P a=qf.P b↔a=b:=by
  obtain ⟨a1,a2,a3,a4,a5,a6,a7,a8,a9⟩:=a
  obtain ⟨b1,b2,b3,b4,b5,b6,b7,b8,b9⟩:=b
  have e1:a2=b2:=of_decide_eq_true h1
  have e2:a7=b7:=of_decide_eq_true h2
  have e3:a4=b4:=of_decide_eq_true h3
  have e4:a8=b8:=of_decide_eq_true h4
  have e5:a1=b1:=of_decide_eq_true h5
  have e6:a3=b3:=of_decide_eq_true h6
  have e7:a5=b5:=of_decide_eq_true h7
  have e8:a9=b9:=of_decide_eq_true h8
  subst e1 e2 e3 e4 e5 e6 e7 e8
  exact ⟨fun h=>by have h:a6=b6:=h; rw [h],fun h=>by rw [h]⟩
 exact congrArg some (decide_eq_decide.2 key)
end
theorem qti (a:Int):qcZ a=some (decide (0≤a)&&decide (a < 8)):=by
 unfold qcZ qgc
 exact jI rfl (fun h=>qE (by rw [h]; rfl)) fun h=>qE (by rw [h]; rfl)
end Go.Rx
end
set_option maxRecDepth 100000
noncomputable section
namespace Go.Rx
open Go.Proofs
abbrev zI:Vector UInt8 16:=Vector.replicate 16 0
abbrev zD:Vector UInt8 32:=Vector.replicate 32 0
def qBr (o:qf):qf:=
 if o.Kind=1 then .mk o.Kind o.ID o.S o.No o.V [] zI 0 zD
 else if o.Kind=2 then .mk o.Kind o.ID o.S o.No [] [] o.XU o.Jb o.D
 else if o.Kind=3 then .mk o.Kind o.ID o.S o.No [] o.P zI 0 o.D
 else .mk o.Kind o.ID o.S 0 [] [] zI 0 zD
def qBF (a:Int):Bool:=decide (0≤a)&&decide (a < 8)
def opB (o:qf):Bool:=!decide (o.Kind < 0)&&!decide (4≤o.Kind)&&decide (o=qBr o)&&!decide (o.S=zSt)&&stB o.S&&qBF o.No&&qBF o.Jb&&decide ((o.V.length:Int)≤200)&&qrC o.P
theorem qHZ (o:qf):qmx o=some (qBr o):=by
 unfold qmx qk4 qBr
 refine jI rfl (fun h=>qE ?_) fun h=>jI rfl (fun h2=>qE ?_) fun h2=>jI rfl (fun h3=>qE ?_) fun h3=>qE ?_
 ·rw [if_pos (of_decide_eq_true h)]
 ·rw [if_neg (of_decide_eq_false h),if_pos (of_decide_eq_true h2)]
 ·rw [if_neg (of_decide_eq_false h),if_neg (of_decide_eq_false h2),if_pos (of_decide_eq_true h3)]
 ·rw [if_neg (of_decide_eq_false h),if_neg (of_decide_eq_false h2),if_neg (of_decide_eq_false h3)]
section
variable {N:Nat} [Zs N]
theorem qGe {o:qf} (hl:(qf.P o).length < N) (hl2:(qf.P o).length≤1000000000000000):qqu N o=some (opB o):=by
 unfold qqu qpq opB
 refine jI rfl (fun h1=>qE (by rw [h1]; rfl)) fun h1=>?_
 refine jI rfl (fun h2=>qE (by rw [h1,h2]; rfl)) fun h2=>?_
 refine qB (qHZ o) <| qB (qEs hl hl2) ?_
 refine jI rfl (fun h3=>qE ?_) fun h3=>?_
 ·rw [Bool.not_eq_true'] at h3
  rw [h1,h2,h3]; rfl
 rw [Bool.not_eq_false'] at h3
 refine jI (qla _ _) (fun h4=>qE ?_) fun h4=>?_
 ·have h4:decide (o.S=zSt)=true:=h4
  rw [h1,h2,h3,h4]; rfl
 have h4:decide (o.S=zSt)=false:=h4
 refine qB (qis _) <| jI rfl (fun h5=>?_) fun h5=>qE (by rw [h1,h2,h3,h4,h5]; rfl)
 refine qB (qti _) <| jI (show _=qBF o.No from rfl) (fun h6=>?_) fun h6=>qE (by rw [h1,h2,h3,h4,h5,h6]; rfl)
 refine qB (qti _) <| jI (show _=qBF o.Jb from rfl) (fun h7=>?_) fun h7=>qE (by rw [h1,h2,h3,h4,h5,h6,h7]; rfl)
 refine jI rfl (fun h8=>?_) fun h8=>qE (by rw [h1,h2,h3,h4,h5,h6,h7,h8]; rfl)
 exact qB (qDP hl hl2) <| qE (by rw [h1,h2,h3,h4,h5,h6,h7,h8]; rfl)
end
end Go.Rx
end
set_option maxRecDepth 100000
noncomputable section
namespace Go.Rx
open Go.Proofs
section n
variable {N:Nat} [Zs N]
def sgn (a b:Int):Int:=if a < b then -1 else if b < a then 1 else 0
theorem qJp (a b:Int):J6 a b=some (sgn a b):=by
 unfold J6 Km KY qaU
 simp only [Tree.run,Option.bind_some,decide_true,Bool.not_true,cond_false,sgn]
 by_cases h:a < b
 ·simp [h]
 ·by_cases h2:b < a
  ·simp [h,h2]
  ·simp [h,h2]
theorem qCc (a b:Int):qbq N [a,b]=some (if a=0 then b else a):=by
 obtain ⟨n,rfl⟩:∃ n,N=n + 3:=⟨N - 3,by have:=big N; omega⟩
 have e:qdm (n + 3) [a,b] ((([a,b]:List Int).length:Nat):Int) 0=q6 (QS (n + 3) [a,b] 2) some (n + 3) 0:=rfl
 have r0:(QS (n + 3) [a,b] 2 0).run some=if a=0 then some (.inl 1) else some (.inr (.inl a)):=by
  unfold QS
  have g:zl [a,b] 0=some a:=rfl
  have c:qz ((0:Int) + 1):=by unfold qz; omega
  rw [qI,show decide ((0:Int) < 2)=true from rfl,cond_true,run_bind,g,Option.bind_some,qI,zx,qm c]
  by_cases h:a=0
  ·rw [if_pos h,decide_eq_true h]; rfl
  ·rw [if_neg h,decide_eq_false h]; rfl
 have r1:(QS (n + 3) [a,b] 2 1).run some=if b=0 then some (.inl 2) else some (.inr (.inl b)):=by
  unfold QS
  have g:zl [a,b] 1=some b:=rfl
  have c:qz ((1:Int) + 1):=by unfold qz; omega
  rw [qI,show decide ((1:Int) < 2)=true from rfl,cond_true,run_bind,g,Option.bind_some,qI,zx,qm c]
  by_cases h:b=0
  ·rw [if_pos h,decide_eq_true h]; rfl
  ·rw [if_neg h,decide_eq_false h]; rfl
 have r2:(QS (n + 3) [a,b] 2 2).run some=some (.inr (.inr (2,false))):=rfl
 unfold qbq qeZ
 rw [run_bind,e]
 by_cases h:a=0
 ·rw [if_pos h] at r0
  rw [Jt r0,if_pos h]
  by_cases h2:b=0
  ·rw [if_pos h2] at r1
   rw [Jt r1,zM r2,h2]; rfl
  ·rw [if_neg h2] at r1
   rw [zM r1]; rfl
 ·rw [if_neg h] at r0
  rw [zM r0,if_neg h]; rfl
theorem qJ2 (a b:Int):sgn a b=-1∨sgn a b=0∨sgn a b=1:=by
 unfold sgn; split
 ·exact .inl rfl
 ·split
  ·exact .inr (.inr rfl)
  ·exact .inr (.inl rfl)
theorem qcu (a b:qe):QL N a b=some (slB a b):=by
 obtain ⟨a1,a2⟩:=a
 obtain ⟨b1,b2⟩:=b
 unfold QL qec
 simp only [Tree.run,qla,qJp,Option.bind_some]
 by_cases h:((a1,a2):qe)=(b1,b2)
 ·cases h
  have:slB ((a1,a2):qe) (a1,a2)=false:=decide_eq_false (by simp only; omega)
  rw [this,decide_eq_true rfl]; rfl
 ·rw [decide_eq_false h]
  simp only [Bool.not_false,cond_true]
  show ((qbq N [sgn a1 b1,sgn a2 b2]).bind _)=_
  have hs:=qJ2 a2 b2
  by_cases h1:a1 < b1
  ·rw [show sgn a1 b1=-1 from if_pos h1,qCc,show slB ((a1,a2):qe) (b1,b2)=true from decide_eq_true (.inl h1)]; rfl
  ·by_cases h2:b1 < a1
   ·rw [show sgn a1 b1=1 by unfold sgn; rw [if_neg h1,if_pos h2],qCc,show slB ((a1,a2):qe) (b1,b2)=false from decide_eq_false (by simp only; omega)]; rfl
   ·have he:a1=b1:=by omega
    rw [show sgn a1 b1=0 by unfold sgn; rw [if_neg h1,if_neg h2],qCc,if_pos rfl,Option.bind_some]
    congr 1
    show decide (sgn a2 b2 < 0)=decide (a1 < b1∨(a1=b1∧a2 < b2))
    rw [decide_eq_decide]
    simp only [he,Int.lt_irrefl,false_or,true_and]
    unfold sgn
    split
    ·rename_i h3; simp [h3]
    ·rename_i h3
     split
     ·simp; omega
     ·simp; omega
end n
end Go.Rx
end
set_option maxRecDepth 100000
noncomputable section
namespace Go.Rx
open Go.Proofs
def lbB (a b:Vector UInt8 16):Bool:=!decide (a=b)&&decide (Go.Lib.compareBytes a.toList b.toList < 0)
section n
variable {N:Nat} [Zs N]
theorem qw_ {k:Nat} (h:0 < k):(k:Int) - 1=((k - 1:Nat):Int):=by omega
theorem qIr {k:Nat}:decide ((0:Int) < (k:Int))=!decide (k=0):=by
 by_cases h:k=0
 ·subst h; rfl
 ·rw [decide_eq_false h,decide_eq_true (by omega)]; rfl
theorem qGZ (a b:Vector UInt8 16):qfC a b=some (lbB a b):=by
 unfold qfC qgq Wb qaR qE7 lbB
 simp only [Tree.run,Option.bind_some,qu_]
 cases decide (a=b)<;>rfl
end n
theorem qel (a:Vector UInt8 16):lbB a a=false:=by unfold lbB; rw [decide_eq_true rfl]; rfl
end Go.Rx
end
set_option maxRecDepth 100000
noncomputable section
namespace Go.Rx
abbrev c32 (x:UInt32):Int:=((x.toNat:Nat):Int)
theorem qHg (x:UInt32):x.toNat < 4294967296:=x.toNat_lt
theorem qit (n:Nat):IntKind.u32.wrap ((n:Nat):Int)=((n % 4294967296:Nat):Int):=by rw [IntKind.wrap_u32']; omega
theorem qaE (x:UInt32):BitVec.ofInt 32 (c32 x)=x.toBitVec:=by
 apply BitVec.eq_of_toNat_eq
 rw [ofInt_u32 _ (qHg x)]
 rfl
theorem qps (x:UInt32):IntKind.u32.wrap ((x.toNat:Nat):Int)=c32 x:=by rw [qit,Nat.mod_eq_of_lt (qHg x)]
theorem qBM (x y:UInt32):qab .u32 (c32 x) (c32 y)=c32 (x + y):=by
 unfold qab
 show IntKind.u32.wrap (((x.toNat:Nat):Int) + ((y.toNat:Nat):Int))=_
 rw [← Int.natCast_add,qit,c32,UInt32.toNat_add]
theorem qBB (x y:UInt32):qam .u32 (c32 x) (c32 y)=c32 (x ^^^ y):=by
 unfold qam
 rw [show IntKind.u32.bits=32 from rfl,qaE,qaE]
 exact qps (x ^^^ y)
theorem qJT (x y:UInt32):qeI .u32 (c32 x) (c32 y)=c32 (x &&& y):=by
 unfold qeI
 rw [show IntKind.u32.bits=32 from rfl,qaE,qaE]
 exact qps (x &&& y)
theorem qJv (x y:UInt32):uOr .u32 (c32 x) (c32 y)=c32 (x ||| y):=by
 unfold uOr
 rw [show IntKind.u32.bits=32 from rfl,qaE,qaE]
 exact qps (x ||| y)
theorem qJR (x:UInt32):qam .u32 4294967295 (c32 x)=c32 (~~~x):=by
 have h:(4294967295:Int)=c32 4294967295:=rfl
 rw [h,qBB]
 congr 2
theorem qu1 (x:UInt32) (n:Nat) (h:n < 32):qsL .u32 (c32 x) n=c32 (x <<< UInt32.ofNat n):=by
 unfold qsL
 rw [show c32 x * 2 ^ n=((x.toNat * 2 ^ n:Nat):Int) by push_cast; rfl,qit,c32,UInt32.toNat_shiftLeft,UInt32.toNat_ofNat_of_lt' (show n < UInt32.size by unfold UInt32.size; omega),Nat.mod_eq_of_lt h,Nat.shiftLeft_eq]
theorem quO (x:UInt32) (n:Nat) (h:n < 32):ZF (c32 x) n=c32 (x >>> UInt32.ofNat n):=by
 unfold ZF
 rw [show ((2:Int) ^ n)=((2 ^ n:Nat):Int) by push_cast; rfl,Int.fdiv_eq_ediv_of_nonneg _ (Int.natCast_nonneg _),c32,← Int.natCast_ediv,c32,UInt32.toNat_shiftRight,UInt32.toNat_ofNat_of_lt' (show n < UInt32.size by unfold UInt32.size; omega),Nat.mod_eq_of_lt h,Nat.shiftRight_eq_div_pow]
theorem quP (x:UInt32):inW (c32 x):=⟨Int.natCast_nonneg _,by have:=qHg x; show ((x.toNat:Nat):Int) < _; omega⟩
def rot (x:UInt32) (n:Nat):UInt32:=(x <<< UInt32.ofNat (32 - n)) ||| (x >>> UInt32.ofNat n)
end Go.Rx
end
set_option maxRecDepth 100000
noncomputable section
namespace Go.Rx
open Go.Proofs
theorem qJB:∀ n < 32,0 < n→qeI .u64 (IntKind.u64.wrap (0 - ((n:Nat):Int))) 31=((32 - n:Nat):Int):=by decide +kernel
theorem qH7:∀ n < 32,0 < n→qI7 .u64 (32:Int) ((32 - n:Nat):Int)=((n:Nat):Int):=by decide +kernel
theorem qeo (x:UInt32) (n:Nat) (h:n < 32) (h0:0 < n):zW (c32 x) ((n:Nat):Int)=some (c32 (rot x n)):=by
 unfold zW qgs Vu JP
 have h64:qz (0 - ((n:Nat):Int)):=by unfold qz; omega
 simp only [run_bind,zx,qS,qm h64,qJB n h h0,qH7 n h h0]
 rw [qm (show (0:Int)≤((32 - n:Nat):Int) by omega),qm (show (0:Int)≤((n:Nat):Int) by omega),Int.toNat_natCast,Int.toNat_natCast,Nat.min_eq_left (show 32 - n≤32 by omega),Nat.min_eq_left (show n≤32 by omega),qu1 x _ (by omega),quO x n h,qJv]
 rfl
abbrev wAt {n:Nat} (v:Vector UInt32 n) (k:Nat):UInt32:=v.toList.getD k 0
abbrev bAt (l:List UInt8) (k:Nat):UInt32:=(l.getD k 0).toUInt32
def qsh (b:List UInt8) (k:Nat) (w:Vector UInt32 64):Vector UInt32 64:=
 if k < 16 then w.setIfInBounds k ((bAt b (4 * k) <<< UInt32.ofNat 24) ||| (bAt b (4 * k + 1) <<< UInt32.ofNat 16) ||| (bAt b (4 * k + 2) <<< UInt32.ofNat 8) ||| bAt b (4 * k + 3))
 else w.setIfInBounds k (wAt w (k - 16) + wAt w (k - 7) + (rot (wAt w (k - 15)) 7 ^^^ rot (wAt w (k - 15)) 18 ^^^ (wAt w (k - 15) >>> UInt32.ofNat 3)) + (rot (wAt w (k - 2)) 17 ^^^ rot (wAt w (k - 2)) 19 ^^^ (wAt w (k - 2) >>> UInt32.ofNat 10)))
def qo8 (b:List UInt8):Vector UInt32 64:=Vk (qsh b) 64 0 (Vector.replicate 64 0)
theorem qJq (c:UInt8):IntKind.u32.wrap ((c.toNat:Nat):Int)=c32 c.toUInt32:=by
 rw [qit,Nat.mod_eq_of_lt (by have:=c.toNat_lt; omega),c32,UInt8.toNat_toUInt32]
theorem qJG {N:Nat} {o:Vector UInt32 64} {b:List UInt8} {w:Vector UInt32 64} {k:Nat} (hb:b.length=64) (hk:k < 16):(vS N o b (w,(k:Int))).run some=some (.inl (qsh b k w,((k + 1:Nat):Int))):=by
 have g:∀ j < 4,zl b ((4:Int) * (k:Int) + ((j:Nat):Int))=some (b.getD (4 * k + j) 0):=fun j hj=>by
  rw [show (4:Int) * (k:Int) + ((j:Nat):Int)=((4 * k + j:Nat):Int) by omega]; exact jM (by omega)
 have g0:zl b ((4:Int) * (k:Int))=some (b.getD (4 * k) 0):=by have:=g 0 (by omega); simpa using this
 have g1:zl b ((4:Int) * (k:Int) + 1)=some (b.getD (4 * k + 1) 0):=g 1 (by omega)
 have g2:zl b ((4:Int) * (k:Int) + 2)=some (b.getD (4 * k + 2) 0):=g 2 (by omega)
 have g3:zl b ((4:Int) * (k:Int) + 3)=some (b.getD (4 * k + 3) 0):=g 3 (by omega)
 have c0:qz ((4:Int) * (k:Int)):=by unfold qz; omega
 have c1:qz ((4:Int) * (k:Int) + 1):=by unfold qz; omega
 have c2:qz ((4:Int) * (k:Int) + 2):=by unfold qz; omega
 have c3:qz ((4:Int) * (k:Int) + 3):=by unfold qz; omega
 have c4:qz ((k:Int) + 1):=by unfold qz; omega
 have d1:decide ((k:Int) < 64)=true:=decide_eq_true (by omega)
 have d2:decide ((k:Int) < 16)=true:=decide_eq_true (by omega)
 have p8:(0:Int)≤8:=by omega
 have p16:(0:Int)≤16:=by omega
 have p24:(0:Int)≤24:=by omega
 have pk:(0:Int)≤(k:Int)∧(k:Int) < ((64:Nat):Int):=by omega
 have pk2:k < 64:=by omega
 unfold vS qsh
 rw [if_pos hk]
 simp only [qI,run_bind,zx,qS,d1,d2,cond_true,qm c0,qm c1,qm c2,qm c3,g0,g1,g2,g3,Option.bind_some,qm p8,qm p16,qm p24,qJq,qu1 _ 24 (by omega),qu1 _ 16 (by omega),qu1 _ 8 (by omega),qJv,qm (quP _),qm pk,UInt32.ofNat_toNat,Int.toNat_natCast,qm pk2,qm c4]
 rw [zy]
theorem qI9 {N:Nat} {o:Vector UInt32 64} {b:List UInt8} {w:Vector UInt32 64} {k:Nat} (h1:¬ k < 16) (hk:k < 64):(vS N o b (w,(k:Int))).run some=some (.inl (qsh b k w,((k + 1:Nat):Int))):=by
 have c4:qz ((k:Int) + 1):=by unfold qz; omega
 have d1:decide ((k:Int) < 64)=true:=decide_eq_true (by omega)
 have d2:decide ((k:Int) < 16)=false:=decide_eq_false (by omega)
 have e15:(k:Int) - 15=((k - 15:Nat):Int):=by omega
 have e2:(k:Int) - 2=((k - 2:Nat):Int):=by omega
 have e16:(k:Int) - 16=((k - 16:Nat):Int):=by omega
 have e7:(k:Int) - 7=((k - 7:Nat):Int):=by omega
 have i15:qz (((k - 15:Nat)):Int):=by unfold qz; omega
 have i2:qz (((k - 2:Nat)):Int):=by unfold qz; omega
 have i16:qz (((k - 16:Nat)):Int):=by unfold qz; omega
 have i7:qz (((k - 7:Nat)):Int):=by unfold qz; omega
 have p15:(0:Int)≤((k - 15:Nat):Int)∧((k - 15:Nat):Int) < ((64:Nat):Int):=by omega
 have p2:(0:Int)≤((k - 2:Nat):Int)∧((k - 2:Nat):Int) < ((64:Nat):Int):=by omega
 have p16:(0:Int)≤((k - 16:Nat):Int)∧((k - 16:Nat):Int) < ((64:Nat):Int):=by omega
 have p7:(0:Int)≤((k - 7:Nat):Int)∧((k - 7:Nat):Int) < ((64:Nat):Int):=by omega
 have q15:k - 15 < 64:=by omega
 have q2:k - 2 < 64:=by omega
 have q16:k - 16 < 64:=by omega
 have q7:k - 7 < 64:=by omega
 have p3:(0:Int)≤3:=by omega
 have p10:(0:Int)≤10:=by omega
 have pk:(0:Int)≤(k:Int)∧(k:Int) < ((64:Nat):Int):=by omega
 have r7:=fun x=>qeo x 7 (by omega) (by omega)
 have r18:=fun x=>qeo x 18 (by omega) (by omega)
 have r17:=fun x=>qeo x 17 (by omega) (by omega)
 have r19:=fun x=>qeo x 19 (by omega) (by omega)
 unfold vS qsh
 rw [if_neg h1]
 simp only [qI,run_bind,zx,qS,d1,d2,cond_true,cond_false]
 rw [e15,e2,e16,e7]
 rw [qm i15,qm p15,Int.toNat_natCast,qm q15,qm i2,qm p2,Int.toNat_natCast,qm q2,qm i16,qm p16,Int.toNat_natCast,qm q16,qm i7,qm p7,Int.toNat_natCast,qm q7]
 show (Option.bind (zW (c32 (wAt w (k - 15))) ((7:Nat):Int)) _)=_
 rw [r7,Option.bind_some]
 show (Option.bind (zW (c32 (wAt w (k - 15))) ((18:Nat):Int)) _)=_
 rw [r18,Option.bind_some,qm p3]
 show (Option.bind (zW (c32 (wAt w (k - 2))) ((17:Nat):Int)) _)=_
 rw [r17,Option.bind_some]
 show (Option.bind (zW (c32 (wAt w (k - 2))) ((19:Nat):Int)) _)=_
 rw [r19,Option.bind_some,qm p10,qm pk]
 simp only [qBB,qBM,quO _ 3 (by omega),quO _ 10 (by omega),qm (quP _),Int.toNat_natCast,UInt32.ofNat_toNat,qm hk,qm c4]
 rw [zy]
theorem qGo {N:Nat} {b:List UInt8} (hN:64 < N) (hb:b.length=64):qbf N b=some (qo8 b):=by
 have key:qbk N (Vector.replicate 64 0) b (Vector.replicate 64 0) 0=some (qo8 b,(64:Int),false):=by
  refine (ZG (σ:=Vector UInt32 64) (B:=vS N (Vector.replicate 64 0) b) (g:=some) (at_:=fun k s=>(s,(k:Int))) (I:=fun _ _=>True) (f:=qsh b) (n:=64)
   (fin:=fun s=>(s,(64:Int),false)) (fun k s hk _=>⟨?_,trivial⟩) (fun s _=>?_) N 0 (Vector.replicate 64 0) trivial (Nat.zero_le _) (by omega))
  ·by_cases h:k < 16
   ·exact qJG hb h
   ·exact qI9 h hk
  ·unfold vS
   rfl
 unfold qbf qbW
 rw [run_bind,key,Option.bind_some,qS]
def tW (K w:Vector UInt32 64) (i:Nat) (x:Vector UInt32 8):UInt32:=wAt x 7 + (rot (wAt x 4) 6 ^^^ rot (wAt x 4) 11 ^^^ rot (wAt x 4) 25) + ((wAt x 4 &&& wAt x 5) ^^^ (~~~(wAt x 4) &&& wAt x 6)) + wAt K i + wAt w i
def uW (x:Vector UInt32 8):UInt32:=(rot (wAt x 0) 2 ^^^ rot (wAt x 0) 13 ^^^ rot (wAt x 0) 22) + ((wAt x 0 &&& wAt x 1) ^^^ (wAt x 0 &&& wAt x 2) ^^^ (wAt x 1 &&& wAt x 2))
def qxi (K w:Vector UInt32 64) (i:Nat) (x:Vector UInt32 8):Vector UInt32 8:=
 ((Wi x 1 7).setIfInBounds 0 (tW K w i x + uW x)).setIfInBounds 4 (wAt ((Wi x 1 7).setIfInBounds 0 (tW K w i x + uW x)) 4 + tW K w i x)
def qA7 (x:Vector UInt32 8) (k:Nat) (s:Vector UInt32 8):Vector UInt32 8:=s.setIfInBounds k (wAt s k + wAt x k)
def quW (s:Vector UInt32 8) (K:Vector UInt32 64) (b:List UInt8):Vector UInt32 8:=Vk (qA7 (Vk (qxi K (qo8 b)) 64 0 s)) 8 0 s
theorem qJs {N:Nat} {s:Vector UInt32 8} {K w:Vector UInt32 64} {x:Vector UInt32 8} {k:Nat} (hk:k < 64):(Zg N s K w (x,(k:Int))).run some=some (.inl (qxi K w k x,((k + 1:Nat):Int))):=by
 have c4:qz ((k:Int) + 1):=by unfold qz; omega
 have d1:decide ((k:Int) < 64)=true:=decide_eq_true (by omega)
 have pk:(0:Int)≤(k:Int)∧(k:Int) < ((64:Nat):Int):=by omega
 have hj:∀ j < 8,(0:Int)≤((j:Nat):Int)∧((j:Nat):Int) < ((8:Nat):Int):=fun j hj=>by omega
 have j0:(0:Int)≤(0:Int)∧(0:Int) < ((8:Nat):Int):=hj 0 (by omega)
 have j1:(0:Int)≤(1:Int)∧(1:Int) < ((8:Nat):Int):=hj 1 (by omega)
 have j2:(0:Int)≤(2:Int)∧(2:Int) < ((8:Nat):Int):=hj 2 (by omega)
 have j4:(0:Int)≤(4:Int)∧(4:Int) < ((8:Nat):Int):=hj 4 (by omega)
 have j5:(0:Int)≤(5:Int)∧(5:Int) < ((8:Nat):Int):=hj 5 (by omega)
 have j6:(0:Int)≤(6:Int)∧(6:Int) < ((8:Nat):Int):=hj 6 (by omega)
 have j7:(0:Int)≤(7:Int)∧(7:Int) < ((8:Nat):Int):=hj 7 (by omega)
 have n0:0 < 8:=by omega
 have n1:1 < 8:=by omega
 have n2:2 < 8:=by omega
 have n4:4 < 8:=by omega
 have n5:5 < 8:=by omega
 have n6:6 < 8:=by omega
 have n7:7 < 8:=by omega
 have r:=fun x n h h0=>qeo x n h h0
 unfold Zg qxi tW uW
 rw [qI,d1,cond_true]
 simp only [run_bind,zx,qS]
 rw [qm j0,qm n0,qm j4,qm n4,qm j7,qm n7]
 show (Option.bind (zW (c32 (wAt x 4)) ((6:Nat):Int)) _)=_
 rw [r _ 6 (by omega) (by omega),Option.bind_some]
 show (Option.bind (zW (c32 (wAt x 4)) ((11:Nat):Int)) _)=_
 rw [r _ 11 (by omega) (by omega),Option.bind_some]
 show (Option.bind (zW (c32 (wAt x 4)) ((25:Nat):Int)) _)=_
 rw [r _ 25 (by omega) (by omega),Option.bind_some,qm j5,qm n5,qm j6,qm n6,qm pk,Int.toNat_natCast,qm hk]
 rw [qm pk,qm hk]
 show (Option.bind (zW (c32 (wAt x 0)) ((2:Nat):Int)) _)=_
 rw [r _ 2 (by omega) (by omega),Option.bind_some]
 show (Option.bind (zW (c32 (wAt x 0)) ((13:Nat):Int)) _)=_
 rw [r _ 13 (by omega) (by omega),Option.bind_some]
 show (Option.bind (zW (c32 (wAt x 0)) ((22:Nat):Int)) _)=_
 rw [r _ 22 (by omega) (by omega),Option.bind_some]
 rw [qm j1,qm n1,qm j2,qm n2,qm j1,qm n1,qm j2,qm n2,qm j0]
 simp only [qBB,qJT,qJR,qBM,qm (quP _),Int.toNat_natCast,UInt32.ofNat_toNat,qm n0,qm j4,qm n4,qm c4]
 rw [zy]
theorem qzC {N:Nat} {s:Vector UInt32 8} {K:Vector UInt32 64} {b:List UInt8} (hN:64 < N) (hb:b.length=64):V_ N s K b=some (quW s K b):=by
 have k1:Ko N s K (qo8 b) s 0=some (Vk (qxi K (qo8 b)) 64 0 s,(64:Int),false):=by
  refine (ZG (σ:=Vector UInt32 8) (B:=Zg N s K (qo8 b)) (g:=some) (at_:=fun k s=>(s,(k:Int))) (I:=fun _ _=>True) (f:=qxi K (qo8 b)) (n:=64)
   (fin:=fun s=>(s,(64:Int),false)) (fun k x hk _=>⟨qJs hk,trivial⟩) (fun x _=>?_) N 0 s trivial (Nat.zero_le _) (by omega))
  unfold Zg
  rfl
 have k2:∀ x:Vector UInt32 8,Yy N K x s 0=some (Vk (qA7 x) 8 0 s,(8:Int),false):=fun x=>by
  refine (ZG (σ:=Vector UInt32 8) (B:=Jo N K x) (g:=some) (at_:=fun k s=>(s,(k:Int))) (I:=fun _ _=>True) (f:=qA7 x) (n:=8)
   (fin:=fun s=>(s,(8:Int),false)) (fun k y hk _=>⟨?_,trivial⟩) (fun y _=>?_) N 0 s trivial (Nat.zero_le _) (by omega))
  ·have c4:qz ((k:Int) + 1):=by unfold qz; omega
   have d1:decide ((k:Int) < 8)=true:=decide_eq_true (by omega)
   have pk:(0:Int)≤(k:Int)∧(k:Int) < ((8:Nat):Int):=by omega
   unfold Jo qA7
   simp only [qI,run_bind,zx,qS,d1,cond_true]
   rw [qm pk,Int.toNat_natCast,qm hk,qm pk,qm hk,qm pk]
   simp only [qBM,qm (quP _),Int.toNat_natCast,UInt32.ofNat_toNat,qm hk,qm c4]
   rw [zy]
  ·unfold Jo
   rfl
 unfold V_ qaj
 rw [run_bind,qGo hN hb,Option.bind_some,run_bind,k1,Option.bind_some,run_bind,k2,Option.bind_some,qS]
 rfl
end Go.Rx
end
set_option maxRecDepth 100000
noncomputable section
namespace Go.Rx
open Go.Proofs
def qJ7:Vector UInt32 8:=#v[1779033703,3144134277,1013904242,2773480762,1359893119,2600822924,528734635,1541459225]
def qJ5:Vector UInt32 64:=#v[1116352408,1899447441,3049323471,3921009573,961987163,1508970993,2453635748,2870763221,
 3624381080,310598401,607225278,1426881987,1925078388,2162078206,2614888103,3248222580,
 3835390401,4022224774,264347078,604807628,770255983,1249150122,1555081692,1996064986,
 2554220882,2821834349,2952996808,3210313671,3336571891,3584528711,113926993,338241895,
 666307205,773529912,1294757372,1396182291,1695183700,1986661051,2177026350,2456956037,
 2730485921,2820302411,3259730800,3345764771,3516065817,3600352804,4094571909,275423344,
 430227734,506948616,659060556,883997877,958139571,1322822218,1537002063,1747873779,
 1955562222,2024104815,2227730452,2361852424,2428436474,2756734187,3204031479,3329325298]
def Ww (L:Nat):Nat:=(119 - L % 64) % 64
theorem qv6 (n:Int):inB (IntKind.u8.wrap n):=by
 unfold inB
 have:IntKind.u8.wrap n=n % 256:=by simp [IntKind.wrap,IntKind.bits,IntKind.signed]
 rw [this]; omega
theorem qFJ (a b:Nat):((a:Nat):Int).tmod ((b:Nat):Int)=((a % b:Nat):Int):=rfl
theorem qHo (a b:Nat):((a:Nat):Int).tdiv ((b:Nat):Int)=((a / b:Nat):Int):=rfl
theorem qBP {n k:Nat} (h:k≤2000000000):Vt n n k 1:=⟨rfl,by unfold zi; omega⟩
theorem qJj {N:Nat} {o:Vector UInt8 32} {b:List UInt8} (hb:b.length≤1000000000) (hN:64 < N):qdM N o b (b++[128])=some (b++[128]++List.replicate (Ww b.length) 0,false):=by
 have hz:Ww b.length < 64:=Nat.mod_lt _ (by omega)
 have h56:(b.length + 1 + Ww b.length) % 64=56:=by unfold Ww; omega
 have hlen:∀ k,(b++[128]++List.replicate k (0:UInt8)).length=b.length + 1 + k:=fun k=>by simp; omega
 have hne:∀ k,k < Ww b.length→(b.length + 1 + k) % 64≠56:=fun k hk=>by unfold Ww at *; omega
 have e0:qdM N o b (b++[128])=q6 (Yq N o b) some N (b++[128]++List.replicate 0 (0:UInt8)):=by rw [List.replicate_zero,List.append_nil]; rfl
 rw [e0]
 refine (ZG (σ:=Unit) (B:=Yq N o b) (g:=some) (at_:=fun k _=>b++[128]++List.replicate k (0:UInt8)) (I:=fun _ _=>True) (f:=fun _ s=>s) (n:=Ww b.length)
  (fin:=fun _=>(b++[128]++List.replicate (Ww b.length) 0,false)) (fun k s hk _=>⟨?_,trivial⟩) (fun s _=>?_) N 0 () trivial (Nat.zero_le _) (by omega))
 ·unfold Yq
  have c1:(64:Int)≠0:=by omega
  have e:decide ((((b++[128]++List.replicate k (0:UInt8)).length:Nat):Int).tmod 64=56)=false:=decide_eq_false (by
   rw [hlen]
   have:=hne k hk
   show ¬ (((b.length + 1 + k) % 64:Nat):Int)=56
   omega)
  have c2:Vt (b++[128]++List.replicate k (0:UInt8)).length (b++[128]++List.replicate k (0:UInt8)).length ((b++[128]++List.replicate k (0:UInt8))++[UInt8.ofNat 0]).length 1:=qBP (by rw [List.length_append,hlen]; simp; omega)
  rw [zx,qm c1,qI,e,Bool.not_false,cond_true,zx,qm c2,qS]
  rw [List.replicate_succ',← List.append_assoc]
  rfl
 ·unfold Yq
  have c1:(64:Int)≠0:=by omega
  have e:decide ((((b++[128]++List.replicate (Ww b.length) (0:UInt8)).length:Nat):Int).tmod 64=56)=true:=decide_eq_true (by
   rw [hlen]
   show (((b.length + 1 + Ww b.length) % 64:Nat):Int)=56
   omega)
  rw [zx,qm c1,qI,e,Bool.not_true,cond_false,qS]
def qFK (L k:Nat):UInt8:=UInt8.ofNat (IntKind.u8.wrap (ZF (qJz .u64 (IntKind.u64.wrap ((L:Nat):Int)) 8) (min ((8:Int) * ((7:Int) - (k:Int))).toNat 64))).toNat
def qi_ (L k:Nat) (l:List UInt8):List UInt8:=l++[qFK L k]
theorem qxk {L:Nat}:∀ (m k:Nat) (l:List UInt8),(Vk (qi_ L) m k l).length=l.length + m
 | 0,_,_=>rfl
 | m + 1,k,l=>by
  show (Vk (qi_ L) m (k + 1) (qi_ L k l)).length=_
  rw [qxk m]; unfold qi_; rw [List.length_append]; simp; omega
theorem qIk {N:Nat} {o:Vector UInt8 32} {b l:List UInt8} (hl:l.length≤1500000000) (hN:64 < N):qiS N o b l 0=some (Vk (qi_ b.length) 8 0 l,(8:Int),false):=by
 refine (ZG (σ:=List UInt8) (B:=qbu N o b) (g:=some) (at_:=fun k s=>(s,(k:Int))) (I:=fun k s=>s.length=l.length + k) (f:=qi_ b.length) (n:=8)
  (fin:=fun s=>(s,(8:Int),false)) (fun k s hk hs=>⟨?_,?_⟩) (fun s _=>?_) N 0 l rfl (Nat.zero_le _) (by omega))
 ·have d1:decide ((k:Int) < 8)=true:=decide_eq_true (by omega)
  have c1:qz ((7:Int) - (k:Int)):=by unfold qz; omega
  have c2:qz ((8:Int) * ((7:Int) - (k:Int))):=by unfold qz; omega
  have c3:(0:Int)≤(8:Int) * ((7:Int) - (k:Int)):=by omega
  have c4:qz ((k:Int) + 1):=by unfold qz; omega
  have c5:Vt s.length s.length (s++[qFK b.length k]).length 1:=qBP (by rw [List.length_append,hs]; simp; omega)
  unfold qbu
  rw [qI,d1,cond_true]
  simp only [zx,qS]
  rw [qm c1,qm c2,qm c3,qm (qv6 _)]
  show chk (Vt s.length s.length (s++[qFK b.length k]).length 1) _=_
  rw [qm c5,qm c4,zy]
  rfl
 ·unfold qi_; rw [List.length_append,hs]; simp; omega
 ·unfold qbu
  rfl
def chF (K:Vector UInt32 64):Nat→Vector UInt32 8→List UInt8→Vector UInt32 8
 | 0,s,_=>s
 | m + 1,s,l=>chF K m (quW s K (l.take 64)) (l.drop 64)
theorem qHH {N : Nat} {o : List UInt8} {o2 : Vector UInt8 32} {o3 : Vector UInt32 8} {K : Vector UInt32 64} (hN : 64 < N) : ∀ (m n : Nat) (s : Vector UInt32 8) (l : List UInt8), l.length = 64 * m → m < n →
    q6 (XJ N o o2 o3 K) some n (s,l)=some (.inr (chF K m s l,[],false))
 | 0,n + 1,s,l,hl,_=>by
  have:l=[]:=List.length_eq_zero_iff.1 (by omega)
  subst this
  exact zM (by unfold XJ; rfl) n
 | m + 1,n + 1,s,l,hl,hn=>by
  have d1:decide ((0:Int) < ((l.length:Nat):Int))=true:=decide_eq_true (by omega)
  have c1:(0:Int)≤0∧(0:Int)≤64∧(64:Int)≤((l.length:Nat):Int):=by omega
  have c2:(0:Int)≤64∧(64:Int)≤((l.length:Nat):Int):=by omega
  have ht:((l.take 64).drop 0).length=64:=by rw [List.drop_zero,List.length_take]; omega
  rw [Jt (v':=(quW s K (l.take 64),l.drop 64)) (by
   unfold XJ
   rw [qI,d1,cond_true,zx,qm c1,run_bind,qzC hN ht,Option.bind_some,zx,qm c2,qS,List.drop_zero]) n]
  exact qHH hN m n _ _ (by rw [List.length_drop]; omega) (by omega)
 | _,0,_,_,_,hn=>by omega
theorem qCX {N m : Nat} {all : List UInt8} {o2 : Vector UInt8 32} {s : Vector UInt32 8} {K : Vector UInt32 64} (hN : 64 < N) (hm : m + 1 < N) (hl : all.length = 64 * (m + 1)) :
    Ku N all o2 s K=some (.inr (chF K (m + 1) s all,[],false)):=by
 have d1:decide ((0:Int) < ((all.length:Nat):Int))=true:=decide_eq_true (by omega)
 have c1:(0:Int)≤0∧(0:Int)≤64∧(64:Int)≤((all.length:Nat):Int):=by omega
 have c2:(0:Int)≤64∧(64:Int)≤((all.length:Nat):Int):=by omega
 have ht:((all.take 64).drop 0).length=64:=by rw [List.drop_zero,List.length_take]; omega
 have hrun:(KU N all o2 s K ()).run some=some (.inr (.inl (quW s K (all.take 64),all.drop 64))):=by
  unfold KU
  rw [qI,d1,cond_true,zx,qm c1,zx,qm rfl,run_bind,qzC hN ht,Option.bind_some,zx,qm c2,zx,qm rfl,qS,List.drop_zero]
 obtain ⟨N',rfl⟩:∃ N',N=N' + 1:=⟨N - 1,by omega⟩
 have e:Ku (N' + 1) all o2 s K=q6 (KU (N' + 1) all o2 s K) (qdd (N' + 1) (N' + 1) (all,o2,s,K)) (N' + 1) ():=rfl
 rw [e,zM hrun]
 exact qHH (o:=all) (o2:=o2) (o3:=s) hN m (N' + 1) _ _ (by rw [List.length_drop]; omega) (by omega)
def qJt (s:Vector UInt32 8) (k:Nat):UInt8:=UInt8.ofNat (IntKind.u8.wrap (c32 (wAt s (k / 4) >>> UInt32.ofNat (24 - 8 * (k % 4))))).toNat
def qGE (s:Vector UInt32 8) (k:Nat) (o:Vector UInt8 32):Vector UInt8 32:=o.setIfInBounds k (qJt s k)
def qIX (s:Vector UInt32 8):Vector UInt8 32:=Vk (qGE s) 32 0 (Vector.replicate 32 0)
theorem qIZ {N:Nat} {o:Vector UInt8 32} {s:Vector UInt32 8} (hN:64 < N):qce N o s (Vector.replicate 32 0) 0=some (qIX s,(32:Int),false):=by
 refine (ZG (σ:=Vector UInt8 32) (B:=K4 N o s) (g:=some) (at_:=fun k s=>(s,(k:Int))) (I:=fun _ _=>True) (f:=qGE s) (n:=32)
  (fin:=fun s=>(s,(32:Int),false)) (fun k x hk _=>⟨?_,trivial⟩) (fun x _=>?_) N 0 (Vector.replicate 32 0) trivial (Nat.zero_le _) (by omega))
 ·have d1:decide ((k:Int) < 32)=true:=decide_eq_true (by omega)
  have e1:(k:Int).tdiv 4=((k / 4:Nat):Int):=qHo k 4
  have e2:(k:Int).tmod 4=((k % 4:Nat):Int):=qFJ k 4
  have h4:(4:Int)≠0:=by omega
  have c1:qz (((k / 4:Nat)):Int):=by unfold qz; omega
  have c2:(0:Int)≤((k / 4:Nat):Int)∧((k / 4:Nat):Int) < ((8:Nat):Int):=by omega
  have c3:k / 4 < 8:=by omega
  have c4:qz ((8:Int) * ((k % 4:Nat):Int)):=by unfold qz; omega
  have e3:(24:Int) - (8:Int) * ((k % 4:Nat):Int)=((24 - 8 * (k % 4):Nat):Int):=by omega
  have c5:qz ((24 - 8 * (k % 4):Nat):Int):=by unfold qz; omega
  have c6:(0:Int)≤((24 - 8 * (k % 4):Nat):Int):=by omega
  have c7:(0:Int)≤(k:Int)∧(k:Int) < ((32:Nat):Int):=by omega
  have c8:qz ((k:Int) + 1):=by unfold qz; omega
  unfold K4 qGE qJt
  rw [qI,d1,cond_true]
  simp only [zx,qS]
  rw [e1,e2,e3,qm h4,qm c1,qm c2,Int.toNat_natCast,qm c3,qm h4,qm c4,qm c5,qm c6,qm c7,qm (qv6 _),Int.toNat_natCast,qm hk,qm c8,Int.toNat_natCast,Nat.min_eq_left (show 24 - 8 * (k % 4)≤32 by omega)]
  rw [zy]
  show some (Sum.inl (x.setIfInBounds k (UInt8.ofNat (IntKind.u8.wrap (ZF (c32 (wAt s (k / 4))) (24 - 8 * (k % 4)))).toNat),_))=_
  rw [quO _ _ (by omega)]
 ·unfold K4
  rfl
def qox (b:List UInt8):List UInt8:=Vk (qi_ b.length) 8 0 (b++[128]++List.replicate (Ww b.length) 0)
def Q5 (b:List UInt8):Vector UInt8 32:=qIX (chF qJ5 ((qox b).length / 64) qJ7 (qox b))
theorem qIM (b:List UInt8):∃ m,(qox b).length=64 * (m + 1)∧m≤b.length:=by
 have h:(qox b).length=b.length + 1 + Ww b.length + 8:=by unfold qox; rw [qxk]; simp; omega
 rw [h]
 refine ⟨(b.length + 1 + Ww b.length + 8) / 64 - 1,?_,?_⟩
 ·unfold Ww; omega
 ·unfold Ww; omega
theorem qHy {l:List UInt8} (h:l.length≤1000000000):Xg l=some ():=by
 unfold Xg
 cases l with
 | nil=>kernel_rfl
 | cons x r=>
  show qf7 (x::r)=_
  unfold qf7 qde
  have h2:Vt ([]:List UInt8).length 0 ([]++x::r).length 1:=⟨rfl,by rw [List.nil_append]; unfold zi; omega⟩
  rw [zx,qm (List.isEmpty_cons),zx,qm h2,qS]
theorem qmg {Z:Type} {a:Nat} {o:Option Z}:jV [(a,a)] o=o:=(jF rfl).trans (qEk o)
theorem qGf:qkG=some ():=by kernel_rfl
theorem qGG:qma=some ():=by kernel_rfl
theorem qJg {N:Nat} {b:List UInt8} (hb:b.length≤1000000000) (hN:b.length + 100 < N):qd2 N b=some (Q5 b):=by
 obtain ⟨m,hm,hmb⟩:=qIM b
 have c1:Vt (([]:List UInt8)++b).length (([]:List UInt8)++b).length ((([]:List UInt8)++b)++[UInt8.ofNat 128]).length 1:=qBP (by rw [List.nil_append,List.length_append]; simp; omega)
 have hpad:=qJj (N:=N) (o:=Vector.replicate 32 0) hb (by omega)
 have hlen:=qIk (N:=N) (o:=Vector.replicate 32 0) (b:=b) (l:=b++[128]++List.replicate (Ww b.length) 0) (by have:Ww b.length < 64:=Nat.mod_lt _ (by omega); simp; omega) (by omega)
 have hch:∀ (s:Vector UInt32 8) (K:Vector UInt32 64),Ku N (Vk (qi_ b.length) 8 0 (b++[128]++List.replicate (Ww b.length) 0)) (Vector.replicate 32 0) s K=some (.inr (chF K (m + 1) s (qox b),[],false)):=fun s K=>qCX (by omega) (by omega) hm
 have hd:(qox b).length / 64=m + 1:=by rw [hm]; omega
 have e1:(([]:List UInt8)++b)++[UInt8.ofNat 128]=b++[128]:=rfl
 unfold qd2 qmd Q5
 rw [run_bind,qHy hb,Option.bind_some,zx,qm c1,run_bind,e1,qmg,hpad,Option.bind_some]
 dsimp only
 rw [run_bind,qmg,hlen,Option.bind_some]
 dsimp only
 rw [run_bind,qGf,Option.bind_some,run_bind,qGG,Option.bind_some,run_bind,qmg,hch,Option.bind_some,qFc,run_bind,qIZ (by omega),Option.bind_some,qS,hd]
 rfl
end Go.Rx
end
set_option maxRecDepth 100000
noncomputable section
namespace Go.Rx
open Go.Proofs
section n
variable {N:Nat} [Zs N]
def K2 (c:qc):Bool:=!decide (c.S=zSt)&&(stB c.S&&decide (c.V.length≤200))
theorem qIa (c:qc):qag c=some (K2 c):=by
 unfold qag qjn K2
 have e:eqE qn c.S (qe.mk 0 0)=decide (c.S=zSt):=qla _ _
 have e2:decide (((c.V.length:Nat):Int)≤200)=decide (c.V.length≤200):=decide_eq_decide.2 (by omega)
 rw [qI,e,run_bind,qis,Option.bind_some,qI,qS,e2,qS]
 cases decide (c.S=zSt)<;>cases stB c.S<;>rfl
end n
end Go.Rx
end
set_option maxRecDepth 100000
noncomputable section
namespace Go.Rx
open Go.Proofs
abbrev zF:qb:=qb.mk 0 (qc.mk zSt [])
abbrev zR:qa:=qa.mk (Vector.replicate 16 0) zSt []
def qlK (l:List qb) (dead:qe) (k:Nat):Bool:=
 (if k=0 then decide (0≤(l.getD k zF).No) else decide ((l.getD (k - 1) zF).No < (l.getD k zF).No))&&(!decide (8≤(l.getD k zF).No)&&(K2 (l.getD k zF).C&&slB dead (l.getD k zF).C.S))
def jr (r:qa):Bool:=stB r.qX&&(!(decide (r.F.length=0)&&decide (r.qX=zSt))&&Qk (qlK r.F r.qX) r.F.length)
def qvn (l:List qa) (k:Nat):Bool:=jr (l.getD k zR)&&(decide (k=0)||lbB (l.getD (k - 1) zR).ID (l.getD k zR).ID)
def zX (b:qd):Bool:=Qk (qvn b.R) b.R.length&&decide (b.R.length≤10)
section n
variable {N:Nat} [Zs N]
theorem qE2 {f : qb} {dead : qe} {k : Nat} (h64 : qz ((k : Int) + 1)) :
    (Tree.cond (decide (((8:Int))≤(qb.No f))) (.ret (.inr (.inl ())))
     (Tree.bind (qag (qb.C f)) fun r2=>Tree.cond (!r2) (.ret (.inr (.inl ())))
      (Tree.bind (QL N dead (qc.S (qb.C f))) fun r3=>Tree.cond (!r3) (.ret (.inr (.inl ())))
       (Tree.chk (qz ((k:Int) + 1)) (.ret (.inl ((k:Int) + 1):Int⊕(Unit⊕(Int×Bool)))))))).run some =
    some (if (!decide (8≤f.No)&&(K2 f.C&&slB dead f.C.S))=true then .inl ((k:Int) + 1) else .inr (.inl ())):=by
 rw [qI,qS,run_bind,qIa,Option.bind_some,qI,qS,run_bind,qcu,Option.bind_some,qI,qS,zx,qm h64,qS]
 cases decide (8≤f.No)<;>cases K2 f.C<;>cases slB dead f.C.S<;>rfl
theorem qIy {r : qa} (hN : r.F.length < N) (h62 : r.F.length ≤ 4611686018427387904) :
    qdK N r r.F ((r.F.length:Nat):Int) 0=some (if Qk (qlK r.F r.qX) r.F.length then .inr (((r.F.length:Nat):Int),false) else .inl ()):=by
 refine Xp (B:=qbp N r r.F ((r.F.length:Nat):Int)) (g:=some) (q:=qlK r.F r.qX) (fun k hk=>?_) ?_ hN
 ·have h64:qz ((k:Int) + 1):=by unfold qz; omega
  have ht:=qE2 (N:=N) (f:=r.F.getD k zF) (dead:=r.qX) h64
  unfold qbp
  rw [qI,dec_lt hk,cond_true,run_bind,jM (d:=zF) hk,Option.bind_some,← zy]
  unfold qlK
  by_cases h0:k=0
  ·have d0:decide ((k:Int)=0)=true:=decide_eq_true (by omega)
   rw [qI,d0,cond_true,if_pos h0,qI]
   by_cases h1:(0:Int)≤(r.F.getD k zF).No
   ·rw [decide_eq_true h1,cond_true,ht,Bool.true_and]
   ·have d1:decide ((0:Int) < (k:Int))=false:=decide_eq_false (by omega)
    rw [decide_eq_false h1,cond_false,qI,d1,cond_false,qS]
    rfl
  ·have d0:decide ((k:Int)=0)=false:=decide_eq_false (by omega)
   have d1:decide ((0:Int) < (k:Int))=true:=decide_eq_true (by omega)
   have hp:qz ((k:Int) - 1):=by unfold qz; omega
   have hk1:k - 1 < r.F.length:=by omega
   rw [qI,d0,cond_false,if_neg h0,qI,d1,cond_true,zx,qm hp,run_bind,qw_ (Nat.pos_of_ne_zero h0),jM (d:=zF) hk1,Option.bind_some,qI]
   by_cases h2:(r.F.getD (k - 1) zF).No < (r.F.getD k zF).No
   ·rw [decide_eq_true h2,Bool.not_true,cond_false,ht,Bool.true_and]
   ·rw [decide_eq_false h2,Bool.not_false,cond_true,qS]
    rfl
 ·unfold qbp
  rw [qI,jq (Nat.lt_irrefl _),cond_false,qS]
theorem qmU {r:qa} (hN:r.F.length < N) (h62:r.F.length≤4611686018427387904):qbR N r=some (jr r):=by
 have e0:eqE qn r.qX (qe.mk 0 0)=decide (r.qX=zSt):=qla _ _
 have d0:decide (((r.F.length:Nat):Int)=0)=decide (r.F.length=0):=decide_eq_decide.2 (by omega)
 unfold qbR qlx jr
 rw [run_bind,qis,Option.bind_some,qI,qS,qI,d0,qI,e0,qS,run_bind,qIy hN h62,Option.bind_some]
 cases stB r.qX<;>cases decide (r.F.length=0)<;>cases decide (r.qX=zSt)<;>cases Qk (qlK r.F r.qX) r.F.length<;>rfl
theorem qIi {b : qd} (hN : b.R.length < N) (h62 : b.R.length ≤ 4611686018427387904) (hF : ∀ k, k < b.R.length → (b.R.getD k zR).F.length < N ∧ (b.R.getD k zR).F.length ≤ 4611686018427387904) :
    qg0 N b b.R ((b.R.length:Nat):Int) 0=some (if Qk (qvn b.R) b.R.length then .inr (((b.R.length:Nat):Int),false) else .inl ()):=by
 refine Xp (B:=K3 N b b.R ((b.R.length:Nat):Int)) (g:=some) (q:=qvn b.R) (fun k hk=>?_) ?_ hN
 ·have h64:qz ((k:Int) + 1):=by unfold qz; omega
  unfold K3
  rw [qI,dec_lt hk,cond_true,run_bind,jM (d:=zR) hk,Option.bind_some,run_bind,qmU (hF k hk).1 (hF k hk).2,Option.bind_some,qI,qS,qI,qIr,zx,zx,qm h64,qS,zy]
  unfold qvn
  cases jr (b.R.getD k zR) with
  | false=>rfl
  | true=>
   by_cases h0:k=0
   ·rw [decide_eq_true h0]; rfl
   ·have hp:qz ((k:Int) - 1):=by unfold qz; omega
    have hk1:k - 1 < b.R.length:=by omega
    rw [decide_eq_false h0,Bool.not_true,cond_false,Bool.not_false,cond_true,qm hp,run_bind,qw_ (Nat.pos_of_ne_zero h0),jM (d:=zR) hk1,Option.bind_some,run_bind,qGZ,Option.bind_some,qI,qS,zx,qm (show qz ((k + 1:Nat):Int) by rw [← zy]; exact h64),qS]
    cases lbB (b.R.getD (k - 1) zR).ID (b.R.getD k zR).ID<;>rfl
 ·unfold K3
  rw [qI,jq (Nat.lt_irrefl _),cond_false,qS]
theorem qIA {b:qd} (hN:b.R.length < N) (h62:b.R.length≤4611686018427387904) (hF:∀ k,k < b.R.length→(b.R.getD k zR).F.length < N∧(b.R.getD k zR).F.length≤4611686018427387904):Yp N b=some (zX b):=by
 have e2:decide (((b.R.length:Nat):Int)≤10)=decide (b.R.length≤10):=decide_eq_decide.2 (by omega)
 unfold Yp qic zX
 rw [run_bind,qIi hN h62 hF,Option.bind_some]
 cases Qk (qvn b.R) b.R.length with
 | false=>rfl
 | true=>show (Tree.run some (Tree.ret (decide (((b.R.length:Nat):Int)≤10))))=_; rw [qS,e2]; rfl
end n
theorem X3 {r:qa}:jr r=true↔stB r.qX=true∧(r.F.length≠0∨r.qX≠zSt)∧∀ k,k < r.F.length→qlK r.F r.qX k=true:=by
 unfold jr
 rw [Bool.and_eq_true,Bool.and_eq_true,Vz,Bool.not_eq_true',Bool.and_eq_false_iff,decide_eq_false_iff_not,decide_eq_false_iff_not]
theorem Vx {l:List qb} {dead:qe} {k:Nat}:qlK l dead k=true↔(if k=0 then 0≤(l.getD k zF).No else (l.getD (k - 1) zF).No < (l.getD k zF).No)∧(l.getD k zF).No < 8∧K2 (l.getD k zF).C=true∧slB dead (l.getD k zF).C.S=true:=by
 unfold qlK
 rw [Bool.and_eq_true,Bool.and_eq_true,Bool.and_eq_true,Bool.not_eq_true',decide_eq_false_iff_not,Int.not_le]
 refine and_congr ?_ Iff.rfl
 split<;>exact decide_eq_true_iff
theorem qxz {r:qa} (h:jr r=true):∀ k,k < r.F.length→(k:Int)≤(r.F.getD k zF).No
 | 0,hk=>by
  have:=(Vx.1 ((X3.1 h).2.2 0 hk)).1
  rw [if_pos rfl] at this; exact this
 | k + 1,hk=>by
  have:=(Vx.1 ((X3.1 h).2.2 (k + 1) hk)).1
  rw [if_neg (by omega)] at this
  have ih:=qxz h k (by omega)
  rw [show k + 1 - 1=k by omega] at this
  omega
theorem qb1 {r:qa} (h:jr r=true):r.F.length≤8:=by
 by_cases e:r.F.length=0
 ·omega
 ·have h1:=qxz h (r.F.length - 1) (by omega)
  have h2:=(Vx.1 ((X3.1 h).2.2 (r.F.length - 1) (by omega))).2.1
  omega
theorem qcJ {b:qd}:zX b=true↔(∀ k,k < b.R.length→jr (b.R.getD k zR)=true∧(k=0∨lbB (b.R.getD (k - 1) zR).ID (b.R.getD k zR).ID=true))∧b.R.length≤10:=by
 unfold zX
 rw [Bool.and_eq_true,decide_eq_true_iff,Vz]
 refine and_congr (forall_congr' fun k=>imp_congr_right fun _=>?_) Iff.rfl
 show (jr (b.R.getD k zR)&&(decide (k=0)||lbB (b.R.getD (k - 1) zR).ID (b.R.getD k zR).ID))=true↔_
 rw [Bool.and_eq_true,Bool.or_eq_true,decide_eq_true_iff]
theorem qvb {c:qc} (h:K2 c=true):c.V.length≤200:=by
 unfold K2 at h
 simp only [Bool.and_eq_true,decide_eq_true_iff] at h
 exact h.2.2
end Go.Rx
end
set_option maxRecDepth 100000
noncomputable section
namespace Go.Rx
open Go.Proofs
section n
variable {N:Nat} [Zs N]
def Qb (N:Nat) (b:qd):Prop:=b.R.length < N∧b.R.length≤4611686018427387904∧∀ k,k < b.R.length→(b.R.getD k zR).F.length < N∧(b.R.getD k zR).F.length≤4611686018427387904
theorem qmE {b:qd} (h:Qb N b):Yp N b=some (zX b):=qIA h.1 h.2.1 h.2.2
theorem qoH {l:List UInt8} (h:l.length≤50000):qhz N l=some (Q5 l):=by
 unfold qhz qoB
 rw [zx,qm (show qmB l.length by unfold qmB; omega),run_bind,qJg (by omega) (by have:=big N; omega),Option.bind_some,qS]
end n
end Go.Rx
end
set_option maxRecDepth 100000
noncomputable section
namespace Go.Rx
open Go.Proofs
open Go.Lib (compareBytes)
theorem qzw:∀ l:List UInt8,compareBytes l l=0
 | []=>rfl
 | x::l=>by
  unfold compareBytes
  rw [if_neg (UInt8.lt_irrefl x),if_neg (UInt8.lt_irrefl x)]
  exact qzw l
theorem qwN:∀ a b c:List UInt8,compareBytes a b < 0→compareBytes b c < 0→compareBytes a c < 0
 | [],[],_,h,_=>by simp [compareBytes] at h
 | [],_::_,[],_,h=>by simp [compareBytes] at h
 | [],_::_,_::_,_,_=>by simp [compareBytes]
 | _::_,[],_,h,_=>by simp [compareBytes] at h
 | _::_,_::_,[],_,h=>by simp [compareBytes] at h
 | x::a,y::b,z::c,h1,h2=>by
  unfold compareBytes at h1 h2 ⊢
  simp only [UInt8.lt_iff_toNat_lt] at h1 h2 ⊢
  by_cases hxy:x.toNat < y.toNat
  ·by_cases hyz:y.toNat < z.toNat
   ·rw [if_pos (by omega)]; decide
   ·rw [if_neg hyz] at h2
    by_cases hzy:z.toNat < y.toNat
    ·rw [if_pos hzy] at h2; simp at h2
    ·rw [if_pos (by omega)]; decide
  ·rw [if_neg hxy] at h1
   by_cases hyx:y.toNat < x.toNat
   ·rw [if_pos hyx] at h1; simp at h1
   ·rw [if_neg hyx] at h1
    by_cases hyz:y.toNat < z.toNat
    ·rw [if_pos (by omega)]; decide
    ·rw [if_neg hyz] at h2
     by_cases hzy:z.toNat < y.toNat
     ·rw [if_pos hzy] at h2; simp at h2
     ·rw [if_neg hzy] at h2
      rw [if_neg (by omega),if_neg (by omega)]
      exact qwN a b c h1 h2
theorem qDr:∀ a b:List UInt8,(compareBytes a b < 0∧compareBytes b a > 0)∨a=b∨(compareBytes b a < 0∧compareBytes a b > 0)
 | [],[]=>.inr (.inl rfl)
 | [],_::_=>.inl ⟨by simp [compareBytes],by simp [compareBytes]⟩
 | _::_,[]=>.inr (.inr ⟨by simp [compareBytes],by simp [compareBytes]⟩)
 | x::a,y::b=>by
  unfold compareBytes
  by_cases h:x < y
  ·have h':¬ y < x:=fun h'=>by rw [UInt8.lt_iff_toNat_lt] at h h'; omega
   rw [if_pos h,if_neg h',if_pos h]
   exact .inl ⟨by omega,by omega⟩
  ·by_cases h':y < x
   ·rw [if_neg h,if_pos h',if_pos h']
    exact .inr (.inr ⟨by omega,by omega⟩)
   ·rw [if_neg h,if_neg h',if_neg h',if_neg h]
    have e:x=y:=by
     apply UInt8.toNat_inj.1
     rw [UInt8.lt_iff_toNat_lt] at h h'; omega
    subst e
    rcases qDr a b with h1 | h1 | h1
    ·exact .inl h1
    ·exact .inr (.inl (by rw [h1]))
    ·exact .inr (.inr h1)
theorem qHs {n:Nat} (h:n < 18446744073709551616):IntKind.u64.wrap ((n:Nat):Int)=((n:Nat):Int):=by
 have:IntKind.u64.wrap (n:Int)=(n:Int) % 18446744073709551616:=by simp [IntKind.wrap,IntKind.bits,IntKind.signed]
 rw [this]; omega
def ltB (a b:List UInt8):Bool:=decide (compareBytes a b < 0)
theorem Wr (a:List UInt8):ltB a a=false:=by unfold ltB; rw [qzw]; rfl
theorem qkI {a b c:List UInt8} (h1:ltB a b=true) (h2:ltB b c=true):ltB a c=true:=decide_eq_true (qwN a b c (of_decide_eq_true h1) (of_decide_eq_true h2))
theorem qd7 (a b:List UInt8):(ltB a b=true∧ltB b a=false)∨a=b∨(ltB b a=true∧ltB a b=false):=by
 rcases qDr a b with h | h | h
 ·exact .inl ⟨decide_eq_true h.1,decide_eq_false (by omega)⟩
 ·exact .inr (.inl h)
 ·exact .inr (.inr ⟨decide_eq_true h.1,decide_eq_false (by omega)⟩)
theorem qpG:∀ a b:List UInt8,Op.bytesLess a b=ltB a b
 | [],[]=>rfl
 | [],_::_=>rfl
 | _::_,[]=>rfl
 | x::a,y::b=>by
  have ih:=qpG a b
  unfold Op.bytesLess
  rw [ih]
  unfold ltB
  rw [show compareBytes (x::a) (y::b)=if x < y then -1 else if y < x then 1 else compareBytes a b from rfl]
  by_cases h:x < y
  ·rw [if_pos h,decide_eq_true h]; rfl
  ·rw [if_neg h,decide_eq_false h,Bool.false_or]
   by_cases h':y < x
   ·rw [if_pos h']
    have:(x == y)=false:=by
     rw [beq_eq_false_iff_ne]
     intro e; subst e; exact h h'
    rw [this]; rfl
   ·have e : x = y := by
       apply UInt8.toNat_inj.1
       rw [UInt8.lt_iff_toNat_lt] at h h'; omega
    subst e
    rw [if_neg h]
    simp
theorem qmS (a b:Vector UInt8 16):lbB a b=ltB a.toList b.toList:=by
 unfold lbB
 by_cases h:a=b
 ·subst h; rw [decide_eq_true rfl,Wr]; rfl
 ·rw [decide_eq_false h]; rfl
def ltD (a b:Vector UInt8 32):Bool:=ltB a.toList b.toList
theorem eqD (a b:Vector UInt8 32):eqE (.ba 32) a b=decide (a=b):=Bool.eq_iff_iff.2 ((Qy (.ba 32) a b).trans (decide_eq_true_iff (p:=(a:Vector UInt8 32)=b)).symm)
def vm (a b:qc):Bool:=if a.S=b.S then (if Q5 a.V=Q5 b.V then ltB a.V b.V else ltD (Q5 a.V) (Q5 b.V)) else slB a.S b.S
def cJ (a b:qc):qc:=if vm a b=true then b else a
def mxS (a b:qe):qe:=if slB a b=true then b else a
theorem Y0 (a b:qe):(slB a b=true∧slB b a=false)∨a=b∨(slB b a=true∧slB a b=false):=by
 obtain ⟨a1,a2⟩:=a
 obtain ⟨b1,b2⟩:=b
 unfold slB
 simp only [decide_eq_true_iff,decide_eq_false_iff_not,Prod.mk.injEq]
 omega
theorem Zo (a:qe):slB a a=false:=by
 unfold slB
 exact decide_eq_false (by omega)
theorem qas {a b c:qe} (h1:slB a b=true) (h2:slB b c=true):slB a c=true:=by
 unfold slB at *
 rw [decide_eq_true_iff] at *
 omega
end Go.Rx
end
set_option maxRecDepth 100000
noncomputable section
namespace Go.Rx
open Go.Proofs
section n
variable {N:Nat} [Zs N]
def qJm:Option Nat→Int
 | some i=>(i:Int)
 | none=>-1
theorem qlJ {p:Nat→Bool} {n i:Nat} (h:Jf p n 0=some i):i < n∧p i=true:=by
 obtain ⟨h1,_,h2,_⟩:=qgW h
 exact ⟨by omega,h1⟩
end n
end Go.Rx
end
set_option maxRecDepth 100000
noncomputable section
namespace Go.Rx
open Go.Proofs
section n
variable {N:Nat} [Zs N]
theorem qIB (r:qa):∃ b,Ql N r=some b:=by
 unfold Ql Ye
 by_cases h:r.F.length≤12
 ·have d:decide ((12:Int) < ((r.F.length:Nat):Int))=false:=decide_eq_false (by omega)
  have key:WA N r 0=some (if Qk (fun k=>decide ((r.F.getD k zF).C.V.length≤300)) r.F.length then .inr (((r.F.length:Nat):Int),false) else .inl ()):=by
   refine Xp (B:=Z0 N r) (g:=some) (q:=fun k=>decide ((r.F.getD k zF).C.V.length≤300)) (fun k hk=>?_) ?_ (by have:=big N; omega)
   ·unfold Z0
    have e:decide ((300:Int) < (((r.F.getD k zF).C.V.length:Nat):Int))=!decide ((r.F.getD k zF).C.V.length≤300):=qF7 (c:=300)
    rw [qI,dec_lt hk,cond_true,run_bind,jM (d:=zF) hk,Option.bind_some,qI,qS,e,zx,qm (show qz ((k:Int) + 1) by unfold qz; omega),qS,zy]
    cases decide ((r.F.getD k zF).C.V.length≤300)<;>rfl
   ·unfold Z0
    rw [qI,jq (Nat.lt_irrefl _),cond_false,qS]
  rw [qI,d,cond_false,run_bind,key,Option.bind_some]
  cases Qk (fun k=>decide ((r.F.getD k zF).C.V.length≤300)) r.F.length
  ·exact ⟨_,rfl⟩
  ·exact ⟨_,rfl⟩
 ·have d:decide ((12:Int) < ((r.F.length:Nat):Int))=true:=decide_eq_true (by omega)
  exact ⟨false,by rw [qI,d,cond_true,qS]⟩
theorem qH5 (b:qd):∃ x,XL N b=some x:=by
 unfold XL Yx
 by_cases h:b.R.length≤14
 ·have d:decide ((14:Int) < ((b.R.length:Nat):Int))=false:=decide_eq_false (by omega)
  have key:WD N b 0=some (if Qk (fun k=>(Ql N (b.R.getD k zR)).getD false) b.R.length then .inr (((b.R.length:Nat):Int),false) else .inl ()):=by
   refine Xp (B:=ZL N b) (g:=some) (q:=fun k=>(Ql N (b.R.getD k zR)).getD false) (fun k hk=>?_) ?_ (by have:=big N; omega)
   ·obtain ⟨x,e⟩:=qIB (N:=N) (b.R.getD k zR)
    unfold ZL
    rw [qI,dec_lt hk,cond_true,run_bind,jM (d:=zR) hk,Option.bind_some,run_bind,e,Option.bind_some,qI,qS,zx,qm (show qz ((k:Int) + 1) by unfold qz; omega),qS,zy]
    cases x<;>rfl
   ·unfold ZL
    rw [qI,jq (Nat.lt_irrefl _),cond_false,qS]
  rw [qI,d,cond_false,run_bind,key,Option.bind_some]
  cases Qk (fun k=>(Ql N (b.R.getD k zR)).getD false) b.R.length
  ·exact ⟨_,rfl⟩
  ·exact ⟨_,rfl⟩
 ·have d:decide ((14:Int) < ((b.R.length:Nat):Int))=true:=decide_eq_true (by omega)
  exact ⟨false,by rw [qI,d,cond_true,qS]⟩
end n
theorem qtH:∀ l:List qa,∃ M:Nat,∀ k,k < l.length→(l.getD k zR).F.length≤M
 | []=>⟨0,fun k hk=>by simp at hk⟩
 | r::l=>by
  obtain ⟨M,h⟩:=qtH l
  refine ⟨r.F.length + M,fun k hk=>?_⟩
  cases k with
  | zero=>simp
  | succ k=>
   have:=h k (by simpa using hk)
   simp only [List.getD_cons_succ]; omega
theorem qJX (b:qd) (h1:b.R.length≤4611686018427387904) (h2:∀ k,k < b.R.length→(b.R.getD k zR).F.length≤4611686018427387904):∃ M:Nat,∀ N,M≤N→Qb N b:=by
 obtain ⟨M,h⟩:=qtH b.R
 refine ⟨M + b.R.length + 1,fun N hN=>⟨by omega,h1,fun k hk=>⟨by have:=h k hk; omega,h2 k hk⟩⟩⟩
end Go.Rx
end
set_option maxRecDepth 100000
noncomputable section
namespace Go.Rx
open Go.Proofs
def qsB (l:List qa) (id:Vector UInt8 16):Option Nat:=Jf (fun k=>decide ((l.getD k zR).ID=id)) l.length 0
def qvL (l:List qb) (no:Int):Option Nat:=Jf (fun k=>decide ((l.getD k zF).No=no)) l.length 0
def recAt (b:qd) (id:Vector UInt8 16):qa×Bool:=match qsB b.R id with
 | some i=>(b.R.getD i zR,true)
 | none=>(zR,false)
def cellAt (r:qa) (no:Int):qc×Bool:=match qvL r.F no with
 | some i=>((r.F.getD i zF).C,true)
 | none=>(qc.mk zSt [],false)
end Go.Rx
end
set_option maxRecDepth 100000
noncomputable section
namespace Go.Rx
open Go.Proofs
def cO (l:List qb) (no:Int):Option qc:=(l.find? fun f=>decide (f.No=no)).map fun f=>f.C
theorem qhB {no:Int}:cO [] no=none:=rfl
theorem JZ {f:qb} {l:List qb} {no:Int}:cO (f::l) no=if f.No=no then some f.C else cO l no:=by
 unfold cO
 rw [List.find?_cons]
 by_cases h:f.No=no
 ·rw [decide_eq_true h,if_pos h]; rfl
 ·rw [decide_eq_false h,if_neg h]
theorem qaP {l:List qb} {no:Int} {c:qc} (h:cO l no=some c):∃ f,f∈l∧f.No=no∧f.C=c:=by
 unfold cO at h
 obtain ⟨f,h1,h2⟩:=Option.map_eq_some_iff.1 h
 exact ⟨f,List.mem_of_find?_eq_some h1,of_decide_eq_true (List.find?_some (p:=fun f:qb=>decide (f.No=no)) h1),h2⟩
def jC:Option qc→Option qc→Option qc
 | some x,some y=>some (cJ x y)
 | some x,none=>some x
 | none,y=>y
def J4 (g:Int→Option qc) (f:qb) (no:Int):Option qc:=if f.No=no then jC (g no) (some f.C) else g no
theorem qvE {g:Int→Option qc} {f:qb} {no:Int}:J4 g f no=if f.No=no then jC (g no) (some f.C) else g no:=rfl
theorem qsM:∀ {l:List qb} {g:Int→Option qc} {no:Int},(l.map fun f=>f.No).Nodup→l.foldl J4 g no=jC (g no) (cO l no)
 | [],g,no,_=>by rw [qhB]; show g no=_; cases g no<;>rfl
 | f::l,g,no,h=>by
  rw [List.map_cons,List.nodup_cons] at h
  rw [List.foldl_cons,qsM h.2,JZ]
  unfold J4
  by_cases e:f.No=no
  ·rw [if_pos e,if_pos e]
   have:cO l no=none:=by
    cases hc:cO l no with
    | none=>rfl
    | some c=>
     obtain ⟨x,hx,hx2,_⟩:=qaP hc
     exact (h.1 (List.mem_map.2 ⟨x,hx,by rw [hx2,e]⟩)).elim
   rw [this]
   cases g no<;>rfl
  ·rw [if_neg e,if_neg e]
def WZ (no:Int) (M:List (Int×qc×Nat)):Option qc:=(fnd (β:=qc) (.i .i64) no M).map (·.1)
theorem qwo {q k:Int} {p:qc} {c:Nat} {M:List (Int×qc×Nat)}:WZ q (QI (β:=qc) (.i .i64) k p c M).2=if q=k then some p else WZ q M:=by
 have:=@qpt (El (.i .i64)) qc (Jq (.i .i64)) k q p c M
 rw [show WZ q (QI (β:=qc) (.i .i64) k p c M).2=@qo_ (El (.i .i64)) qc (Jq (.i .i64)) q (@qek (El (.i .i64)) qc (Jq (.i .i64)) k p c M).2 from rfl,this]
 by_cases h:q=k
 ·rw [if_pos h]; exact if_pos h
 ·rw [if_neg h]; exact if_neg h
def qfq (dead:qe) (k:Nat):Option qc→List qb
 | some c=>if slB dead c.S=true then [qb.mk (k:Int) c] else []
 | none=>[]
def QZ (g:Int→Option qc) (dead:qe):Nat→Nat→List qb
 | 0,_=>[]
 | m + 1,k=>qfq dead k (g (k:Int))++QZ g dead m (k + 1)
theorem qmq {g:Int→Option qc} {dead:qe}:∀ {m k:Nat} {s:List qb},Vk (fun k s=>s++qfq dead k (g (k:Int))) m k s=s++QZ g dead m k
 | 0,_,s=>by unfold Vk QZ; rw [List.append_nil]
 | m + 1,k,s=>by
  unfold Vk QZ
  rw [qmq,List.append_assoc]
theorem qtw {dead:qe} {k:Nat} {c:Option qc}:(qfq dead k c).length≤1:=by
 cases c with
 | none=>exact Nat.zero_le _
 | some c=>
  show (if slB dead c.S=true then [qb.mk (k:Int) c] else []).length≤1
  by_cases h:slB dead c.S=true
  ·rw [if_pos h]; exact Nat.le_refl _
  ·rw [if_neg h]; exact Nat.zero_le _
def rJ (a b:qa):qa:=qa.mk a.ID (mxS a.qX b.qX) (QZ (fun no=>jC (cO a.F no) (cO b.F no)) (mxS a.qX b.qX) 8 0)
theorem qwS {r:qa} (h:jr r=true):(r.F.map fun f=>f.No).Nodup:=by
 have hlt:∀ (d a:Nat),a + d + 1 < r.F.length→(r.F.getD a zF).No < (r.F.getD (a + d + 1) zF).No:=by
  intro d
  induction d with
  | zero=>
   intro a ha
   have:=(Vx.1 ((X3.1 h).2.2 (a + 0 + 1) ha)).1
   rw [if_neg (by omega),show a + 0 + 1 - 1=a by omega] at this
   exact this
  | succ d ih=>
   intro a ha
   have h1:=ih a (by omega)
   have:=(Vx.1 ((X3.1 h).2.2 (a + (d + 1) + 1) ha)).1
   rw [if_neg (by omega),show a + (d + 1) + 1 - 1=a + d + 1 by omega] at this
   omega
 rw [List.nodup_iff_pairwise_ne,List.pairwise_iff_getElem]
 intro i j hi hj hij
 rw [List.length_map] at hi hj
 have:=hlt (j - i - 1) i (by omega)
 rw [show i + (j - i - 1) + 1=j by omega,List.getD_eq_getElem?_getD,List.getD_eq_getElem?_getD,List.getElem?_eq_getElem hi,List.getElem?_eq_getElem hj] at this
 rw [List.getElem_map,List.getElem_map]
 show r.F[i].No≠r.F[j].No
 have:r.F[i].No < r.F[j].No:=this
 omega
theorem qAH {r:qa} (h:jr r=true):∀ k,k < r.F.length→K2 (r.F.getD k zF).C=true:=fun j hj=>(Vx.1 ((X3.1 h).2.2 j hj)).2.2.1
def qdC (g:Int→Option qc):Prop:=∀ no c,g no=some c→c.V.length≤200
theorem qHD (a b:qc):cJ a b=a∨cJ a b=b:=by
 unfold cJ
 split
 ·exact .inr rfl
 ·exact .inl rfl
theorem qAD {g:Int→Option qc} {f:qb} (hg:qdC g) (hf:f.C.V.length≤200):qdC (J4 g f):=by
 intro no c h
 unfold J4 at h
 split at h
 ·cases e:g no with
  | none=>rw [e] at h; obtain rfl:=Option.some.inj h; exact hf
  | some x=>
   rw [e] at h
   obtain rfl:=Option.some.inj h
   rcases qHD x f.C with h1 | h1
   ·rw [h1]; exact hg no x e
   ·rw [h1]; exact hf
 ·exact hg no c h
end Go.Rx
end
set_option maxRecDepth 100000
noncomputable section
namespace Go.Rx
open Go.Proofs
open Go.Lib (compareBytes)
theorem qlR {a b c:Vector UInt8 16} (h1:lbB a b=true) (h2:lbB b c=true):lbB a c=true:=by
 rw [qmS] at *; exact qkI h1 h2
theorem qIL (a b:Vector UInt8 16):(lbB a b=true∧lbB b a=false)∨a=b∨(lbB b a=true∧lbB a b=false):=by
 rw [qmS,qmS]
 rcases qd7 a.toList b.toList with h | h | h
 ·exact .inl h
 ·exact .inr (.inl (Vector.toList_inj.1 h))
 ·exact .inr (.inr h)
end Go.Rx
end
