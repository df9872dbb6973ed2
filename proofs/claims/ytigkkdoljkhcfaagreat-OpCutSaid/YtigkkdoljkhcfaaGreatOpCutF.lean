/- A part of the proof of OpCut: the law returns true for every input, and its arguments read as before. No condition. -/
import Derived.Test.YtigkkdoljkhcfaaGreatProg
import Derived.Laws.BitsAllLaws
import Derived.Test.YtigkkdoljkhcfaaGreatComE
set_option linter.unusedSimpArgs false
set_option linter.unusedVariables false
set_option linter.unusedSectionVars false
noncomputable section
namespace Go.Rx
theorem Jk {α R:Type} (n:α→Option R):∀ t:Tree α,t.run n=(t.run some).bind n
 | .ret a=>rfl
 | .no=>rfl
 | .cond b s t=>by
  simp only [Tree.run]
  cases b
  ·exact Jk n t
  ·exact Jk n s
 | @Tree.chk _ p d t=>by
  simp only [Tree.run,chk]
  split
  ·exact Jk n t
  ·rfl
 | .bind o k=>by
  simp only [Tree.run]
  cases o with
  | none=>rfl
  | some x=>exact Jk n (k x)
 | .opt o s k=>by
  simp only [Tree.run]
  cases o with
  | none=>exact Jk n s
  | some x=>exact Jk n (k x)
 | .sum x f g=>by
  cases x with
  | inl a=>exact Jk n (f a)
  | inr b=>exact Jk n (g b)
section r
variable {α R:Type} {n:α→Option R}
theorem qev {a:α}:(Tree.ret a).run n=n a:=rfl
theorem qbA {b:Bool} {s t:Tree α}:(Tree.cond b s t).run n=bif b then s.run n else t.run n:=rfl
theorem Jo {p:Prop} [Decidable p] {t:Tree α}:(Tree.chk p t).run n=chk p (t.run n):=rfl
theorem run_bind {β:Type} {o:Option β} {k:β→Tree α}:(Tree.bind o k).run n=o.bind fun x=>(k x).run n:=rfl
end r
theorem KX {V W Y:Type} {B:V→Tree (V⊕W)} {g:W→Option Y} {v v':V} (h:(B v).run some=some (.inl v')) (N:Nat):zG B g (N + 1) v=zG B g N v':=by
 simp only [zG]
 rw [Jk,h]; rfl
theorem Xd {V W Y:Type} {B:V→Tree (V⊕W)} {g:W→Option Y} {v:V} {x:W} (h:(B v).run some=some (.inr x)) (N:Nat):zG B g (N + 1) v=g x:=by
 simp only [zG]
 rw [Jk,h]; rfl
theorem qbl {V W Y : Type} {B : V → Tree (V ⊕ W)} {g : W → Option Y} {I : V → Prop} {Q : Y → Prop} (m : V → Nat)
    (h:∀ v,I v→(∃ v',(B v).run some=some (.inl v')∧I v'∧m v' < m v)∨∃ x y,(B v).run some=some (.inr x)∧g x=some y∧Q y) :
    ∀ (N:Nat) (v:V),I v→m v < N→∃ y,zG B g N v=some y∧Q y
 | 0,v,_,hm=>by omega
 | N + 1,v,hi,hm=>by
  rcases h v hi with ⟨v',h1,h2,h3⟩ | ⟨x,y,h1,h2,h3⟩
  ·rw [KX h1]
   exact qbl m h N v' h2 (by omega)
  ·rw [Xd h1]
   exact ⟨y,h2,h3⟩
theorem qjw {W Y : Type} {B : Int → Tree (Int ⊕ W)} {g : W → Option Y} {p : Nat → Bool} {n : Nat} {hit : Nat → W} {fin : W}
    (h1:∀ k,k < n→(B (k:Int)).run some=some (if p k then .inr (hit k) else .inl ((k + 1:Nat):Int))) (h2:(B (n:Int)).run some=some (.inr fin)) :
    ∀ (N k:Nat),k≤n→n < N + k→zG B g N (k:Int)=g (match JI p (n - k) k with | some j=>hit j | none=>fin)
 | 0,k,hk,hN=>by omega
 | N + 1,k,hk,hN=>by
  by_cases e:k=n
  ·subst e
   rw [Xd h2,Nat.sub_self]; rfl
  ·obtain ⟨m,hm⟩:∃ m,n - k=m + 1:=⟨n - k - 1,by omega⟩
   have h3:=h1 k (by omega)
   rw [hm]
   unfold JI
   cases hp:p k with
   | true=>
    rw [hp,if_pos rfl] at h3
    rw [Xd h3,if_pos rfl]
   | false=>
    rw [hp,if_neg (by simp)] at h3
    rw [KX h3,qjw h1 h2 N (k + 1) (by omega) (by omega),if_neg (by simp),show n - (k + 1)=m by omega]
def quT {σ:Type} (f:Nat→σ→σ):Nat→Nat→σ→σ
 | 0,_,s=>s
 | m + 1,k,s=>quT f m (k + 1) (f k s)
theorem WZ {σ W Y : Type} {V : Type} {B : V → Tree (V ⊕ W)} {g : W → Option Y} {at_ : Nat → σ → V} {I : Nat → σ → Prop} {f : Nat → σ → σ} {n : Nat} {fin : σ → W}
    (h1:∀ k s,k < n→I k s→(B (at_ k s)).run some=some (.inl (at_ (k + 1) (f k s)))∧I (k + 1) (f k s)) (h2:∀ s,I n s→(B (at_ n s)).run some=some (.inr (fin s))) :
    ∀ (N k:Nat) (s:σ),I k s→k≤n→n < N + k→zG B g N (at_ k s)=g (fin (quT f (n - k) k s))
 | 0,k,s,_,hk,hN=>by omega
 | N + 1,k,s,hi,hk,hN=>by
  by_cases e:k=n
  ·subst e
   rw [Xd (h2 s hi),Nat.sub_self]; rfl
  ·obtain ⟨m,hm⟩:∃ m,n - k=m + 1:=⟨n - k - 1,by omega⟩
   obtain ⟨h3,h4⟩:=h1 k s (by omega) hi
   rw [KX h3,WZ h1 h2 N (k + 1) _ h4 (by omega) (by omega),hm,show n - (k + 1)=m by omega]
   rfl
theorem qr6 {α:Type} {l:List α} {k n:Nat} {d:α} (hn:l.length=n) (h:k < l.length):Y_ l n k=some (l.getD k d):=by
 unfold Y_; rw [if_pos hn,List.getElem?_eq_getElem h]; simp [List.getD,List.getElem?_eq_getElem h]
theorem jc {α:Type} {p:Prop} [Decidable p] {x:Option α} (h:p):chk p x=x:=if_pos h
theorem qj7 {Z:Type} {a b:Nat} {ps:List (Nat×Nat)} {o:Option Z} (h:a=b):Q1 ((a,b)::ps) o=Q1 ps o:=if_pos h
end Go.Rx
end
noncomputable section
namespace Go.Rx
section
variable {α R:Type} {n:α→Option R} {y:Option R}
theorem qy {a:α} (h:n a=y):(Tree.ret a).run n=y:=h
theorem qF {p:Prop} [Decidable p] {t:Tree α} (h:p) (ht:t.run n=y):(Tree.chk p t).run n=y:=(jc h).trans ht
theorem qo {β:Type} {o:Option β} {k:β→Tree α} {x:β} (h:o=some x) (ht:(k x).run n=y):(Tree.bind o k).run n=y:=by subst h; exact ht
theorem w_t {b:Bool} {s t:Tree α} (h:b=true) (hs:s.run n=y):(Tree.cond b s t).run n=y:=by subst h; exact hs
theorem w_f {b:Bool} {s t:Tree α} (h:b=false) (ht:t.run n=y):(Tree.cond b s t).run n=y:=by subst h; exact ht
theorem w_l {β γ:Type} {z:β⊕γ} {f:β→Tree α} {g:γ→Tree α} {x:β} (h:z=.inl x) (hk:(f x).run n=y):(Tree.sum z f g).run n=y:=by subst h; exact hk
theorem w_r {β γ:Type} {z:β⊕γ} {f:β→Tree α} {g:γ→Tree α} {x:γ} (h:z=.inr x) (hk:(g x).run n=y):(Tree.sum z f g).run n=y:=by subst h; exact hk
theorem zT {b:Bool} {s t:Tree α} {c:Bool} (h:b=c) (hs:c=true→s.run n=y) (ht:c=false→t.run n=y):(Tree.cond b s t).run n=y:=by
 subst h; cases b
 ·exact ht rfl
 ·exact hs rfl
end
theorem Vn {k:Nat} (h:k≤4611686018427387904):qv ((k:Int) + 1):=by unfold qv; omega
end Go.Rx
end
noncomputable section
namespace Go.Rx
def zF:Ty:=.ag [.i .i64,.i .i64]
abbrev qi:=Int×Int
def qi.N (x:qi):Int:=x.1
def qi.Rep (x:qi):Int:=x.2
def qi.mk (x0:Int) (x1:Int):qi:=(x0,x1)
instance qi.dec:DecidableEq qi:=XG zF
def qu:Ty:=.ag [.b,.i .i64,.i .i64,.s]
abbrev qb:=Bool×Int×Int×List UInt8
def qb.JM (x:qb):Bool:=x.1
def qb.jL (x:qb):Int:=x.2.1
def qb.Len (x:qb):Int:=x.2.2.1
def qb.Lit (x:qb):List UInt8:=x.2.2.2
def qb.mk (x0:Bool) (x1:Int) (x2:Int) (x3:List UInt8):qb:=(x0,x1,x2,x3)
instance qb.dec:DecidableEq qb:=XG qu
def q_:Ty:=.ag [.i .i64,.ba 16,zF,.i .i64,.s,.sl 4 qu,.ba 16,.i .i64,.ba 32]
abbrev qa:=Int×Vector UInt8 16×qi×Int×List UInt8×List qb×Vector UInt8 16×Int×Vector UInt8 32
def qa.Kind (x:qa):Int:=x.1
def qa.ID (x:qa):Vector UInt8 16:=x.2.1
def qa.S (x:qa):qi:=x.2.2.1
def qa.No (x:qa):Int:=x.2.2.2.1
def qa.V (x:qa):List UInt8:=x.2.2.2.2.1
def qa.P (x:qa):List qb:=x.2.2.2.2.2.1
def qa.jL (x:qa):Vector UInt8 16:=x.2.2.2.2.2.2.1
def qa.je (x:qa):Int:=x.2.2.2.2.2.2.2.1
def qa.D (x:qa):Vector UInt8 32:=x.2.2.2.2.2.2.2.2
def qa.mk (x0:Int) (x1:Vector UInt8 16) (x2:qi) (x3:Int) (x4:List UInt8) (x5:List qb) (x6:Vector UInt8 16) (x7:Int) (x8:Vector UInt8 32):qa:=(x0,x1,x2,x3,x4,x5,x6,x7,x8)
instance qa.dec:DecidableEq qa:=XG q_
def zm:Ty:=.ag [.bl,.b]
abbrev qe:=List UInt8×Bool
def qe.b (x:qe):List UInt8:=x.1
def qe.bad (x:qe):Bool:=x.2
def qe.mk (x0:List UInt8) (x1:Bool):qe:=(x0,x1)
instance qe.dec:DecidableEq qe:=XG zm
end Go.Rx
end
set_option maxRecDepth 100000
noncomputable section
namespace Go.Rx
open Go.Proofs
theorem qA:Tryz.prog.follows .mixedOrders=true:=by kernel_rfl
noncomputable instance qwW:CT:=⟨ctF Tryz.prog⟩
def qmd:Ent:=qwd 128
theorem qvB:zo Tryz.prog qmd:=qvo (fn:=Tryz.f128) (by kernel_rfl) (by kernel_rfl) (by kernel_rfl) (by kernel_rfl) (by kernel_rfl)
noncomputable def qsy:Code:=Tryz.f104.body.getD .skip
theorem qeq:FnF Tryz.prog 104 Tryz.f104 qsy:=⟨qA,by kernel_rfl,by kernel_rfl,by kernel_rfl⟩
def qkW:TH:={ live:=[(0,[0]),(1,[0,4]),(2,[2]),(3,[2])],vecs:=[5],esc:=true }
def qkX (N:Nat):List Ent:=[]
theorem qgW (N:Nat):q7 Tryz.prog (qkX N):=trivial
def qcv (a0:List UInt8) (z:Unit):TV×THp:=(.v 100050 (((([]:List UInt8))++a0).length),[(100050,.vec false 1 .bl ((([]:List UInt8))++a0:List UInt8))])
def qcA (a0:List UInt8):Tree (Unit):=
 .chk (List.isEmpty a0=false) <|
 .chk (YV ((([]:List UInt8)).length) 0 (((([]:List UInt8))++a0).length) 1) <|
 .ret ()
def qoe (a0:List UInt8):Option (Unit):=(qcA a0).run some
def qkE:List (Nat×qO):=[]
theorem qgT:qeT Tryz.prog ⟨104,[],[.x .bl],[],[]⟩ [.bl] (fun x=>qcA x.1) (fun x=>qcv x.1):=
 qaS (H:=qkW) (L:=q0 (qkE)) 0 qeq (qgW 0) (qH (by kernel_rfl) trivial) (rg0 (by kernel_rfl)) fun x=>by kernel_rfl
def qhG:TH:={ live:=[(0,[0]),(1,[0,4]),(2,[2]),(3,[2])],vecs:=[5],esc:=true }
def qgR (N:Nat):List Ent:=[]
theorem qeZ (N:Nat):q7 Tryz.prog (qgR N):=trivial
def qhx (z:Unit):TV×THp:=(.v 100050 0,[(100050,.vec false 1 .bl ([]:List UInt8))])
def KV:Tree (Unit):=
 .chk (0=0) <|
 .ret ()
def qkF:Option (Unit):=(KV).run some
def qhf:List (Nat×qO):=[]
theorem qeV:qeT Tryz.prog ⟨104,[],[.k (.es 0)],[],[]⟩ [] (fun x=>KV) (fun _=>qhx):=
 qaS (H:=qhG) (L:=q0 (qhf)) 0 qeq (qeZ 0) (qH (by kernel_rfl) trivial) (rg0 (by kernel_rfl)) fun x=>by kernel_rfl
def qg7:TH:={ live:=[(0,[0]),(1,[0,4]),(2,[2]),(3,[2])],vecs:=[5],esc:=true }
def qhb (N:Nat):List Ent:=[]
theorem qeW (N:Nat):q7 Tryz.prog (qhb N):=trivial
def qhk (z:Unit):TV×THp:=(.nils,[])
def Kz:Tree (Unit):=
 .ret ()
def qkt:Option (Unit):=(Kz).run some
def qgV:List (Nat×qO):=[]
theorem qeU:qeT Tryz.prog ⟨104,[],[.k (.es 1)],[],[]⟩ [] (fun x=>Kz) (fun _=>qhk):=
 qaS (H:=qg7) (L:=q0 (qgV)) 0 qeq (qeW 0) (qH (by kernel_rfl) trivial) (rg0 (by kernel_rfl)) fun x=>by kernel_rfl
def KU (z:Unit):Unit:=()
def qgY (z:Unit):Unit:=()
def XC (a0:List UInt8):Option (Unit):=
 bif a0.isEmpty then
  (qkF).bind fun z0=>(qkt).bind fun z1=>chk (KU z0=qgY z1) (some (KU z0))
 else qoe a0
def qaT:Ent:=smF ⟨104,[],[.x .bl],[],[]⟩ [.bl] (Unit) (fun x=>XC x.1) cs1 fun x=>qcv x.1
theorem qhF:zo Tryz.prog (qaT):=qdz fun x z h l=>by
 obtain ⟨a0,_⟩:=x
 replace h:XC a0=some z:=h
 unfold XC at h
 rcases qkb h with ⟨e,h2⟩ | ⟨_,h2⟩<;>clear h
 ·have e:=List.isEmpty_iff.1 e
  subst e
  obtain ⟨z0,c0,h2⟩:=bind_some h2
  obtain ⟨z1,c1,h2⟩:=bind_some h2
  obtain ⟨hE,h2⟩:=qf2 h2
  obtain rfl:=Option.some.inj h2
  refine qj0 (t:=.bl) (x:=[]) rfl (TV.ers []) (TV.ers []) (by exact qeV (()) _ c0 l) ?_
  rw [hE]
  exact (qvG (n:=100050) (sz:=1) (x:=qm .bl ([]:List UInt8)) rfl (by kernel_rfl) (by kernel_rfl) (qeU (()) _ c1 l))
 ·exact qgT (a0,()) z h2 l
noncomputable def qq7:Code:=Tryz.f105.body.getD .skip
theorem qsG:FnF Tryz.prog 105 Tryz.f105 qq7:=⟨qA,by kernel_rfl,by kernel_rfl,by kernel_rfl⟩
def qny:TH:={ live:=[(0,[0]),(1,[0])] }
def qoo (N:Nat):List Ent:=[]
theorem qkp (N:Nat):q7 Tryz.prog (qoo N):=trivial
def qn5 (z:Unit):TV×THp:=(.tv (.wa 8) ((((((((((Vector.replicate 8 0)).setIfInBounds 0 ((UInt32.ofNat 1779033703))).setIfInBounds 1 ((UInt32.ofNat 3144134277))).setIfInBounds 2 ((UInt32.ofNat 1013904242))).setIfInBounds 3 ((UInt32.ofNat 2773480762))).setIfInBounds 4 ((UInt32.ofNat 1359893119))).setIfInBounds 5 ((UInt32.ofNat 2600822924))).setIfInBounds 6 ((UInt32.ofNat 528734635))).setIfInBounds 7 ((UInt32.ofNat 1541459225)):Vector UInt32 8),[])
def qe8:Tree (Unit):=
 .chk (0 < 8) <|
 .chk (1 < 8) <|
 .chk (2 < 8) <|
 .chk (3 < 8) <|
 .chk (4 < 8) <|
 .chk (5 < 8) <|
 .chk (6 < 8) <|
 .chk (7 < 8) <|
 .ret ()
def qj5:Option (Unit):=(qe8).run some
def qog:List (Nat×qO):=[]
def qfo:Ent:=smF ⟨105,[],[],[],[]⟩ [] (Unit) (fun x=>qj5) cs1 fun _=>qn5
theorem qmB:zo Tryz.prog (qfo):=
 zy (H:=qny) (L:=q0 (qog)) (ts:=[]) (T:=fun x=>qe8) 0 qsG (qkp 0) (qH (by kernel_rfl) trivial) (rg0 (by kernel_rfl)) fun x=>by kernel_rfl
noncomputable def qsc:Code:=Tryz.f106.body.getD .skip
theorem qrJ:FnF Tryz.prog 106 Tryz.f106 qsc:=⟨qA,by kernel_rfl,by kernel_rfl,by kernel_rfl⟩
def qon:TH:={ live:=[(0,[0]),(1,[0])] }
def qnI (N:Nat):List Ent:=[]
theorem qkA (N:Nat):q7 Tryz.prog (qnI N):=trivial
def qoi (z:Unit):TV×THp:=(.tv (.wa 64) ((((((((((((((((((((((((((((((((((((((((((((((((((((((((((((((((((Vector.replicate 64 0)).setIfInBounds 0 ((UInt32.ofNat 1116352408))).setIfInBounds 1 ((UInt32.ofNat 1899447441))).setIfInBounds 2 ((UInt32.ofNat 3049323471))).setIfInBounds 3 ((UInt32.ofNat 3921009573))).setIfInBounds 4 ((UInt32.ofNat 961987163))).setIfInBounds 5 ((UInt32.ofNat 1508970993))).setIfInBounds 6 ((UInt32.ofNat 2453635748))).setIfInBounds 7 ((UInt32.ofNat 2870763221))).setIfInBounds 8 ((UInt32.ofNat 3624381080))).setIfInBounds 9 ((UInt32.ofNat 310598401))).setIfInBounds 10 ((UInt32.ofNat 607225278))).setIfInBounds 11 ((UInt32.ofNat 1426881987))).setIfInBounds 12 ((UInt32.ofNat 1925078388))).setIfInBounds 13 ((UInt32.ofNat 2162078206))).setIfInBounds 14 ((UInt32.ofNat 2614888103))).setIfInBounds 15 ((UInt32.ofNat 3248222580))).setIfInBounds 16 ((UInt32.ofNat 3835390401))).setIfInBounds 17 ((UInt32.ofNat 4022224774))).setIfInBounds 18 ((UInt32.ofNat 264347078))).setIfInBounds 19 ((UInt32.ofNat 604807628))).setIfInBounds 20 ((UInt32.ofNat 770255983))).setIfInBounds 21 ((UInt32.ofNat 1249150122))).setIfInBounds 22 ((UInt32.ofNat 1555081692))).setIfInBounds 23 ((UInt32.ofNat 1996064986))).setIfInBounds 24 ((UInt32.ofNat 2554220882))).setIfInBounds 25 ((UInt32.ofNat 2821834349))).setIfInBounds 26 ((UInt32.ofNat 2952996808))).setIfInBounds 27 ((UInt32.ofNat 3210313671))).setIfInBounds 28 ((UInt32.ofNat 3336571891))).setIfInBounds 29 ((UInt32.ofNat 3584528711))).setIfInBounds 30 ((UInt32.ofNat 113926993))).setIfInBounds 31 ((UInt32.ofNat 338241895))).setIfInBounds 32 ((UInt32.ofNat 666307205))).setIfInBounds 33 ((UInt32.ofNat 773529912))).setIfInBounds 34 ((UInt32.ofNat 1294757372))).setIfInBounds 35 ((UInt32.ofNat 1396182291))).setIfInBounds 36 ((UInt32.ofNat 1695183700))).setIfInBounds 37 ((UInt32.ofNat 1986661051))).setIfInBounds 38 ((UInt32.ofNat 2177026350))).setIfInBounds 39 ((UInt32.ofNat 2456956037))).setIfInBounds 40 ((UInt32.ofNat 2730485921))).setIfInBounds 41 ((UInt32.ofNat 2820302411))).setIfInBounds 42 ((UInt32.ofNat 3259730800))).setIfInBounds 43 ((UInt32.ofNat 3345764771))).setIfInBounds 44 ((UInt32.ofNat 3516065817))).setIfInBounds 45 ((UInt32.ofNat 3600352804))).setIfInBounds 46 ((UInt32.ofNat 4094571909))).setIfInBounds 47 ((UInt32.ofNat 275423344))).setIfInBounds 48 ((UInt32.ofNat 430227734))).setIfInBounds 49 ((UInt32.ofNat 506948616))).setIfInBounds 50 ((UInt32.ofNat 659060556))).setIfInBounds 51 ((UInt32.ofNat 883997877))).setIfInBounds 52 ((UInt32.ofNat 958139571))).setIfInBounds 53 ((UInt32.ofNat 1322822218))).setIfInBounds 54 ((UInt32.ofNat 1537002063))).setIfInBounds 55 ((UInt32.ofNat 1747873779))).setIfInBounds 56 ((UInt32.ofNat 1955562222))).setIfInBounds 57 ((UInt32.ofNat 2024104815))).setIfInBounds 58 ((UInt32.ofNat 2227730452))).setIfInBounds 59 ((UInt32.ofNat 2361852424))).setIfInBounds 60 ((UInt32.ofNat 2428436474))).setIfInBounds 61 ((UInt32.ofNat 2756734187))).setIfInBounds 62 ((UInt32.ofNat 3204031479))).setIfInBounds 63 ((UInt32.ofNat 3329325298)):Vector UInt32 64),[])
def qfh:Tree (Unit):=
 .chk (0 < 64) <|
 .chk (1 < 64) <|
 .chk (2 < 64) <|
 .chk (3 < 64) <|
 .chk (4 < 64) <|
 .chk (5 < 64) <|
 .chk (6 < 64) <|
 .chk (7 < 64) <|
 .chk (8 < 64) <|
 .chk (9 < 64) <|
 .chk (10 < 64) <|
 .chk (11 < 64) <|
 .chk (12 < 64) <|
 .chk (13 < 64) <|
 .chk (14 < 64) <|
 .chk (15 < 64) <|
 .chk (16 < 64) <|
 .chk (17 < 64) <|
 .chk (18 < 64) <|
 .chk (19 < 64) <|
 .chk (20 < 64) <|
 .chk (21 < 64) <|
 .chk (22 < 64) <|
 .chk (23 < 64) <|
 .chk (24 < 64) <|
 .chk (25 < 64) <|
 .chk (26 < 64) <|
 .chk (27 < 64) <|
 .chk (28 < 64) <|
 .chk (29 < 64) <|
 .chk (30 < 64) <|
 .chk (31 < 64) <|
 .chk (32 < 64) <|
 .chk (33 < 64) <|
 .chk (34 < 64) <|
 .chk (35 < 64) <|
 .chk (36 < 64) <|
 .chk (37 < 64) <|
 .chk (38 < 64) <|
 .chk (39 < 64) <|
 .chk (40 < 64) <|
 .chk (41 < 64) <|
 .chk (42 < 64) <|
 .chk (43 < 64) <|
 .chk (44 < 64) <|
 .chk (45 < 64) <|
 .chk (46 < 64) <|
 .chk (47 < 64) <|
 .chk (48 < 64) <|
 .chk (49 < 64) <|
 .chk (50 < 64) <|
 .chk (51 < 64) <|
 .chk (52 < 64) <|
 .chk (53 < 64) <|
 .chk (54 < 64) <|
 .chk (55 < 64) <|
 .chk (56 < 64) <|
 .chk (57 < 64) <|
 .chk (58 < 64) <|
 .chk (59 < 64) <|
 .chk (60 < 64) <|
 .chk (61 < 64) <|
 .chk (62 < 64) <|
 .chk (63 < 64) <|
 .ret ()
def qjC:Option (Unit):=(qfh).run some
def qow:List (Nat×qO):=[]
def qfs:Ent:=smF ⟨106,[],[],[],[]⟩ [] (Unit) (fun x=>qjC) cs1 fun _=>qoi
theorem ql9:zo Tryz.prog (qfs):=
 zy (H:=qon) (L:=q0 (qow)) (ts:=[]) (T:=fun x=>qfh) 0 qrJ (qkA 0) (qH (by kernel_rfl) trivial) (rg0 (by kernel_rfl)) fun x=>by kernel_rfl
noncomputable def qrA:Code:=Tryz.f142.body.getD .skip
theorem qre:FnF Tryz.prog 142 Tryz.f142 qrA:=⟨qA,by kernel_rfl,by kernel_rfl,by kernel_rfl⟩
def YZ:TH:={ live:=[(0,[0,1]),(1,[0,5]),(2,[4])] }
def Y8 (N:Nat):List Ent:=[]
theorem W4 (N:Nat):q7 Tryz.prog (Y8 N):=trivial
def Kc (z:Int):TV×THp:=(.tv (.i .u32) z,[])
def JY (a0:Int) (a1:Int):Tree (Int):=
 .chk (0≤(V9 .u64 (IntKind.u64.wrap a1) 31)) <|
 let w1:Int:=Jr .u32 a0 (min (V9 .u64 (IntKind.u64.wrap a1) 31).toNat 32)
 let w2:Int:=qwR .u64 ((32:Int)) (V9 .u64 (IntKind.u64.wrap a1) 31)
 .chk (0≤w2) <|
 .ret (uOr .u32 w1 (Qf a0 (min w2.toNat 32)))
def VD (a0:Int) (a1:Int):Option (Int):=(JY a0 a1).run some
def YE:List (Nat×qO):=[]
def J0:Ent:=smF ⟨142,[],[.x (.i .u32),.x (.i .i64)],[],[]⟩ [(.i .u32),(.i .i64)] (Int) (fun x=>VD x.1 x.2.1) cs1 fun _=>Kc
theorem Yt:zo Tryz.prog (J0):=
 zy (H:=YZ) (L:=q0 (YE)) (ts:=[(.i .u32),(.i .i64)]) (T:=fun x=>JY x.1 x.2.1) 0 qre (W4 0) (qH (by kernel_rfl) trivial) (rg0 (by kernel_rfl)) fun x=>by kernel_rfl
noncomputable def qry:Code:=Tryz.f125.body.getD .skip
theorem qro:FnF Tryz.prog 125 Tryz.f125 qry:=⟨qA,by kernel_rfl,by kernel_rfl,by kernel_rfl⟩
def qnG:TH:={ live:=[(0,[0,1]),(1,[4])] }
def qoF (N:Nat):List Ent:=[J0]
theorem qk6 (N:Nat):q7 Tryz.prog (qoF N):=⟨Yt,trivial⟩
def qoC (z:Int):TV×THp:=(.tv (.i .u32) z,[])
def qfA (a0:Int) (a1:Int):Tree (Int):=
 .chk (qv (0 - a1)) <|
 .bind (VD a0 (0 - a1)) fun r1=>
 .ret r1
def v3 (a0:Int) (a1:Int):Option (Int):=(qfA a0 a1).run some
def qnB:List (Nat×qO):=[]
def qaC:Ent:=smF ⟨125,[],[.x (.i .u32),.x (.i .i64)],[],[]⟩ [(.i .u32),(.i .i64)] (Int) (fun x=>v3 x.1 x.2.1) cs1 fun _=>qoC
theorem qdc:zo Tryz.prog (qaC):=
 zy (H:=qnG) (L:=q0 (qnB)) (ts:=[(.i .u32),(.i .i64)]) (T:=fun x=>qfA x.1 x.2.1) 0 qro (qk6 0) (qH (by kernel_rfl) trivial) (rg0 (by kernel_rfl)) fun x=>by kernel_rfl
noncomputable def qc3:Code:=Tryz.f124.body.getD .skip
theorem qrn:FnF Tryz.prog 124 Tryz.f124 qc3:=⟨qA,by kernel_rfl,by kernel_rfl,by kernel_rfl⟩
def X5:TH:={ live:=[(0,[0,2]),(1,[0,2,3]),(2,[0,2,3,7]),(3,[0,2,3,7,8]),(4,[0,2,3,4,7]),(5,[0,2,3,4,7,11]),(6,[0,2,3,7]),(7,[0,2,3,4,5,6,7]),(8,[0,2,3,7]),(9,[0,2,3,7]),(10,[2])] }
def qaI (N:Nat):List Ent:=[qaC]
theorem YG (N:Nat):q7 Tryz.prog (qaI N):=⟨qdc,trivial⟩
abbrev Ze:=Vector UInt32 64×List UInt8
abbrev vi:=Vector UInt32 64×Int×Bool
def Qj (f:Ze) (y:vi):Ex×TSt:=(.exit 0,⟨0,86,[],[(0,.tv .bl f.2),(2,.p 20 [] 0),(3,.p 30 [] 0),(7,xi y.2.1),(8,xb y.2.2)],[(20,.cell false (.tv (.wa 64) f.1)),(30,.cell false (.tv (.wa 64) (y.1:Vector UInt32 64)))],false,[]⟩)
def qe1 (N:Nat):List (Nat×qO):=[]
abbrev Qi:=Vector UInt32 64×Int
def Yg:SP:=⟨0,86,[],[(0,.x .bl),(2,.k (.p 20 [] 0)),(3,.k (.p 30 [] 0)),(7,.x (.i .i64))],[(20,.cell false (.x (.wa 64))),(30,.cell false (.x (.wa 64)))],false,[]⟩
def qe2 (f:Ze) (v:Qi):TSt:=vw Yg [dv (.wa 64) f.1,dv (.wa 64) v.1,dv .bl f.2,dv (.i .i64) v.2]
def qe4 (N:Nat) (o_3:Vector UInt32 64) (s0_3:List UInt8) (v:Qi):Tree (Qi⊕vi):=
 .cond (decide (v.2 < ((64:Int)))) (
 .cond (decide (v.2 < ((16:Int)))) (
 .chk (qv (((4:Int)) * v.2)) <|
 .bind (zn s0_3 (((4:Int)) * v.2)) fun e1=>
 let w2:Int:=IntKind.u32.wrap ((e1.toNat:Nat):Int)
 .chk (0≤(24:Int)) <|
 .chk (qv (((4:Int)) * v.2)) <|
 .chk (qv ((((4:Int)) * v.2) + 1)) <|
 .bind (zn s0_3 ((((4:Int)) * v.2) + 1)) fun e3=>
 let w4:Int:=IntKind.u32.wrap ((e3.toNat:Nat):Int)
 .chk (0≤(16:Int)) <|
 let w5:Int:=uOr .u32 (Jr .u32 w2 24) (Jr .u32 w4 16)
 .chk (qv (((4:Int)) * v.2)) <|
 .chk (qv ((((4:Int)) * v.2) + 2)) <|
 .bind (zn s0_3 ((((4:Int)) * v.2) + 2)) fun e6=>
 let w7:Int:=IntKind.u32.wrap ((e6.toNat:Nat):Int)
 .chk (0≤(8:Int)) <|
 .chk (qv (((4:Int)) * v.2)) <|
 .chk (qv ((((4:Int)) * v.2) + 3)) <|
 .bind (zn s0_3 ((((4:Int)) * v.2) + 3)) fun e8=>
 let w9:Int:=IntKind.u32.wrap ((e8.toNat:Nat):Int)
 let w10:Int:=uOr .u32 (uOr .u32 w5 (Jr .u32 w7 8)) w9
 .chk (0≤v.2∧v.2 < ((64:Nat):Int)) <|
 .chk (inW w10) <|
 .chk (v.2.toNat < 64) <|
 .chk (qv (v.2 + 1)) <|
 .ret (.inl (v.1.setIfInBounds v.2.toNat (UInt32.ofNat w10.toNat),v.2 + 1))) <|
 .chk (qv (v.2 - 15)) <|
 .chk (0≤(v.2 - 15)∧(v.2 - 15) < ((64:Nat):Int)) <|
 .chk ((v.2 - 15).toNat < 64) <|
 .chk (qv (v.2 - 2)) <|
 .chk (0≤(v.2 - 2)∧(v.2 - 2) < ((64:Nat):Int)) <|
 .chk ((v.2 - 2).toNat < 64) <|
 .chk (qv (v.2 - 16)) <|
 .chk (0≤(v.2 - 16)∧(v.2 - 16) < ((64:Nat):Int)) <|
 .chk ((v.2 - 16).toNat < 64) <|
 .chk (qv (v.2 - 7)) <|
 .chk (0≤(v.2 - 7)∧(v.2 - 7) < ((64:Nat):Int)) <|
 .chk ((v.2 - 7).toNat < 64) <|
 let w1:Int:=Vx .u32 (((v.1.toList.getD ((v.2 - 16).toNat) 0).toNat:Nat):Int) (((v.1.toList.getD ((v.2 - 7).toNat) 0).toNat:Nat):Int)
 .bind (v3 (((v.1.toList.getD ((v.2 - 15).toNat) 0).toNat:Nat):Int) 7) fun r2=>
 .bind (v3 (((v.1.toList.getD ((v.2 - 15).toNat) 0).toNat:Nat):Int) 18) fun r3=>
 .chk (0≤(3:Int)) <|
 let w4:Int:=Qf (((v.1.toList.getD ((v.2 - 15).toNat) 0).toNat:Nat):Int) 3
 let w5:Int:=Vx .u32 w1 (W3 .u32 (W3 .u32 r2 r3) w4)
 .bind (v3 (((v.1.toList.getD ((v.2 - 2).toNat) 0).toNat:Nat):Int) 17) fun r6=>
 .bind (v3 (((v.1.toList.getD ((v.2 - 2).toNat) 0).toNat:Nat):Int) 19) fun r7=>
 .chk (0≤(10:Int)) <|
 let w8:Int:=Qf (((v.1.toList.getD ((v.2 - 2).toNat) 0).toNat:Nat):Int) 10
 let w9:Int:=Vx .u32 w5 (W3 .u32 (W3 .u32 r6 r7) w8)
 .chk (0≤v.2∧v.2 < ((64:Nat):Int)) <|
 .chk (inW w9) <|
 .chk (v.2.toNat < 64) <|
 .chk (qv (v.2 + 1)) <|
 .ret (.inl (v.1.setIfInBounds v.2.toNat (UInt32.ofNat w9.toNat),v.2 + 1))) <|
 .ret (.inr (v.1,v.2,decide (v.2 < ((64:Int)))))
def Ye (N n:Nat) (f:Ze) (v:Qi):Option vi:=zG (qe4 N f.1 f.2) some n v
theorem qe3 (N:Nat) (f:Ze) (n:Nat) (v:Qi) (y:vi) (h:Ye N n f v=some y):LG Tryz.prog X5 124 (zi qc3 3) (qe2 f v) (Qj f y):=
 jP qA (E:=qaI N) (L:=q0 (qe1 N)) (st:=Qj f) (g:=some) (R:=Qj f) (YG N) (qH (by kernel_rfl) trivial) (rg0 (by kernel_rfl)) (fun v=>by kernel_rfl) (zE (st:=Qj f) fun y=>by rfl) n v y h
def KR (N:Nat) (o_3:Vector UInt32 64) (s0_3:List UInt8) (o_3_2:Vector UInt32 64) (s7_3:Int):Option vi:=Ye N N (o_3,s0_3) (o_3_2,s7_3)
def Yd (N:Nat):qO:=smL Yg [(.wa 64),(.wa 64),.bl,(.i .i64)] vi (fun x=>KR N x.1 x.2.2.1 x.2.1 x.2.2.2.1) cs1 fun x=>Qj (x.1,x.2.2.1)
theorem qen (N:Nat):Q_ Tryz.prog X5 124 (zi qc3 3) (Yd N):=vC fun x z h=>qe3 N (x.1,x.2.2.1) N (x.2.1,x.2.2.2.1) z h
def qiL (z:Vector UInt32 64):TV×THp:=(.tv (.wa 64) z,[])
def qa9 (N:Nat) (a0:List UInt8):Tree (Vector UInt32 64):=
 .bind (KR N ((Vector.replicate 64 0)) a0 ((Vector.replicate 64 0)) 0) fun z1=>
 .ret z1.1
def qc_ (N:Nat) (a0:List UInt8):Option (Vector UInt32 64):=(qa9 N a0).run some
def qir (N:Nat):List (Nat×qO):=[(3,Yd N)]
def qaR (N:Nat):Ent:=smF ⟨124,[],[.x .bl],[],[]⟩ [.bl] (Vector UInt32 64) (fun x=>qc_ N x.1) cs1 fun _=>qiL
theorem qhq (N:Nat):zo Tryz.prog (qaR N):=
 zy (H:=X5) (L:=q0 (qir N)) (ts:=[.bl]) (T:=fun x=>qa9 N x.1) 0 qrn (YG N) (qH (by kernel_rfl) ⟨qen N,trivial⟩) (rg0 (by kernel_rfl)) fun x=>by kernel_rfl
noncomputable def WK:Code:=Tryz.f107.body.getD .skip
theorem qra:FnF Tryz.prog 107 Tryz.f107 WK:=⟨qA,by kernel_rfl,by kernel_rfl,by kernel_rfl⟩
def QE:TH:={ live:=[(0,[0,2,6]),(1,[0,2,6,7]),(2,[0,2,6,7,19]),(3,[0,2,6,7,19,20]),(4,[0,2,6,7,8,19]),(5,[0,2,6,7,8,9,10,19]),(6,[0,2,6,7,9,11,19]),(7,[0,2,6,7,11,12,19]),(8,[0,2,6,7,11,12,19]),(9,[0,2,6,7,11,19]),(10,[0,2,6,7,19]),(11,[0,2,6,7,19]),(12,[0,7,95]),(13,[0,7,95,96]),(14,[0,7,13,95]),(15,[0,7,95]),(16,[0,7,95])] }
def V7 (N:Nat):List Ent:=[qaR N,qaC]
theorem JN (N:Nat):q7 Tryz.prog (V7 N):=⟨qhq N,qdc,trivial⟩
abbrev QI:=Vector UInt32 8×Vector UInt32 64×Vector UInt32 64
abbrev jA:=Vector UInt32 8×Int×Bool
def vF (f:QI) (y:jA):Ex×TSt:=(.exit 0,⟨1,110,[50,60],[(0,.p 50 [] 0),(2,.p 60 [] 0),(6,.p 100060 [] 0),(7,.p 100070 [] 0),(19,xi y.2.1),(20,xb y.2.2)],[(50,.cell false (.tv (.wa 8) f.1)),(60,.cell false (.tv (.wa 64) f.2.1)),(100060,.cell false (.tv (.wa 64) f.2.2)),(100070,.cell false (.tv (.wa 8) (y.1:Vector UInt32 8)))],false,[]⟩)
def qcQ (N:Nat):List (Nat×qO):=[]
abbrev vE:=Vector UInt32 8×Int
def X3:SP:=⟨1,110,[50,60],[(0,.k (.p 50 [] 0)),(2,.k (.p 60 [] 0)),(6,.k (.p 100060 [] 0)),(7,.k (.p 100070 [] 0)),(19,.x (.i .i64))],[(50,.cell false (.x (.wa 8))),(60,.cell false (.x (.wa 64))),(100060,.cell false (.x (.wa 64))),(100070,.cell false (.x (.wa 8)))],false,[]⟩
def qcP (f:QI) (v:vE):TSt:=vw X3 [dv (.wa 8) f.1,dv (.wa 64) f.2.1,dv (.wa 64) f.2.2,dv (.wa 8) v.1,dv (.i .i64) v.2]
def qcR (N:Nat) (o_3:Vector UInt32 8) (o_3_2:Vector UInt32 64) (o_3_3:Vector UInt32 64) (v:vE):Tree (vE⊕jA):=
 .cond (decide (v.2 < ((64:Int)))) (
 .chk (0≤(0:Int)∧(0:Int) < ((8:Nat):Int)) <|
 .chk (0 < 8) <|
 .chk (0≤(4:Int)∧(4:Int) < ((8:Nat):Int)) <|
 .chk (4 < 8) <|
 .chk (0≤(7:Int)∧(7:Int) < ((8:Nat):Int)) <|
 .chk (7 < 8) <|
 .bind (v3 (((v.1.toList.getD 4 0).toNat:Nat):Int) 6) fun r1=>
 .bind (v3 (((v.1.toList.getD 4 0).toNat:Nat):Int) 11) fun r2=>
 .bind (v3 (((v.1.toList.getD 4 0).toNat:Nat):Int) 25) fun r3=>
 let w4:Int:=Vx .u32 (((v.1.toList.getD 7 0).toNat:Nat):Int) (W3 .u32 (W3 .u32 r1 r2) r3)
 .chk (0≤(5:Int)∧(5:Int) < ((8:Nat):Int)) <|
 .chk (5 < 8) <|
 let w5:Int:=V9 .u32 (((v.1.toList.getD 4 0).toNat:Nat):Int) (((v.1.toList.getD 5 0).toNat:Nat):Int)
 let w6:Int:=W3 .u32 (4294967295) (((v.1.toList.getD 4 0).toNat:Nat):Int)
 .chk (0≤(6:Int)∧(6:Int) < ((8:Nat):Int)) <|
 .chk (6 < 8) <|
 let w7:Int:=V9 .u32 w6 (((v.1.toList.getD 6 0).toNat:Nat):Int)
 .chk (0≤v.2∧v.2 < ((64:Nat):Int)) <|
 .chk (v.2.toNat < 64) <|
 let w8:Int:=Vx .u32 (Vx .u32 w4 (W3 .u32 w5 w7)) (((o_3_2.toList.getD v.2.toNat 0).toNat:Nat):Int)
 .chk (0≤v.2∧v.2 < ((64:Nat):Int)) <|
 .chk (v.2.toNat < 64) <|
 let w9:Int:=Vx .u32 w8 (((o_3_3.toList.getD v.2.toNat 0).toNat:Nat):Int)
 .bind (v3 (((v.1.toList.getD 0 0).toNat:Nat):Int) 2) fun r10=>
 .bind (v3 (((v.1.toList.getD 0 0).toNat:Nat):Int) 13) fun r11=>
 .bind (v3 (((v.1.toList.getD 0 0).toNat:Nat):Int) 22) fun r12=>
 .chk (0≤(1:Int)∧(1:Int) < ((8:Nat):Int)) <|
 .chk (1 < 8) <|
 let w13:Int:=V9 .u32 (((v.1.toList.getD 0 0).toNat:Nat):Int) (((v.1.toList.getD 1 0).toNat:Nat):Int)
 .chk (0≤(2:Int)∧(2:Int) < ((8:Nat):Int)) <|
 .chk (2 < 8) <|
 let w14:Int:=V9 .u32 (((v.1.toList.getD 0 0).toNat:Nat):Int) (((v.1.toList.getD 2 0).toNat:Nat):Int)
 .chk (0≤(1:Int)∧(1:Int) < ((8:Nat):Int)) <|
 .chk (1 < 8) <|
 .chk (0≤(2:Int)∧(2:Int) < ((8:Nat):Int)) <|
 .chk (2 < 8) <|
 let w15:Int:=V9 .u32 (((v.1.toList.getD 1 0).toNat:Nat):Int) (((v.1.toList.getD 2 0).toNat:Nat):Int)
 let w16:Int:=Vx .u32 (W3 .u32 (W3 .u32 r10 r11) r12) (W3 .u32 (W3 .u32 w13 w14) w15)
 .chk (0≤(0:Int)∧(0:Int) < ((8:Nat):Int)) <|
 .chk (inW (Vx .u32 w9 w16)) <|
 .chk (0 < 8) <|
 .chk (0≤(4:Int)∧(4:Int) < ((8:Nat):Int)) <|
 .chk (4 < 8) <|
 let w17:Int:=Vx .u32 (((((VA v.1 1 7).setIfInBounds 0 (UInt32.ofNat (Vx .u32 w9 w16).toNat)).toList.getD 4 0).toNat:Nat):Int) w9
 .chk (0≤(4:Int)∧(4:Int) < ((8:Nat):Int)) <|
 .chk (inW w17) <|
 .chk (4 < 8) <|
 .chk (qv (v.2 + 1)) <|
 .ret (.inl (((VA v.1 1 7).setIfInBounds 0 (UInt32.ofNat (Vx .u32 w9 w16).toNat)).setIfInBounds 4 (UInt32.ofNat w17.toNat),v.2 + 1))) <|
 .ret (.inr (v.1,v.2,decide (v.2 < ((64:Int)))))
def X2 (N n:Nat) (f:QI) (v:vE):Option jA:=zG (qcR N f.1 f.2.1 f.2.2) some n v
theorem qcN (N:Nat) (f:QI) (n:Nat) (v:vE) (y:jA) (h:X2 N n f v=some y):LG Tryz.prog QE 107 (zi WK 3) (qcP f v) (vF f y):=
 jP qA (E:=V7 N) (L:=q0 (qcQ N)) (st:=vF f) (g:=some) (R:=vF f) (JN N) (qH (by kernel_rfl) trivial) (rg0 (by kernel_rfl)) (fun v=>by kernel_rfl) (zE (st:=vF f) fun y=>by rfl) n v y h
def Yf (N:Nat) (o_3:Vector UInt32 8) (o_3_2:Vector UInt32 64) (o_3_3:Vector UInt32 64) (o_3_4:Vector UInt32 8) (s19_3:Int):Option jA:=X2 N N (o_3,o_3_2,o_3_3) (o_3_4,s19_3)
def X4 (N:Nat):qO:=smL X3 [(.wa 8),(.wa 64),(.wa 64),(.wa 8),(.i .i64)] jA (fun x=>Yf N x.1 x.2.1 x.2.2.1 x.2.2.2.1 x.2.2.2.2.1) cs1 fun x=>vF (x.1,x.2.1,x.2.2.1)
theorem qbJ (N:Nat):Q_ Tryz.prog QE 107 (zi WK 3) (X4 N):=vC fun x z h=>qcN N (x.1,x.2.1,x.2.2.1) N (x.2.2.2.1,x.2.2.2.2.1) z h
abbrev Qn:=Vector UInt32 64×Vector UInt32 8
abbrev jo:=Vector UInt32 8×Int×Bool
def vd (f:Qn) (y:jo):Ex×TSt:=(.exit 2,⟨1,110,[50,60],[(0,.p 50 [] 0),(7,.p 100070 [] 0),(95,xi y.2.1),(96,xb y.2.2)],[(50,.cell false (.tv (.wa 8) (y.1:Vector UInt32 8))),(60,.cell false (.tv (.wa 64) f.1)),(100070,.cell false (.tv (.wa 8) f.2))],false,[]⟩)
def qcb (N:Nat):List (Nat×qO):=[]
abbrev vb:=Vector UInt32 8×Int
def XE:SP:=⟨1,110,[50,60],[(0,.k (.p 50 [] 0)),(7,.k (.p 100070 [] 0)),(95,.x (.i .i64))],[(50,.cell false (.x (.wa 8))),(60,.cell false (.x (.wa 64))),(100070,.cell false (.x (.wa 8)))],false,[]⟩
def qbq (f:Qn) (v:vb):TSt:=vw XE [dv (.wa 8) v.1,dv (.wa 64) f.1,dv (.wa 8) f.2,dv (.i .i64) v.2]
def qbv (N:Nat) (o_13_2:Vector UInt32 64) (o_13_3:Vector UInt32 8) (v:vb):Tree (vb⊕jo):=
 .cond (decide (v.2 < ((8:Int)))) (
 .chk (0≤v.2∧v.2 < ((8:Nat):Int)) <|
 .chk (v.2.toNat < 8) <|
 .chk (0≤v.2∧v.2 < ((8:Nat):Int)) <|
 .chk (v.2.toNat < 8) <|
 let w1:Int:=Vx .u32 (((v.1.toList.getD v.2.toNat 0).toNat:Nat):Int) (((o_13_3.toList.getD v.2.toNat 0).toNat:Nat):Int)
 .chk (0≤v.2∧v.2 < ((8:Nat):Int)) <|
 .chk (inW w1) <|
 .chk (v.2.toNat < 8) <|
 .chk (qv (v.2 + 1)) <|
 .ret (.inl (v.1.setIfInBounds v.2.toNat (UInt32.ofNat w1.toNat),v.2 + 1))) <|
 .ret (.inr (v.1,v.2,decide (v.2 < ((8:Int)))))
def XJ (N n:Nat) (f:Qn) (v:vb):Option jo:=zG (qbv N f.1 f.2) some n v
theorem qch (N:Nat) (f:Qn) (n:Nat) (v:vb) (y:jo) (h:XJ N n f v=some y):LG Tryz.prog QE 107 (zi WK 13) (qbq f v) (vd f y):=
 jP qA (E:=V7 N) (L:=q0 (qcb N)) (st:=vd f) (g:=some) (R:=vd f) (JN N) (qH (by kernel_rfl) trivial) (rg0 (by kernel_rfl)) (fun v=>by kernel_rfl) (zE (st:=vd f) fun y=>by rfl) n v y h
def WD (N:Nat) (o_13_2:Vector UInt32 64) (o_13_3:Vector UInt32 8) (o_13:Vector UInt32 8) (s95_13:Int):Option jo:=XJ N N (o_13_2,o_13_3) (o_13,s95_13)
def XM (N:Nat):qO:=smL XE [(.wa 8),(.wa 64),(.wa 8),(.i .i64)] jo (fun x=>WD N x.2.1 x.2.2.1 x.1 x.2.2.2.1) cs1 fun x=>vd (x.2.1,x.2.2.1)
theorem qa6 (N:Nat):Q_ Tryz.prog QE 107 (zi WK 13) (XM N):=vC fun x z h=>qch N (x.2.1,x.2.2.1) N (x.1,x.2.2.2.1) z h
def qgC (a1:Vector UInt32 64) (z:Vector UInt32 8):TV×THp:=(.tup [],[(50,.cell false (.tv (.wa 8) z)),(60,.cell false (.tv (.wa 64) a1))])
def Kq (N:Nat) (a0:Vector UInt32 8) (a1:Vector UInt32 64) (a2:List UInt8):Tree (Vector UInt32 8):=
 .bind (qc_ N a2) fun r1=>
 .bind (Yf N a0 a1 r1 a0 0) fun z2=>
 .bind (WD N a1 z2.1 a0 0) fun z3=>
 .ret z3.1
def Wf (N:Nat) (a0:Vector UInt32 8) (a1:Vector UInt32 64) (a2:List UInt8):Option (Vector UInt32 8):=(Kq N a0 a1 a2).run some
def qgx (N:Nat):List (Nat×qO):=[(3,X4 N),(13,XM N)]
def YF (N:Nat):Ent:=smF ⟨107,[],[.k (.p 50 [] 0),.x .bl,.k (.p 60 [] 0)],[],[(50,.cell false (.x (.wa 8))),(60,.cell false (.x (.wa 64)))]⟩ [(.wa 8),(.wa 64),.bl] (Vector UInt32 8) (fun x=>Wf N x.1 x.2.1 x.2.2.1) cs1 fun x=>qgC x.2.1
theorem qeY (N:Nat):zo Tryz.prog (YF N):=
 zy (H:=QE) (L:=q0 (qgx N)) (ts:=[(.wa 8),(.wa 64),.bl]) (T:=fun x=>Kq N x.1 x.2.1 x.2.2.1) 0 qra (JN N) (qH (by kernel_rfl) ⟨qbJ N,qa6 N,trivial⟩) (rg0 (by kernel_rfl)) fun x=>by kernel_rfl
noncomputable def Q6:Code:=Tryz.f78.body.getD .skip
theorem qs5:FnF Tryz.prog 78 Tryz.f78 Q6:=⟨qA,by kernel_rfl,by kernel_rfl,by kernel_rfl⟩
def Qr:TH:={ live:=[(0,[0,2]),(1,[0,2,3]),(2,[0,2,3,16]),(3,[0,2,3]),(4,[0,2,3,20]),(5,[0,2,3,20,21]),(6,[0,2,3,4,20]),(7,[0,2,3,20]),(8,[0,2,3,20]),(9,[2,3,5,6]),(10,[2,3,5,6,40]),(11,[2,3,5,6]),(12,[2,3,5,6]),(13,[2,5,7]),(14,[2,5,7,46]),(15,[2,5,7,46,47]),(16,[2,5,7,8,46]),(17,[2,5,7,46]),(18,[2,5,7,46]),(19,[2])],fresh:=[10] }
def Xh (N:Nat):List Ent:=[qaT,qfo,qfs,YF N]
theorem Ji (N:Nat):q7 Tryz.prog (Xh N):=⟨qhF,qmB,ql9,qeY N,trivial⟩
abbrev XN:=Vector UInt8 32×List UInt8
abbrev Zs:=List UInt8×Bool
def J3 (f:XN) (y:Zs):Ex×TSt:=(.exit 0,⟨0,63,[],[(0,.tv .bl f.2),(2,.p 20 [] 0),(3,.v 100050 y.1.length),(16,xb y.2)],[(20,.cell false (.tv (.ba 32) f.1)),(100050,.vec false 1 .bl (y.1:List UInt8))],false,[]⟩)
def ql4 (N:Nat):List (Nat×qO):=[]
abbrev JE:=List UInt8
def qel:SP:=⟨0,63,[],[(0,.x .bl),(2,.k (.p 20 [] 0)),(3,.vs 100050)],[(20,.cell false (.x (.ba 32))),(100050,.vec false 1)],false,[]⟩
def qmn (f:XN) (v:JE):TSt:=vw qel [dv .bl v,dv (.ba 32) f.1,dv .bl f.2]
def qln (N:Nat) (o_2_2:Vector UInt8 32) (s0_2:List UInt8) (v:JE):Tree (JE⊕Zs):=
 .chk ((64:Int)≠0) <|
 .cond (!decide ((((v.length:Nat):Int).tmod 64)=56)) (
 .chk (YV v.length v.length ((v++[(UInt8.ofNat 0)]).length) 1) <|
 .ret (.inl (v++[(UInt8.ofNat 0)]))) <|
 .ret (.inr (v,!decide ((((v.length:Nat):Int).tmod 64)=56)))
def qdp (N n:Nat) (f:XN) (v:JE):Option Zs:=zG (qln N f.1 f.2) some n v
theorem qns (N:Nat) (f:XN) (n:Nat) (v:JE) (y:Zs) (h:qdp N n f v=some y):LG Tryz.prog Qr 78 (zi Q6 2) (qmn f v) (J3 f y):=
 jP qA (E:=Xh N) (L:=q0 (ql4 N)) (st:=J3 f) (g:=some) (R:=J3 f) (Ji N) (qH (by kernel_rfl) trivial) (rg0 (by kernel_rfl)) (fun v=>by kernel_rfl) (zE (st:=J3 f) fun y=>by rfl) n v y h
def qif (N:Nat) (o_2_2:Vector UInt8 32) (s0_2:List UInt8) (o_2:List UInt8):Option Zs:=qdp N N (o_2_2,s0_2) o_2
def qek (N:Nat):qO:=smL qel [.bl,(.ba 32),.bl] Zs (fun x=>qif N x.2.1 x.2.2.1 x.1) cs1 fun x=>J3 (x.2.1,x.2.2.1)
theorem qkY (N:Nat):Q_ Tryz.prog Qr 78 (zi Q6 2) (qek N):=vC fun x z h=>qns N (x.2.1,x.2.2.1) N x.1 z h
abbrev Xw:=Vector UInt8 32×List UInt8
abbrev ZC:=List UInt8×Int×Bool
def JF (f:Xw) (y:ZC):Ex×TSt:=(.exit 2,⟨0,63,[],[(0,.tv .bl f.2),(2,.p 20 [] 0),(3,.v 100050 y.1.length),(20,xi y.2.1),(21,xb y.2.2)],[(20,.cell false (.tv (.ba 32) f.1)),(100050,.vec false 1 .bl (y.1:List UInt8))],false,[]⟩)
def qlC (N:Nat):List (Nat×qO):=[]
abbrev JB:=List UInt8×Int
def qcY:SP:=⟨0,63,[],[(0,.x .bl),(2,.k (.p 20 [] 0)),(3,.vs 100050),(20,.x (.i .i64))],[(20,.cell false (.x (.ba 32))),(100050,.vec false 1)],false,[]⟩
def qmq (f:Xw) (v:JB):TSt:=vw qcY [dv .bl v.1,dv (.ba 32) f.1,dv .bl f.2,dv (.i .i64) v.2]
def qnb (N:Nat) (o_5_2:Vector UInt8 32) (s0_5:List UInt8) (v:JB):Tree (JB⊕ZC):=
 .cond (decide (v.2 < ((8:Int)))) (
 let w1:Int:=IntKind.u64.wrap ((s0_5.length:Nat):Int)
 .chk (qv (((7:Int)) - v.2)) <|
 .chk (qv (((8:Int)) * (((7:Int)) - v.2))) <|
 .chk (0≤(((8:Int)) * (((7:Int)) - v.2))) <|
 let w2:Int:=Qf (qwJ .u64 w1 8) (min (((8:Int)) * (((7:Int)) - v.2)).toNat 64)
 .chk (inB (IntKind.u8.wrap w2)) <|
 .chk (YV v.1.length v.1.length ((v.1++[UInt8.ofNat (IntKind.u8.wrap w2).toNat]).length) 1) <|
 .chk (qv (v.2 + 1)) <|
 .ret (.inl (v.1++[UInt8.ofNat (IntKind.u8.wrap w2).toNat],v.2 + 1))) <|
 .ret (.inr (v.1,v.2,decide (v.2 < ((8:Int)))))
def qdy (N n:Nat) (f:Xw) (v:JB):Option ZC:=zG (qnb N f.1 f.2) some n v
theorem qm2 (N:Nat) (f:Xw) (n:Nat) (v:JB) (y:ZC) (h:qdy N n f v=some y):LG Tryz.prog Qr 78 (zi Q6 5) (qmq f v) (JF f y):=
 jP qA (E:=Xh N) (L:=q0 (qlC N)) (st:=JF f) (g:=some) (R:=JF f) (Ji N) (qH (by kernel_rfl) trivial) (rg0 (by kernel_rfl)) (fun v=>by kernel_rfl) (zE (st:=JF f) fun y=>by rfl) n v y h
def qg5 (N:Nat) (o_5_2:Vector UInt8 32) (s0_5:List UInt8) (o_5:List UInt8) (s20_5:Int):Option ZC:=qdy N N (o_5_2,s0_5) (o_5,s20_5)
def qdT (N:Nat):qO:=smL qcY [.bl,(.ba 32),.bl,(.i .i64)] ZC (fun x=>qg5 N x.2.1 x.2.2.1 x.1 x.2.2.2.1) cs1 fun x=>JF (x.2.1,x.2.2.1)
theorem qk1 (N:Nat):Q_ Tryz.prog Qr 78 (zi Q6 5) (qdT N):=vC fun x z h=>qm2 N (x.2.1,x.2.2.1) N (x.1,x.2.2.2.1) z h
abbrev jH:=List UInt8×Vector UInt8 32×Vector UInt32 8×Vector UInt32 64
abbrev jn:=Unit⊕(Vector UInt32 8×List UInt8×Bool)
def jG (f:jH):jn→Ex×TSt
 | .inl y=>(.exit 4,⟨0,63,[],[(2,.p 20 [] 0),(3,.v 100050 f.1.length),(5,.p 50 [] 0),(6,.p 60 [] 0),(40,xb (decide (((0:Int)) < ((f.1.length:Nat):Int))))],[(20,.cell false (.tv (.ba 32) f.2.1)),(50,.cell false (.tv (.wa 8) f.2.2.1)),(60,.cell false (.tv (.wa 64) f.2.2.2)),(100050,.vec false 1 .bl f.1)],false,[]⟩)
 | .inr y=>(.exit 4,⟨0,63,[],[(2,.p 20 [] 0),(3,.tv .bl (y.2.1:List UInt8)),(5,.p 50 [] 0),(6,.p 60 [] 0),(40,xb y.2.2)],[(20,.cell false (.tv (.ba 32) f.2.1)),(50,.cell false (.tv (.wa 8) (y.1:Vector UInt32 8))),(60,.cell false (.tv (.wa 64) f.2.2.2))],false,[]⟩)
def qcL (N:Nat):List (Nat×qO):=[]
abbrev vJ:=Vector UInt32 8×List UInt8
def qfM:SP:=⟨0,63,[],[(2,.k (.p 20 [] 0)),(3,.x .bl),(5,.k (.p 50 [] 0)),(6,.k (.p 60 [] 0))],[(20,.cell false (.x (.ba 32))),(50,.cell false (.x (.wa 8))),(60,.cell false (.x (.wa 64)))],false,[]⟩
def Kn (f:jH) (v:vJ):TSt:=vw qfM [dv (.ba 32) f.2.1,dv (.wa 8) v.1,dv (.wa 64) f.2.2.2,dv .bl v.2]
def qfH (N:Nat) (o_10:List UInt8) (o_10_2:Vector UInt8 32) (o_10_3:Vector UInt32 8) (o_10_4:Vector UInt32 64) (v:vJ):Tree (vJ⊕jn):=
 .cond (decide (((0:Int)) < ((v.2.length:Nat):Int))) (
 .chk (0≤(0:Int)∧(0:Int)≤(64:Int)∧(64:Int)≤((v.2.length:Nat):Int)) <|
 .bind (Wf N v.1 o_10_4 ((v.2.take 64).drop 0)) fun r1=>
 .chk (0≤(64:Int)∧(64:Int)≤((v.2.length:Nat):Int)) <|
 .ret (.inl (r1,v.2.drop 64))) <|
 .ret (.inr (.inr ((v.1,v.2,decide (((0:Int)) < ((v.2.length:Nat):Int))))))
def YK (N n:Nat) (f:jH) (v:vJ):Option jn:=zG (qfH N f.1 f.2.1 f.2.2.1 f.2.2.2) some n v
theorem qfG (N:Nat) (f:jH) (n:Nat) (v:vJ) (y:jn) (h:YK N n f v=some y):LG Tryz.prog Qr 78 (zi Q6 10) (Kn f v) (jG f y):=
 jP qA (E:=Xh N) (L:=q0 (qcL N)) (st:=jG f) (g:=some) (R:=jG f) (Ji N) (qH (by kernel_rfl) trivial) (rg0 (by kernel_rfl)) (fun v=>by kernel_rfl) (zE (st:=jG f) fun y=>by rcases y with _ | _<;>rfl) n v y h
abbrev Z9:=Unit
def qcI:SP:=⟨0,63,[],[(2,.k (.p 20 [] 0)),(3,.vs 100050),(5,.k (.p 50 [] 0)),(6,.k (.p 60 [] 0))],[(20,.cell false (.x (.ba 32))),(50,.cell false (.x (.wa 8))),(60,.cell false (.x (.wa 64))),(100050,.vec false 1)],false,[]⟩
def qkZ (f:jH) (v:Z9):TSt:=vw qcI [dv .bl f.1,dv (.ba 32) f.2.1,dv (.wa 8) f.2.2.1,dv (.wa 64) f.2.2.2]
abbrev W2:=vJ⊕jn
def qkq (N:Nat) (o_10:List UInt8) (o_10_2:Vector UInt8 32) (o_10_3:Vector UInt32 8) (o_10_4:Vector UInt32 64) (v:Z9):Tree (Z9⊕W2):=
 .cond (decide (((0:Int)) < ((o_10.length:Nat):Int))) (
 .chk (0≤(0:Int)∧(0:Int)≤(64:Int)∧(64:Int)≤((o_10.length:Nat):Int)) <|
 .chk (o_10.length=o_10.length) <|
 .bind (Wf N o_10_3 o_10_4 ((o_10.take 64).drop 0)) fun r1=>
 .chk (0≤(64:Int)∧(64:Int)≤((o_10.length:Nat):Int)) <|
 .chk (o_10.length=o_10.length) <|
 .ret (.inr (.inl (r1,o_10.drop 64)))) <|
 .ret (.inr (.inr ((.inl ()))))
def qcx (N n:Nat) (f:jH):W2→Option jn
 | .inl w=>YK N n f w
 | .inr w=>some w
def qkN (f:jH):W2→Ex×TSt
 | .inl w=>(.normal,Kn f w)
 | .inr w=>jG f w
def qco (N n:Nat) (f:jH) (v:Z9):Option jn:=zG (qkq N f.1 f.2.1 f.2.2.1 f.2.2.2) (qcx N n f) n v
theorem qku (N:Nat) (f:jH) (n:Nat) (v:Z9) (y:jn) (h:qco N n f v=some y):LG Tryz.prog Qr 78 (zi Q6 10) (qkZ f v) (jG f y):=
 jP qA (E:=Xh N) (L:=q0 (qcL N)) (st:=qkN f) (g:=(qcx N n f)) (R:=jG f) (Ji N) (qH (by kernel_rfl) trivial) (rg0 (by kernel_rfl)) (fun v=>by kernel_rfl) (fun w y h=>by
 rcases w with w | w
 ·exact qfG N f n w y h
 ·exact zE (st:=jG f) (fun y=>by rcases y with _ | _<;>rfl) w y h
) n v y h
def qe6 (N:Nat) (o_10:List UInt8) (o_10_2:Vector UInt8 32) (o_10_3:Vector UInt32 8) (o_10_4:Vector UInt32 64):Option jn:=qco N N (o_10,o_10_2,o_10_3,o_10_4) ()
def qcy (N:Nat):qO:=smL qcI [.bl,(.ba 32),(.wa 8),(.wa 64)] jn (fun x=>qe6 N x.1 x.2.1 x.2.2.1 x.2.2.2.1) (csS cs1) fun x=>jG (x.1,x.2.1,x.2.2.1,x.2.2.2.1)
theorem qi_ (N:Nat):Q_ Tryz.prog Qr 78 (zi Q6 10) (qcy N):=vC fun x z h=>qku N (x.1,x.2.1,x.2.2.1,x.2.2.2.1) N () z h
abbrev VR:=Vector UInt8 32×Vector UInt32 8
abbrev QM:=Vector UInt8 32×Int×Bool
def Z8 (f:VR) (y:QM):Ex×TSt:=(.exit 6,⟨0,63,[],[(2,.p 20 [] 0),(5,.p 50 [] 0),(7,.p 70 [] 0),(46,xi y.2.1),(47,xb y.2.2)],[(20,.cell false (.tv (.ba 32) f.1)),(50,.cell false (.tv (.wa 8) f.2)),(70,.cell false (.tv (.ba 32) (y.1:Vector UInt8 32)))],false,[]⟩)
def qkC (N:Nat):List (Nat×qO):=[]
abbrev Jh:=Vector UInt8 32×Int
def qcj:SP:=⟨0,63,[],[(2,.k (.p 20 [] 0)),(5,.k (.p 50 [] 0)),(7,.k (.p 70 [] 0)),(46,.x (.i .i64))],[(20,.cell false (.x (.ba 32))),(50,.cell false (.x (.wa 8))),(70,.cell false (.x (.ba 32)))],false,[]⟩
def qkn (f:VR) (v:Jh):TSt:=vw qcj [dv (.ba 32) f.1,dv (.wa 8) f.2,dv (.ba 32) v.1,dv (.i .i64) v.2]
def qkI (N:Nat) (o_15:Vector UInt8 32) (o_15_2:Vector UInt32 8) (v:Jh):Tree (Jh⊕QM):=
 .cond (decide (v.2 < ((32:Int)))) (
 .chk ((4:Int)≠0) <|
 .chk (qv (v.2.tdiv 4)) <|
 .chk (0≤(v.2.tdiv 4)∧(v.2.tdiv 4) < ((8:Nat):Int)) <|
 .chk ((v.2.tdiv 4).toNat < 8) <|
 .chk ((4:Int)≠0) <|
 .chk (qv (((8:Int)) * (v.2.tmod 4))) <|
 .chk (qv (((24:Int)) - (((8:Int)) * (v.2.tmod 4)))) <|
 .chk (0≤(((24:Int)) - (((8:Int)) * (v.2.tmod 4)))) <|
 let w1:Int:=Qf (((o_15_2.toList.getD ((v.2.tdiv 4).toNat) 0).toNat:Nat):Int) (min (((24:Int)) - (((8:Int)) * (v.2.tmod 4))).toNat 32)
 .chk (0≤v.2∧v.2 < ((32:Nat):Int)) <|
 .chk (inB (IntKind.u8.wrap w1)) <|
 .chk (v.2.toNat < 32) <|
 .chk (qv (v.2 + 1)) <|
 .ret (.inl (v.1.setIfInBounds v.2.toNat (UInt8.ofNat (IntKind.u8.wrap w1).toNat),v.2 + 1))) <|
 .ret (.inr (v.1,v.2,decide (v.2 < ((32:Int)))))
def qcr (N n:Nat) (f:VR) (v:Jh):Option QM:=zG (qkI N f.1 f.2) some n v
theorem qkV (N:Nat) (f:VR) (n:Nat) (v:Jh) (y:QM) (h:qcr N n f v=some y):LG Tryz.prog Qr 78 (zi Q6 15) (qkn f v) (Z8 f y):=
 jP qA (E:=Xh N) (L:=q0 (qkC N)) (st:=Z8 f) (g:=some) (R:=Z8 f) (Ji N) (qH (by kernel_rfl) trivial) (rg0 (by kernel_rfl)) (fun v=>by kernel_rfl) (zE (st:=Z8 f) fun y=>by rfl) n v y h
def qax (N:Nat) (o_15:Vector UInt8 32) (o_15_2:Vector UInt32 8) (o_15_3:Vector UInt8 32) (s46_15:Int):Option QM:=qcr N N (o_15,o_15_2) (o_15_3,s46_15)
def qcw (N:Nat):qO:=smL qcj [(.ba 32),(.wa 8),(.ba 32),(.i .i64)] QM (fun x=>qax N x.1 x.2.1 x.2.2.1 x.2.2.2.1) cs1 fun x=>Z8 (x.1,x.2.1)
theorem qiX (N:Nat):Q_ Tryz.prog Qr 78 (zi Q6 15) (qcw N):=vC fun x z h=>qkV N (x.1,x.2.1) N (x.2.2.1,x.2.2.2.1) z h
def qcZ (z:Vector UInt8 32):TV×THp:=(.tv (.ba 32) z,[])
def qjJ (N:Nat) (a0:List UInt8):Tree (Vector UInt8 32):=
 .bind (XC a0) fun r1=>
 .chk (YV (((([]:List UInt8))++a0).length) (((([]:List UInt8))++a0).length) ((((([]:List UInt8))++a0)++[(UInt8.ofNat 128)]).length) 1) <|
 .bind (Q1 [((((([]:List UInt8))++a0)++[(UInt8.ofNat 128)]).length,(((([]:List UInt8))++a0)++[(UInt8.ofNat 128)]).length)] (qif N ((Vector.replicate 32 0)) a0 (((([]:List UInt8))++a0)++[(UInt8.ofNat 128)]))) fun z2=>
 .bind (Q1 [(z2.1.length,z2.1.length)] (qg5 N ((Vector.replicate 32 0)) a0 z2.1 0)) fun z3=>
 .bind (qj5) fun r4=>
 .bind (qjC) fun r5=>
 .bind (Q1 [(z3.1.length,z3.1.length)] (qe6 N z3.1 ((Vector.replicate 32 0)) ((((((((((Vector.replicate 8 0)).setIfInBounds 0 ((UInt32.ofNat 1779033703))).setIfInBounds 1 ((UInt32.ofNat 3144134277))).setIfInBounds 2 ((UInt32.ofNat 1013904242))).setIfInBounds 3 ((UInt32.ofNat 2773480762))).setIfInBounds 4 ((UInt32.ofNat 1359893119))).setIfInBounds 5 ((UInt32.ofNat 2600822924))).setIfInBounds 6 ((UInt32.ofNat 528734635))).setIfInBounds 7 ((UInt32.ofNat 1541459225))) ((((((((((((((((((((((((((((((((((((((((((((((((((((((((((((((((((Vector.replicate 64 0)).setIfInBounds 0 ((UInt32.ofNat 1116352408))).setIfInBounds 1 ((UInt32.ofNat 1899447441))).setIfInBounds 2 ((UInt32.ofNat 3049323471))).setIfInBounds 3 ((UInt32.ofNat 3921009573))).setIfInBounds 4 ((UInt32.ofNat 961987163))).setIfInBounds 5 ((UInt32.ofNat 1508970993))).setIfInBounds 6 ((UInt32.ofNat 2453635748))).setIfInBounds 7 ((UInt32.ofNat 2870763221))).setIfInBounds 8 ((UInt32.ofNat 3624381080))).setIfInBounds 9 ((UInt32.ofNat 310598401))).setIfInBounds 10 ((UInt32.ofNat 607225278))).setIfInBounds 11 ((UInt32.ofNat 1426881987))).setIfInBounds 12 ((UInt32.ofNat 1925078388))).setIfInBounds 13 ((UInt32.ofNat 2162078206))).setIfInBounds 14 ((UInt32.ofNat 2614888103))).setIfInBounds 15 ((UInt32.ofNat 3248222580))).setIfInBounds 16 ((UInt32.ofNat 3835390401))).setIfInBounds 17 ((UInt32.ofNat 4022224774))).setIfInBounds 18 ((UInt32.ofNat 264347078))).setIfInBounds 19 ((UInt32.ofNat 604807628))).setIfInBounds 20 ((UInt32.ofNat 770255983))).setIfInBounds 21 ((UInt32.ofNat 1249150122))).setIfInBounds 22 ((UInt32.ofNat 1555081692))).setIfInBounds 23 ((UInt32.ofNat 1996064986))).setIfInBounds 24 ((UInt32.ofNat 2554220882))).setIfInBounds 25 ((UInt32.ofNat 2821834349))).setIfInBounds 26 ((UInt32.ofNat 2952996808))).setIfInBounds 27 ((UInt32.ofNat 3210313671))).setIfInBounds 28 ((UInt32.ofNat 3336571891))).setIfInBounds 29 ((UInt32.ofNat 3584528711))).setIfInBounds 30 ((UInt32.ofNat 113926993))).setIfInBounds 31 ((UInt32.ofNat 338241895))).setIfInBounds 32 ((UInt32.ofNat 666307205))).setIfInBounds 33 ((UInt32.ofNat 773529912))).setIfInBounds 34 ((UInt32.ofNat 1294757372))).setIfInBounds 35 ((UInt32.ofNat 1396182291))).setIfInBounds 36 ((UInt32.ofNat 1695183700))).setIfInBounds 37 ((UInt32.ofNat 1986661051))).setIfInBounds 38 ((UInt32.ofNat 2177026350))).setIfInBounds 39 ((UInt32.ofNat 2456956037))).setIfInBounds 40 ((UInt32.ofNat 2730485921))).setIfInBounds 41 ((UInt32.ofNat 2820302411))).setIfInBounds 42 ((UInt32.ofNat 3259730800))).setIfInBounds 43 ((UInt32.ofNat 3345764771))).setIfInBounds 44 ((UInt32.ofNat 3516065817))).setIfInBounds 45 ((UInt32.ofNat 3600352804))).setIfInBounds 46 ((UInt32.ofNat 4094571909))).setIfInBounds 47 ((UInt32.ofNat 275423344))).setIfInBounds 48 ((UInt32.ofNat 430227734))).setIfInBounds 49 ((UInt32.ofNat 506948616))).setIfInBounds 50 ((UInt32.ofNat 659060556))).setIfInBounds 51 ((UInt32.ofNat 883997877))).setIfInBounds 52 ((UInt32.ofNat 958139571))).setIfInBounds 53 ((UInt32.ofNat 1322822218))).setIfInBounds 54 ((UInt32.ofNat 1537002063))).setIfInBounds 55 ((UInt32.ofNat 1747873779))).setIfInBounds 56 ((UInt32.ofNat 1955562222))).setIfInBounds 57 ((UInt32.ofNat 2024104815))).setIfInBounds 58 ((UInt32.ofNat 2227730452))).setIfInBounds 59 ((UInt32.ofNat 2361852424))).setIfInBounds 60 ((UInt32.ofNat 2428436474))).setIfInBounds 61 ((UInt32.ofNat 2756734187))).setIfInBounds 62 ((UInt32.ofNat 3204031479))).setIfInBounds 63 ((UInt32.ofNat 3329325298))))) fun z6=>
 .sum z6 (fun z7=>
 .bind (qax N ((Vector.replicate 32 0)) ((((((((((Vector.replicate 8 0)).setIfInBounds 0 ((UInt32.ofNat 1779033703))).setIfInBounds 1 ((UInt32.ofNat 3144134277))).setIfInBounds 2 ((UInt32.ofNat 1013904242))).setIfInBounds 3 ((UInt32.ofNat 2773480762))).setIfInBounds 4 ((UInt32.ofNat 1359893119))).setIfInBounds 5 ((UInt32.ofNat 2600822924))).setIfInBounds 6 ((UInt32.ofNat 528734635))).setIfInBounds 7 ((UInt32.ofNat 1541459225))) ((Vector.replicate 32 0)) 0) fun z8=>
 .ret z8.1) fun z7=>
 .bind (qax N ((Vector.replicate 32 0)) z7.1 ((Vector.replicate 32 0)) 0) fun z8=>
 .ret z8.1
def qi5 (N:Nat) (a0:List UInt8):Option (Vector UInt8 32):=(qjJ N a0).run some
def qrg (N:Nat):List (Nat×qO):=[(2,qek N),(5,qdT N),(10,qcy N),(15,qcw N)]
def qq6 (N:Nat):Ent:=smF ⟨78,[],[.x .bl],[],[]⟩ [.bl] (Vector UInt8 32) (fun x=>qi5 N x.1) cs1 fun _=>qcZ
theorem qnM (N:Nat):qeT Tryz.prog ⟨78,[],[.x .bl],[],[]⟩ [.bl] (fun x=>qjJ N x.1) (fun _=>qcZ):=
 qaS (H:=Qr) (L:=q0 (qrg N)) 0 qs5 (Ji N) (qH (by kernel_rfl) ⟨qkY N,qk1 N,qi_ N,qiX N,trivial⟩) (rg0 (by kernel_rfl)) fun x=>by kernel_rfl
theorem qp6 (N:Nat):zo Tryz.prog (qq6 N):=qdz (qnM N)
end Go.Rx
end
set_option maxRecDepth 100000
noncomputable section
namespace Go.Rx
open Go.Proofs
def dg0:Vector UInt8 32:=#v[227,176,196,66,152,252,28,20,154,251,244,200,153,111,185,36,39,174,65,228,100,155,147,76,164,149,153,27,120,82,184,85]
theorem qwz:qi5 300 []=some dg0:=by kernel_rfl
def qwt:List (List UInt8×Vector UInt8 32):=[([],dg0)]
theorem qvf:qpL (qi5 300) qwt:=⟨qwz,trivial⟩
def qlj:Ent:=smF ⟨78,[],[.x .bl],[],[]⟩ [.bl] (Vector UInt8 32) (fun x=>qmX qwt x.1) cs1 fun _=>qcZ
theorem qvw:zo Tryz.prog qlj:=qwr (qp6 300) fun x z h=>qoT qvf x.1 z h
end Go.Rx
end
set_option maxRecDepth 100000
noncomputable section
namespace Go.Rx
open Go.Proofs
def qvK:List (Nat×TH):=[(11,{ live:=[(1,[1]),(2,[1,2,3]),(3,[1,2,3,4,5,6]),(4,[1,2,3,4,5,6,7,8]),(5,[1,2,3,4,5,6,7,8,9]),(6,[1,2,3,4,5,6,7,8,9,10,11]),(7,[0])],dec:=[44,49,52,56,61,65,71,75,81,85],rd:=[(1,[1]),(3,[4]),(4,[7]),(5,[9]),(6,[10])] }),
 (13,{ live:=[(0,[1]),(1,[1,12]),(2,[2,3]),(3,[1,4]),(4,[1,6]),(5,[1,6,7]),(6,[1,6,7,32]),(7,[1,6,7,32,33]),(8,[6]),(9,[1,6,7,32,43]),(10,[6]),(11,[1,6,7,58]),(12,[1,6,7,8]),(13,[6]),(14,[2,3])],rd:=[(0,[1])] }),
 (15,{ live:=[(0,[0,2]),(1,[0,2,5]),(2,[0,2,5,6]),(3,[0,2,5,6,7,8,9]),(4,[0,2,5,6,7]),(5,[0,2,5,6]),(6,[0,2,5,6,41]),(7,[0,2,5,6]),(8,[0,2,5,6,46]),(9,[0,2,5,6,46,47]),(10,[0,2,5,6,10,11,12]),(11,[0,2,5,6,10]),(12,[0,2,5,6]),(13,[0,2,5,6,46,64]),(14,[0,2,5,6]),(15,[0,2,5,6,75]),(16,[0,2,5,6,13,14,15]),(17,[0,2,5,6,13]),(18,[0,2,5,6]),(19,[0,2,5,6,103]),(20,[2,3,4]),(21,[2,3,4])],dec:=[99],rd:=[(3,[7])] }),
 (19,{ live:=[(0,[1]),(1,[1,23]),(2,[2]),(3,[2])],dec:=[6,11,18,27,32,37,43] }),
 (20,{ live:=[(0,[2,3]),(1,[2,3,5]),(2,[4])],dec:=[11,18,25,33,40,47,54,61] }),
 (21,{ live:=[(0,[1]),(1,[3]),(2,[2])] }),
 (24,{ live:=[(0,[2,3,4]),(1,[2,3,4,17]),(2,[4,5]),(3,[2,3,4,6]),(4,[2,3,4,7]),(5,[2,3,4,7,25]),(6,[4,5]),(7,[2,3,4,8,9]),(8,[2,3,4,8,9,44]),(9,[4,5]),(10,[4,5])],dec:=[13,21],rd:=[(3,[6])] }),
 (27,{ live:=[(0,[2,3,4]),(1,[2,4,6]),(2,[2,4,6,12]),(3,[4,5]),(4,[4,5])] }),
 (28,{ live:=[(0,[2,3,4]),(1,[2,4,6]),(2,[2,4,6,12]),(3,[4,5]),(4,[4,5])] }),
 (29,{ live:=[(0,[0,2]),(1,[2])] }),
 (30,{ live:=[(0,[1]),(1,[1,6,7,8]),(2,[1,6,7,8,9]),(3,[1,3,4,6,7,8]),(4,[1,6,7,8,32]),(5,[2]),(6,[1,6,7,8]),(7,[2])],dec:=[16,19],rd:=[(3,[4])] }),
 (33,{ live:=[(0,[1]),(1,[1,6]),(2,[2,3]),(3,[2,3])],fresh:=[15],esc:=true }),
 (34,{ live:=[(0,[0]),(1,[0,3]),(2,[0,3,9,10,11]),(3,[0,3,9,10,11,12]),(4,[0,3,5,9,10,11]),(5,[0,3,9,10,11]),(6,[0,3,9,10,11,20]),(7,[0,3,9,10,11]),(8,[0,3,9,10,11]),(9,[0,6]),(10,[6,25,26,27]),(11,[6,25,26,27,28]),(12,[6,8,25,26,27]),(13,[6,25,26,27]),(14,[6,25,26,27]),(15,[2])],raw:=[85],fresh:=[24] }),
 (35,{ live:=[(0,[0]),(1,[2])],fresh:=[6],esc:=true }),
 (36,{ live:=[(0,[0]),(1,[0,9]),(2,[2,3]),(3,[0,4]),(4,[4,14,15,16]),(5,[4,14,15,16,17]),(6,[4,6,14,15,16]),(7,[4,6,14,15,16,21]),(8,[4,14,15,16]),(9,[4,14,15,16]),(10,[4,14,15,16]),(11,[2,3])],rd:=[(6,[6])] }),
 (42,{ live:=[(0,[0]),(1,[2])] }),
 (43,{ live:=[(0,[0,2]),(1,[2])] }),
 (44,{ live:=[(0,[0,2]),(1,[2,5,6,7]),(2,[2,6,7,8]),(3,[2,6,8,28]),(4,[2,3,4]),(5,[2,3,4])],dec:=[24],rd:=[(2,[8])] }),
 (45,{ live:=[(0,[0,1,2]),(1,[0,1]),(2,[0,1,31]),(3,[6]),(4,[0,1,7]),(5,[7]),(6,[6])],dec:=[13,17] }),
 (46,{ live:=[(0,[0,1]),(1,[0,1,7,8,9]),(2,[1,7,8,9,10]),(3,[7,8,10,33]),(4,[4,5,6]),(5,[4,5,6])],dec:=[21,25] }),
 (47,{ live:=[(0,[0,2]),(1,[2])] }),
 (48,{ live:=[(0,[0]),(1,[0,5,6,7]),(2,[0,5,6,23]),(3,[2,3,4]),(4,[0,5,6,8]),(5,[0,6,8,24,25]),(6,[0,6,8,24,25,26]),(7,[0,6,8,9,10,11,24,25]),(8,[0,6,8,9,10,24,25,36]),(9,[2,3,4]),(10,[0,6,8,10,24,25]),(11,[0,6,8,24,25]),(12,[0,6,8,24,25]),(13,[6,8,47]),(14,[2,3,4]),(15,[2,3,4])],dec:=[20],rd:=[(7,[9])] }),
 (59,{ live:=[(0,[1,2]),(1,[1,2,3]),(2,[1,2,3,12]),(3,[1,2,3,12,13]),(4,[2,3]),(5,[1,2,3,12,21]),(6,[2,3]),(7,[1,2,3,35]),(8,[2,3]),(9,[2])] }),
 (60,{ live:=[(0,[1]),(1,[2])],dec:=[6,10,15,20] }),
 (61,{ live:=[(0,[0]),(1,[2])],dec:=[5] }),
 (62,{ live:=[(0,[0]),(1,[0,3]),(2,[0,3,6,7,8]),(3,[0,3,6,7,8,9]),(4,[0,3,5,6,7,8]),(5,[0,3,5,6,7,8,14]),(6,[2]),(7,[0,3,6,7,8]),(8,[0,3,6,7,8]),(9,[2])],dec:=[27],rd:=[(4,[5])] }),
 (63,{ live:=[(0,[0,1]),(1,[4])] }),
 (65,{ live:=[(0,[1]),(1,[2,3])] }),
 (66,{ live:=[(0,[1]),(1,[2,3])] }),
 (67,{ live:=[(0,[1]),(1,[1,4,5]),(2,[1,4,5,20]),(3,[2,3]),(4,[1,6,7]),(5,[1,6,31]),(6,[2,3]),(7,[2,3])] }),
 (68,{ live:=[(0,[2,3,4]),(1,[2,3,4,6]),(2,[2,3,4,6,39]),(3,[4,5]),(4,[2,4,47,48,49]),(5,[2,4,47,48,49,50]),(6,[2,4,8,47,48,49]),(7,[2,4,8,47,48,49,54]),(8,[2,4,9,10,47,48,49]),(9,[2,4,9,10,47,48,49,64]),(10,[4,5]),(11,[2,4,47,48,49]),(12,[2,4,47,48,49]),(13,[4,5])],dec:=[19,23,29,34],rd:=[(1,[6]),(6,[8]),(8,[9])] }),
 (73,{ live:=[(0,[0,1]),(1,[0,1,7,8]),(2,[0,1,7,8,9]),(3,[0,1,5,7,8]),(4,[0,1,5,7,8,16]),(5,[4]),(6,[0,1,7,8]),(7,[4])] }),
 (74,{ live:=[(0,[1,2]),(1,[3])] }),
 (75,{ live:=[(0,[1,2]),(1,[1,2]),(2,[2])] }),
 (76,{ live:=[(0,[0,1]),(1,[0,1,7,8]),(2,[0,1,7,8,9]),(3,[0,1,5,7,8]),(4,[0,1,5,7,8,16]),(5,[4]),(6,[0,1,7,8]),(7,[4])] }),
 (77,{ live:=[(0,[1,2]),(1,[3])] }),
 (78,{ live:=[(0,[0,2]),(1,[0,2,3]),(2,[0,2,3,16]),(3,[0,2,3]),(4,[0,2,3,20]),(5,[0,2,3,20,21]),(6,[0,2,3,4,20]),(7,[0,2,3,20]),(8,[0,2,3,20]),(9,[2,3,5,6]),(10,[2,3,5,6,40]),(11,[2,3,5,6]),(12,[2,3,5,6]),(13,[2,5,7]),(14,[2,5,7,46]),(15,[2,5,7,46,47]),(16,[2,5,7,8,46]),(17,[2,5,7,46]),(18,[2,5,7,46]),(19,[2])],fresh:=[10] }),
 (79,{ live:=[(0,[1]),(1,[1,21]),(2,[2]),(3,[1,23,24,25]),(4,[1,23,24,25,26]),(5,[1,3,4,23,24,25]),(6,[1,4,5,23,24,25]),(7,[1,23,24,25,74]),(8,[2]),(9,[1,23,24,25]),(10,[2])],dec:=[10,15,32,37,40,55,60,66],rd:=[(5,[4])] }),
 (80,{ live:=[(0,[2,3]),(1,[4])],dec:=[8] }),
 (83,{ live:=[(0,[2,3,4]),(1,[2,3,4,22]),(2,[4,5]),(3,[2,3,4,6]),(4,[2,3,4,6,7]),(5,[4,6,7,30,31,32]),(6,[4,6,7,30,31,32,33]),(7,[4,6,7,9,30,31,32]),(8,[4,6,7,9,10,11,30,31,32]),(9,[4,6,7,9,10,30,31,32,44]),(10,[4,6,7,9,30,31,32]),(11,[4,6,7,30,31,32]),(12,[4,6,7,30,31,32]),(13,[4,6,7,30,31,32]),(14,[4,6,7,67]),(15,[4,5]),(16,[4,6,7]),(17,[4,6,7,12]),(18,[4,6,12,71,72,73]),(19,[4,6,12,71,72,73,74]),(20,[4,6,12,14,71,72,73]),(21,[4,6,12,71,72,73]),(22,[4,6,12,71,72,73]),(23,[4,5])],dec:=[18],rd:=[(7,[9]),(8,[10]),(20,[14])] }),
 (84,{ live:=[(0,[0]),(1,[0,3]),(2,[0,3,4]),(3,[0,3,4,10,11]),(4,[0,3,4,10,11,12]),(5,[0,3,4,5,10,11]),(6,[0,3,4,10,11]),(7,[0,3,4,10,11]),(8,[4]),(9,[2])],esc:=true }),
 (85,{ live:=[(0,[0,1]),(1,[0,1,6]),(2,[0,1]),(3,[0,1]),(4,[0,1,16]),(5,[0]),(6,[4])],esc:=true,nil:=[(5,[⟨.sl 0,900000850,.bl⟩])] }),
 (87,{ live:=[(0,[0]),(1,[0,5]),(2,[0,5,6]),(3,[5,6,9,10,11]),(4,[5,6,9,10,11,12]),(5,[5,6,7,8,9,10,11]),(6,[5,6,7,8,9,10,11,16]),(7,[5,6,7,8,9,10,11,16]),(8,[5,6,7,8,9,10,11,16]),(9,[5,6,7,8,9,10,11]),(10,[5,6,7,9,10,11,39]),(11,[5,6]),(12,[5,6,9,10,11]),(13,[5,6,44]),(14,[2,3,4]),(15,[2,3,4])],dec:=[21,28] }),
 (88,{ live:=[(0,[0,2]),(1,[0,2,5]),(2,[0,2,5,15]),(3,[2,3,4]),(4,[0,2,5,26]),(5,[2,6,7,8]),(6,[2,3,4]),(7,[0,2,5,9,10,11]),(8,[2,5,9,10,11,12,13,14]),(9,[2,5,9,10,12,13,72]),(10,[2,3,4]),(11,[2,3,4])],dec:=[19,61,65,69] }),
 (90,{ live:=[(0,[1]),(1,[1,4]),(2,[2]),(3,[2])],dec:=[8,13,23] }),
 (91,{ live:=[(0,[0,1]),(1,[0,1,10]),(2,[4]),(3,[0,1,12,13]),(4,[0,1,12,13,14]),(5,[0,1,5,12,13]),(6,[0,1,12,13,24]),(7,[4]),(8,[0,1,12,13]),(9,[4])] }),
 (92,{ live:=[(0,[1,2,3]),(1,[1,2,17]),(2,[6,7]),(3,[6,7])],dec:=[10] }),
 (93,{ live:=[(0,[2,3,4]),(1,[2,8]),(2,[10,11]),(3,[10,26]),(4,[6,7]),(5,[6,7])],rd:=[(1,[8]),(2,[10])] }),
 (94,{ live:=[(0,[0,1]),(1,[0,1,11]),(2,[4,5]),(3,[0,1,6]),(4,[0,6,12,13,14]),(5,[0,6,12,13,14,15]),(6,[0,6,8,12,13,14]),(7,[0,6,8,12,13,14,29]),(8,[4,5]),(9,[0,6,8,12,13,14]),(10,[0,6,8,12,13,14,34]),(11,[0,6,12,13,14]),(12,[0,6,12,13,14]),(13,[4,5])],dec:=[20],rd:=[(6,[8])] }),
 (95,{ live:=[(0,[1]),(1,[2])],dec:=[7] }),
 (103,{ live:=[(0,[0]),(1,[0,4]),(2,[2]),(3,[2])],vecs:=[5],esc:=true }),
 (104,{ live:=[(0,[0]),(1,[0,4]),(2,[2]),(3,[2])],vecs:=[5],esc:=true }),
 (105,{ live:=[(0,[0]),(1,[0])] }),
 (106,{ live:=[(0,[0]),(1,[0])] }),
 (107,{ live:=[(0,[0,2,6]),(1,[0,2,6,7]),(2,[0,2,6,7,19]),(3,[0,2,6,7,19,20]),(4,[0,2,6,7,8,19]),(5,[0,2,6,7,8,9,10,19]),(6,[0,2,6,7,9,11,19]),(7,[0,2,6,7,11,12,19]),(8,[0,2,6,7,11,12,19]),(9,[0,2,6,7,11,19]),(10,[0,2,6,7,19]),(11,[0,2,6,7,19]),(12,[0,7,95]),(13,[0,7,95,96]),(14,[0,7,13,95]),(15,[0,7,95]),(16,[0,7,95])],rd:=[(0,[6])] }),
 (108,{ live:=[(0,[1]),(1,[2])],dec:=[7,12] }),
 (109,{ live:=[(0,[2,3]),(1,[4])],dec:=[8] }),
 (110,{ live:=[(0,[0,1]),(1,[4])] }),
 (112,{ live:=[(0,[0]),(1,[0,3]),(2,[0,3,9,10,11]),(3,[0,3,9,10,11,12]),(4,[0,3,5,9,10,11]),(5,[0,3,9,10,11]),(6,[0,3,9,10,11,20]),(7,[0,3,9,10,11]),(8,[0,3,9,10,11]),(9,[0,6]),(10,[6,25,26,27]),(11,[6,25,26,27,28]),(12,[6,8,25,26,27]),(13,[6,25,26,27]),(14,[6,25,26,27]),(15,[2])],raw:=[129],fresh:=[24] }),
 (113,{ live:=[(0,[2,3,4]),(1,[2,3,4,23]),(2,[4,5]),(3,[2,3,4,6]),(4,[2,3,4,6]),(5,[2,3,4,6]),(6,[4,6,7]),(7,[4,7,43]),(8,[7,8]),(10,[4,5])],dec:=[12,17],fresh:=[43],rd:=[(8,[8])] }),
 (114,{ live:=[(0,[0,1,4])] }),
 (115,{ live:=[(0,[2,3]),(1,[4])] }),
 (116,{ live:=[(0,[0]),(1,[0,3]),(2,[0,3]),(3,[0,3,7]),(4,[0,3]),(5,[0,3]),(6,[2])] }),
 (117,{ live:=[(0,[0,1,2]),(1,[6])],dec:=[10] }),
 (118,{ live:=[(0,[0,1]),(1,[0,1]),(2,[1]),(3,[4,5])] }),
 (119,{ live:=[(0,[0]),(1,[2])] }),
 (124,{ live:=[(0,[0,2]),(1,[0,2,3]),(2,[0,2,3,7]),(3,[0,2,3,7,8]),(4,[0,2,3,4,7]),(5,[0,2,3,4,7,11]),(6,[0,2,3,7]),(7,[0,2,3,4,5,6,7]),(8,[0,2,3,7]),(9,[0,2,3,7]),(10,[2])] }),
 (125,{ live:=[(0,[0,1]),(1,[4])] }),
 (126,{ live:=[(0,[0]),(1,[0,3]),(2,[3,6,7,8]),(3,[3,6,7,8,9]),(4,[3,5,6,7,8]),(5,[3,5,6,7,8,14]),(6,[2]),(7,[3,6,7,8]),(8,[2])] }),
 (127,{ live:=[(0,[0,1]),(1,[0,1,5]),(2,[0,1,5,6]),(3,[0,1,6,11]),(4,[12]),(5,[4]),(6,[4]),(7,[0,1,13]),(8,[4]),(9,[0,1,16]),(10,[4]),(11,[19]),(12,[4]),(13,[4])] }),
 (129,{ live:=[(0,[0,1]),(1,[0,1,6]),(2,[0,1]),(3,[0,1]),(4,[0,1,16]),(5,[0]),(6,[4])],esc:=true,nil:=[(5,[⟨.sl 0,900001290,(.sl 19 (.ag [(.ba 16),(.ag [(.i .i64),(.i .i64)]),(.sl 4 (.ag [(.i .i64),(.ag [(.ag [(.i .i64),(.i .i64)]),.s])]))]))⟩])] }),
 (130,{ live:=[(0,[0,3]),(1,[0,9,10,11]),(2,[0,9,10,11,12]),(3,[0,5,9,10,11]),(4,[0,5,6,7,9,10,11]),(5,[0,5,6,9,10,11,22]),(6,[0,9,10,11]),(7,[0,9,10,11]),(8,[0,9,10,11])],rd:=[(3,[5]),(4,[6])] }),
 (131,{ live:=[(0,[2,3,4]),(1,[2,3,4,7]),(2,[4]),(3,[4])] }),
 (132,{ live:=[(0,[2,3]),(1,[4])],esc:=true }),
 (133,{ live:=[(0,[0,1,2,3,4,10]),(1,[0,1,2,3,4,10,11]),(2,[0,1,2,3,4,10,11,12]),(3,[0,1,2,3,4,10,11,12,25]),(5,[0,1,2,3,4,10,11,12,32]),(7,[0,1,2,3,4,10,11,12,39]),(8,[0,1,2,3,4,10,11,12]),(9,[0,1,2,3,4,10,11,12]),(10,[0,1,2,3,4,10,11,12,13,14]),(11,[0,1,2,3,4,10,11,12,13,14,56]),(12,[0,1,2,3,4,10,11,12,13]),(13,[0,1,2,3,4,10,11,12,13]),(14,[0,1,2,3,4,10,11,12,13,14]),(15,[0,1,2,3,4,10,11,12,13,75]),(16,[0,1,2,3,4,10,11,12,13,80]),(17,[0,1,2,3,4,10,11,12,13,97]),(18,[0,2,3,4,10,11,15]),(19,[0,1,2,3,4,10,11]),(20,[0,1,2,3,4,12,16,17]),(21,[0,1,2,3,4,11,12,16]),(22,[0,1,2,3,4,11,12,16,18,19]),(23,[0,1,2,3,4,11,16,18,19,20]),(24,[0,1,2,3,4,11,16,18,19,20,125]),(25,[0,1,2,3,4,10,11,16]),(26,[0,2,3,4,10,11,16]),(27,[0,1,2,3,4,10,11]),(28,[0,1,2,3,4,10,11,16]),(29,[0,1,3,4,10,11,16]),(30,[0,1,2,3,4,10,11])],dec:=[69,72,83] }),
 (134,{ live:=[(0,[0]),(1,[2]),(2,[2])] }),
 (135,{ live:=[(0,[0,6]),(2,[19])] }),
 (142,{ live:=[(0,[0,1]),(1,[0,5]),(2,[4])] }),
 (143,{ live:=[(0,[0]),(1,[2])] }),
 (144,{ live:=[(0,[2,3,4]),(1,[2,3,4,7]),(2,[4]),(3,[4])] }),
 (145,{ live:=[(0,[0,1,2,7]),(1,[0,1,2,7,8]),(2,[0,1,2,4,7]),(3,[0,1,2,4,5,6,7]),(4,[0,1,2,7,30]),(5,[0,1,2,7])],dec:=[17,23],rd:=[(3,[5])] }),
 (146,{ live:=[(0,[0,1,2,3,8]),(1,[0,1,2,3,8,14]),(2,[0,1,2,3,8]),(3,[0,1,2,3,8,9]),(4,[0,1,2,3,8,9,34]),(5,[0,1,2,3,8,9]),(6,[0,1,2,3,8,9])],dec:=[21] }),
 (147,{ live:=[(0,[0,1,2,3,8]),(1,[0,1,2,3,8,9]),(2,[0,3,8,9,10]),(3,[0,3,8,9,10,11]),(4,[0,3,8,9,10,11,21]),(5,[0,3,8,9,10,11]),(6,[0,3,8,9,10,11]),(7,[0,3,8,9,12]),(8,[0,3,8,9,12,33]),(9,[0,3,8,9,12]),(10,[0,3,8,9,12]),(11,[0,3,8,9,12])] }),
 (148,{ live:=[(0,[0,1,8]),(1,[0,1,8,17]),(2,[0,1,8,9]),(3,[0,1,8,9,10]),(4,[0,1,8,9,10,11]),(5,[0,1,8,9,10,11,35]),(6,[0,1,8,9,10,11]),(7,[0,1,8,9,10,11,12]),(8,[0,1,8,9,10,11,12,45]),(9,[0,1,8,9,10,11,12]),(10,[0,1,8,9,10,11])] }),
 (149,{ live:=[(0,[0,1,2,3]),(1,[0,1,3,10]),(2,[0,1,3,10,11]),(3,[0,1,3,10,11,12]),(4,[0,1,3,10,11,12,13]),(5,[0,3,10,11,12,13,14]),(6,[0,3,10,11,12,13,14,34]),(7,[0,3,11,12,13,14,36]),(8,[0,3,11,12,13,14]),(9,[0,3,11,12,13,14]),(10,[0,3,11,12,13,14]),(11,[11,13]),(12,[13,55]),(13,[8,9]),(14,[13,55,57]),(15,[8,9]),(16,[13,60]),(17,[8,9])] }),
 (150,{ live:=[(0,[0,2,8]),(1,[0,8,9]),(2,[0,8,9,15]),(3,[0,8,9]),(4,[0,8,9]),(5,[0,8,9])] }),
 (151,{ live:=[(0,[0,1,2,3]),(1,[0,1,2,3,9]),(2,[0,1,2,3,9,10]),(3,[0,1,2,3,9,10,16]),(4,[0,1,2,3,9,10]),(5,[0,1,2,3,9,10,36]),(6,[0,1,2,3,9,10]),(7,[0,1,2,3,9,10,41]),(8,[8]),(9,[0,1,2,3,9,10,45]),(10,[8]),(11,[0,1,2,3,9,10]),(12,[0,1,2,3,9,10,65]),(13,[0,1,2,3,9,10,11]),(14,[0,1,2,3,9,10,11,69]),(15,[0,1,2,3,9,10,11]),(16,[0,1,2,3,9,10,11,84]),(17,[0,1,2,3,9,10,11]),(18,[0,1,2,3,9,10,104]),(19,[0,1,2,3,9,10,12]),(20,[0,1,2,3,9,10,12,109]),(21,[0,1,2,3,9,10,12]),(22,[0,1,2,3,9,10,12,124]),(23,[0,1,2,3,9,10,12]),(24,[8])],dec:=[22] }),
 (152,{ live:=[(0,[0,1,2,3,4]),(1,[0,1,2,4]),(2,[0,1,4,11,12]),(3,[0,1,4,11,12,47]),(4,[0,1,4,11,12]),(5,[0,1,4,11,12,65]),(6,[0,1,4,11,12]),(7,[0,1,4,11,12,70]),(8,[0,1,4,11,12]),(9,[0,1,4,11,12]),(10,[0,1,4,11,12]),(11,[10])],dec:=[34,53] }),
 (153,{ live:=[(0,[0,1,2,3,4]),(1,[0,1,2,4]),(2,[0,1,4,12,13]),(3,[0,1,4,12,13,47]),(4,[0,1,4,12,13]),(5,[0,1,4,12,13,66]),(6,[0,1,4,12,13]),(7,[0,1,4,12,13,71]),(8,[13]),(9,[10,11]),(10,[0,1,4,12,13]),(11,[0,1,4,12,13]),(12,[0,1,4,12,13]),(13,[0,1,4,12,13,120]),(14,[0,1,4,12,13]),(15,[0,1,4,12,13,139]),(16,[0,1,4,12,13]),(17,[0,1,4,12,13,144]),(18,[0,1,4,12,13]),(19,[0,1,4,12,13]),(20,[0,1,4,12,13]),(21,[13]),(22,[10,11])],dec:=[35,53,108,126] }),
 (154,{ live:=[(0,[0,2]),(1,[0,2,4]),(2,[0]),(3,[0,2]),(4,[0,2,8]),(5,[0,2]),(6,[0,2]),(7,[2])] }),
 (155,{ live:=[(0,[0,2]),(1,[0,2,4]),(2,[0]),(3,[0,2]),(4,[0,2,8]),(5,[0,2]),(6,[0,2]),(7,[0,2,14]),(8,[0,2]),(9,[0,2]),(10,[2])] }),
 (159,{ live:=[(0,[2,3]),(1,[5]),(2,[13,14]),(3,[13,14,15]),(4,[7,13,14]),(5,[8,13,14]),(6,[8,13,14,20]),(7,[4]),(8,[13,14]),(9,[4])],rd:=[(1,[5])] }),
 (160,{ live:=[(0,[0,2,3,4,10]),(1,[0,2,3,4,10,11]),(2,[0,2,3,4,10,11,18]),(3,[0,2,3,4,10,11,40]),(4,[0,2,3,4,10,11]),(5,[0,2,3,4,10,11,58]),(6,[0,2,3,4,11]),(7,[0,2,3,4,10])],dec:=[23] }),
 (161,{ live:=[(0,[0]),(1,[2])] }),
 (162,{ live:=[(0,[0]),(1,[0]),(2,[0]),(3,[0]),(4,[2])] }),
 (163,{ live:=[(0,[0,1,2,3]),(1,[8])] }),
 (164,{ live:=[(0,[0,1,2,3,4,5]),(1,[0,1,2,3,4,5]),(2,[0,1,2,4,5]),(3,[2]),(4,[12])] }),
 (166,{ live:=[(0,[0,1]),(1,[2])] }),
 (167,{ live:=[(0,[2,3,4]),(1,[2,3,4,7]),(2,[6]),(3,[12]),(4,[6]),(5,[6])] }),
 (168,{ live:=[(0,[0,1]),(1,[2])] }),
 (169,{ live:=[(0,[2,3,4]),(1,[2,3,4,7]),(2,[6]),(3,[12]),(4,[6]),(5,[6])] }),
 (170,{ live:=[(0,[2,3]),(1,[4])],dec:=[8] }),
 (171,{ live:=[(0,[0,1]),(1,[2])] }),
 (172,{ live:=[(0,[0,1]),(1,[0,1,5]),(2,[0,1,5,6]),(3,[0,1,6,11]),(4,[12]),(5,[4]),(6,[4]),(7,[0,1,13]),(8,[4]),(9,[0,1,16]),(10,[4]),(11,[19]),(12,[4]),(13,[4])] }),
 (173,{ live:=[(0,[0,1,2,3,4]),(1,[1,2,3,22]),(2,[1,2]),(3,[10,11]),(4,[10,11])] }),
 (175,{ live:=[(0,[0]),(1,[2])] })]
def qvh (k:FuncId):TH:=(get qvK k).getD {}
theorem qu6:qdS Tryz.prog [113]:=⟨qtA (fn:=Tryz.f113) (c:=Tryz.f113.body.getD .skip) (by kernel_rfl) (by kernel_rfl) (by kernel_rfl),trivial⟩
def qma:Option Bool:=some true
theorem qpI:qqi Tryz.prog qvh [113] [qlj,qmd] 400 30 11=some (.pv (.b true),[]):=by kernel_rfl
def qmb:Ent:=smF ⟨11,[],[],[],[]⟩ [] Bool (fun _=>qma) cs1 fun _ z=>(xb z,[])
theorem qq9:zo Tryz.prog qmb:=qvd Tryz.prog (fun _=>rfl) qA (base:=[qlj,qmd]) ⟨qvw,qvB,trivial⟩ qu6 qpI
end Go.Rx
end
set_option maxRecDepth 100000
noncomputable section
namespace Go.Rx
open Go.Proofs
noncomputable def qgh:Code:=Tryz.f12.body.getD .skip
theorem quD:FnF Tryz.prog 12 Tryz.f12 qgh:=⟨qA,by kernel_rfl,by kernel_rfl,by kernel_rfl⟩
def JZ:TH:={ live:=[(0,[1]),(1,[1,13]),(2,[2]),(3,[1,3]),(4,[1,3,18]),(5,[1,3]),(6,[1,3,28]),(7,[2]),(8,[2])],dec:=[8] }
def WJ (N:Nat):List Ent:=[]
theorem XY (N:Nat):q7 Tryz.prog (WJ N):=trivial
abbrev v8:=qa
abbrev jf:=Unit⊕(Int×Bool)
def jU (f:v8):jf→Ex×TSt
 | .inl y=>(.ret,⟨0,29,[],[(2,.bc false)],[],false,[]⟩)
 | .inr y=>(.exit 0,⟨0,29,[],[(1,.p 10 [] 0),(3,xi y.1),(18,xb y.2)],[(10,.cell false (.tv q_ f))],false,[]⟩)
def qaJ (N:Nat):List (Nat×qO):=[]
abbrev jO:=Int
def Xj:SP:=⟨0,29,[],[(1,.k (.p 10 [] 0)),(3,.x (.i .i64))],[(10,.cell false (.x q_))],false,[]⟩
def qaZ (f:v8) (v:jO):TSt:=vw Xj [dv q_ f,dv (.i .i64) v]
def Qa (N:Nat) (o_4:qa) (v:jO):Tree (jO⊕jf):=
 .cond (decide (v < (((qa.P o_4).length:Nat):Int))) (
 .bind (zn (qa.P o_4) v) fun e1=>
 .cond (decide (((300:Int)) < (((qb.Lit e1).length:Nat):Int))) (
 .ret (.inr (.inl ()))) <|
 .chk (qv (v + 1)) <|
 .ret (.inl (v + 1))) <|
 .ret (.inr (.inr ((v,decide (v < (((qa.P o_4).length:Nat):Int))))))
def Xf (N n:Nat) (f:v8) (v:jO):Option jf:=zG (Qa N f) some n v
theorem qaG (N:Nat) (f:v8) (n:Nat) (v:jO) (y:jf) (h:Xf N n f v=some y):LG Tryz.prog JZ 12 (zi qgh 4) (qaZ f v) (jU f y):=
 jP qA (E:=WJ N) (L:=q0 (qaJ N)) (st:=jU f) (g:=some) (R:=jU f) (XY N) (qH (by kernel_rfl) trivial) (rg0 (by kernel_rfl)) (fun v=>by kernel_rfl) (zE (st:=jU f) fun y=>by rcases y with _ | _<;>rfl) n v y h
def Js (N:Nat) (o_4:qa) (s3_4:Int):Option jf:=Xf N N o_4 s3_4
def Xm (N:Nat):qO:=smL Xj [q_,(.i .i64)] jf (fun x=>Js N x.1 x.2.1) (csS cs1) fun x=>jU x.1
theorem qaa (N:Nat):Q_ Tryz.prog JZ 12 (zi qgh 4) (Xm N):=vC fun x z h=>qaG N x.1 N x.2.1 z h
def qd8 (z:Bool):TV×THp:=(xb z,[])
def vX (N:Nat) (a0:qa):Tree (Bool):=
 .cond (decide (((80:Int)) < (((qa.P a0).length:Nat):Int))) (
 .ret false) <|
 .cond (decide (((300:Int)) < (((qa.V a0).length:Nat):Int))) (
 .ret false) <|
 .bind (Js N a0 0) fun z1=>
 .sum z1 (fun z2=>
 .ret false) fun z2=>
 .ret true
def jJ (N:Nat) (a0:qa):Option (Bool):=(vX N a0).run some
def qdD (N:Nat):List (Nat×qO):=[(4,Xm N)]
def WV (N:Nat):Ent:=smF ⟨12,[],[.x q_],[],[]⟩ [q_] (Bool) (fun x=>jJ N x.1) cs1 fun _=>qd8
theorem qcT (N:Nat):zo Tryz.prog (WV N):=
 zy (H:=JZ) (L:=q0 (qdD N)) (ts:=[q_]) (T:=fun x=>vX N x.1) 0 quD (XY N) (qH (by kernel_rfl) ⟨qaa N,trivial⟩) (rg0 (by kernel_rfl)) fun x=>by kernel_rfl
noncomputable def qtU:Code:=Tryz.f59.body.getD .skip
theorem qsX:FnF Tryz.prog 59 Tryz.f59 qtU:=⟨qA,by kernel_rfl,by kernel_rfl,by kernel_rfl⟩
def qrt:TH:={ live:=[(0,[1,2]),(1,[1,2,3]),(2,[1,2,3,12]),(3,[1,2,3,12,13]),(4,[2,3]),(5,[1,2,3,12,21]),(6,[2,3]),(7,[1,2,3,35]),(8,[2,3]),(9,[2])] }
def qr2 (N:Nat):List Ent:=[]
theorem qn6 (N:Nat):q7 Tryz.prog (qr2 N):=trivial
def qrc (z:qa):TV×THp:=(.tv q_ z,[])
def qdQ (a0:qa):Tree (qa):=
 .cond (decide ((qa.Kind a0)=((1:Int)))) (
 .ret (qa.mk (qa.Kind a0) (qa.ID a0) (qa.S a0) (qa.No a0) (qa.V a0) [] ((Vector.replicate 16 0)) 0 ((Vector.replicate 32 0)))) <|
 .cond (decide ((qa.Kind a0)=((2:Int)))) (
 .ret (qa.mk (qa.Kind a0) (qa.ID a0) (qa.S a0) (qa.No a0) [] [] (qa.jL a0) (qa.je a0) (qa.D a0))) <|
 .cond (decide ((qa.Kind a0)=((3:Int)))) (
 .ret (qa.mk (qa.Kind a0) (qa.ID a0) (qa.S a0) (qa.No a0) [] (qa.P a0) ((Vector.replicate 16 0)) 0 (qa.D a0))) <|
 .ret (qa.mk (qa.Kind a0) (qa.ID a0) (qa.S a0) 0 [] [] ((Vector.replicate 16 0)) 0 ((Vector.replicate 32 0)))
def qet (a0:qa):Option (qa):=(qdQ a0).run some
def qsn:List (Nat×qO):=[]
def qjZ:Ent:=smF ⟨59,[],[.x q_],[],[]⟩ [q_] (qa) (fun x=>qet x.1) cs1 fun _=>qrc
theorem qqy:zo Tryz.prog (qjZ):=
 zy (H:=qrt) (L:=q0 (qsn)) (ts:=[q_]) (T:=fun x=>qdQ x.1) 0 qsX (qn6 0) (qH (by kernel_rfl) trivial) (rg0 (by kernel_rfl)) fun x=>by kernel_rfl
noncomputable def qf1:Code:=Tryz.f91.body.getD .skip
theorem qty:FnF Tryz.prog 91 Tryz.f91 qf1:=⟨qA,by kernel_rfl,by kernel_rfl,by kernel_rfl⟩
def ZM:TH:={ live:=[(0,[0,1]),(1,[0,1,10]),(2,[4]),(3,[0,1,12,13]),(4,[0,1,12,13,14]),(5,[0,1,5,12,13]),(6,[0,1,12,13,24]),(7,[4]),(8,[0,1,12,13]),(9,[4])] }
def XK (N:Nat):List Ent:=[]
theorem VE (N:Nat):q7 Tryz.prog (XK N):=trivial
abbrev vz:=List qb×List qb×Int
abbrev zR:=Unit⊕(Int×Bool)
def js (f:vz):zR→Ex×TSt
 | .inl y=>(.ret,⟨0,26,[],[(4,.bc false)],[],false,[]⟩)
 | .inr y=>(.exit 0,⟨0,26,[],[(0,.tv (.sl 4 qu) f.1),(1,.tv (.sl 4 qu) f.2.1),(12,xi f.2.2),(13,xi y.1),(14,xb y.2)],[],false,[]⟩)
def Ku (N:Nat):List (Nat×qO):=[]
abbrev jt:=Int
def Vt:SP:=⟨0,26,[],[(0,.x (.sl 4 qu)),(1,.x (.sl 4 qu)),(12,.x (.i .i64)),(13,.x (.i .i64))],[],false,[]⟩
def Kx (f:vz) (v:jt):TSt:=vw Vt [dv (.sl 4 qu) f.1,dv (.sl 4 qu) f.2.1,dv (.i .i64) f.2.2,dv (.i .i64) v]
def vu (N:Nat) (s0_4:List qb) (s1_4:List qb) (s12_4:Int) (v:jt):Tree (jt⊕zR):=
 .cond (decide (v < s12_4)) (
 .bind (zn s0_4 v) fun e1=>
 .bind (zn s1_4 v) fun e2=>
 .cond (!(eqE qu e1 e2)) (
 .ret (.inr (.inl ()))) <|
 .chk (qv (v + 1)) <|
 .ret (.inl (v + 1))) <|
 .ret (.inr (.inr ((v,decide (v < s12_4)))))
def Vq (N n:Nat) (f:vz) (v:jt):Option zR:=zG (vu N f.1 f.2.1 f.2.2) some n v
theorem Ks (N:Nat) (f:vz) (n:Nat) (v:jt) (y:zR) (h:Vq N n f v=some y):LG Tryz.prog ZM 91 (zi qf1 4) (Kx f v) (js f y):=
 jP qA (E:=XK N) (L:=q0 (Ku N)) (st:=js f) (g:=some) (R:=js f) (VE N) (qH (by kernel_rfl) trivial) (rg0 (by kernel_rfl)) (fun v=>by kernel_rfl) (zE (st:=js f) fun y=>by rcases y with _ | _<;>rfl) n v y h
def Zr (N:Nat) (s0_4:List qb) (s1_4:List qb) (s12_4:Int) (s13_4:Int):Option zR:=Vq N N (s0_4,s1_4,s12_4) s13_4
def Vv (N:Nat):qO:=smL Vt [(.sl 4 qu),(.sl 4 qu),(.i .i64),(.i .i64)] zR (fun x=>Zr N x.1 x.2.1 x.2.2.1 x.2.2.2.1) (csS cs1) fun x=>js (x.1,x.2.1,x.2.2.1)
theorem YQ (N:Nat):Q_ Tryz.prog ZM 91 (zi qf1 4) (Vv N):=vC fun x z h=>Ks N (x.1,x.2.1,x.2.2.1) N x.2.2.2.1 z h
def qbX (z:Bool):TV×THp:=(xb z,[])
def Z7 (N:Nat) (a0:List qb) (a1:List qb):Tree (Bool):=
 .cond (!decide (((a0.length:Nat):Int)=((a1.length:Nat):Int))) (
 .ret false) <|
 .bind (Zr N a0 a1 ((a0.length:Nat):Int) 0) fun z1=>
 .sum z1 (fun z2=>
 .ret false) fun z2=>
 .ret true
def Q3 (N:Nat) (a0:List qb) (a1:List qb):Option (Bool):=(Z7 N a0 a1).run some
def qcd (N:Nat):List (Nat×qO):=[(4,Vv N)]
def Xz (N:Nat):Ent:=smF ⟨91,[],[.x (.sl 4 qu),.x (.sl 4 qu)],[],[]⟩ [(.sl 4 qu),(.sl 4 qu)] (Bool) (fun x=>Q3 N x.1 x.2.1) cs1 fun _=>qbX
theorem qa5 (N:Nat):zo Tryz.prog (Xz N):=
 zy (H:=ZM) (L:=q0 (qcd N)) (ts:=[(.sl 4 qu),(.sl 4 qu)]) (T:=fun x=>Z7 N x.1 x.2.1) 0 qty (VE N) (qH (by kernel_rfl) ⟨YQ N,trivial⟩) (rg0 (by kernel_rfl)) fun x=>by kernel_rfl
noncomputable def qtH:Code:=Tryz.f63.body.getD .skip
theorem qt5:FnF Tryz.prog 63 Tryz.f63 qtH:=⟨qA,by kernel_rfl,by kernel_rfl,by kernel_rfl⟩
def qnu:TH:={ live:=[(0,[0,1]),(1,[4])] }
def qmp (N:Nat):List Ent:=[Xz N]
theorem qiA (N:Nat):q7 Tryz.prog (qmp N):=⟨qa5 N,trivial⟩
def qlS (z:Bool):TV×THp:=(xb z,[])
def Ki (N:Nat) (a0:List qb) (a1:List qb):Tree (Bool):=
 .bind (Q3 N a0 a1) fun r1=>
 .ret r1
def Yr (N:Nat) (a0:List qb) (a1:List qb):Option (Bool):=(Ki N a0 a1).run some
def qly (N:Nat):List (Nat×qO):=[]
def qd9 (N:Nat):Ent:=smF ⟨63,[],[.x (.sl 4 qu),.x (.sl 4 qu)],[],[]⟩ [(.sl 4 qu),(.sl 4 qu)] (Bool) (fun x=>Yr N x.1 x.2.1) cs1 fun _=>qlS
theorem qkj (N:Nat):zo Tryz.prog (qd9 N):=
 zy (H:=qnu) (L:=q0 (qly N)) (ts:=[(.sl 4 qu),(.sl 4 qu)]) (T:=fun x=>Ki N x.1 x.2.1) 0 qt5 (qiA N) (qH (by kernel_rfl) trivial) (rg0 (by kernel_rfl)) fun x=>by kernel_rfl
noncomputable def qti:Code:=Tryz.f20.body.getD .skip
theorem qtY:FnF Tryz.prog 20 Tryz.f20 qti:=⟨qA,by kernel_rfl,by kernel_rfl,by kernel_rfl⟩
def qrR:TH:={ live:=[(0,[2,3]),(1,[2,3,5]),(2,[4])],dec:=[11,18,25,33,40,47,54,61] }
def qss (N:Nat):List Ent:=[qd9 N]
theorem qoc (N:Nat):q7 Tryz.prog (qss N):=⟨qkj N,trivial⟩
def qrB (z:Bool):TV×THp:=(xb z,[])
def qec (N:Nat) (a0:qa) (a1:qa):Tree (Bool):=
 .cond (eqE (.ba 16) (qa.ID a0) (qa.ID a1)) (
 .cond (eqE (.ba 16) (qa.jL a0) (qa.jL a1)) (
 .cond (decide ((qa.No a0)=(qa.No a1))) (
 .cond (decide ((qa.je a0)=(qa.je a1))) (
 .cond (decide ((qa.Kind a0)=(qa.Kind a1))) (
 .cond (eqE zF (qa.S a0) (qa.S a1)) (
 .cond (decide ((qa.V a0)=(qa.V a1))) (
 .cond (eqE (.ba 32) (qa.D a0) (qa.D a1)) (
 .bind (Yr N (qa.P a0) (qa.P a1)) fun r1=>
 .ret r1) <|
 .ret false) <|
 .ret false) <|
 .ret false) <|
 .ret false) <|
 .ret false) <|
 .ret false) <|
 .ret false) <|
 .ret false
def qeI (N:Nat) (a0:qa) (a1:qa):Option (Bool):=(qec N a0 a1).run some
def qsf (N:Nat):List (Nat×qO):=[]
def qjF (N:Nat):Ent:=smF ⟨20,[],[.x q_,.x q_],[],[]⟩ [q_,q_] (Bool) (fun x=>qeI N x.1 x.2.1) cs1 fun _=>qrB
theorem qpN (N:Nat):zo Tryz.prog (qjF N):=
 zy (H:=qrR) (L:=q0 (qsf N)) (ts:=[q_,q_]) (T:=fun x=>qec N x.1 x.2.1) 0 qtY (qoc N) (qH (by kernel_rfl) trivial) (rg0 (by kernel_rfl)) fun x=>by kernel_rfl
noncomputable def qtd:Code:=Tryz.f60.body.getD .skip
theorem quk:FnF Tryz.prog 60 Tryz.f60 qtd:=⟨qA,by kernel_rfl,by kernel_rfl,by kernel_rfl⟩
def qnw:TH:={ live:=[(0,[1]),(1,[2])],dec:=[6,10,15,20] }
def qoI (N:Nat):List Ent:=[]
theorem qkx (N:Nat):q7 Tryz.prog (qoI N):=trivial
def qnz (z:Bool):TV×THp:=(xb z,[])
def K3 (a0:qi):Tree (Bool):=
 .cond (eqE zF a0 (qi.mk 0 0)) (
 .ret true) <|
 .cond (decide (((0:Int)) < (qi.N a0))) (
 .cond (decide ((qi.N a0)≤((1099511627776:Int)))) (
 .cond (decide (((0:Int))≤(qi.Rep a0))) (
 .ret (decide ((qi.Rep a0) < ((8:Int))))) <|
 .ret false) <|
 .ret false) <|
 .ret false
def JV (a0:qi):Option (Bool):=(K3 a0).run some
def qn0:List (Nat×qO):=[]
def Wp:Ent:=smF ⟨60,[],[.x zF],[],[]⟩ [zF] (Bool) (fun x=>JV x.1) cs1 fun _=>qnz
theorem YJ:zo Tryz.prog (Wp):=
 zy (H:=qnw) (L:=q0 (qn0)) (ts:=[zF]) (T:=fun x=>K3 x.1) 0 quk (qkx 0) (qH (by kernel_rfl) trivial) (rg0 (by kernel_rfl)) fun x=>by kernel_rfl
noncomputable def qtP:Code:=Tryz.f61.body.getD .skip
theorem qs8:FnF Tryz.prog 61 Tryz.f61 qtP:=⟨qA,by kernel_rfl,by kernel_rfl,by kernel_rfl⟩
def qom:TH:={ live:=[(0,[0]),(1,[2])],dec:=[5] }
def qn9 (N:Nat):List Ent:=[]
theorem qkK (N:Nat):q7 Tryz.prog (qn9 N):=trivial
def qnF (z:Bool):TV×THp:=(xb z,[])
def K_ (a0:Int):Tree (Bool):=
 .cond (decide (((0:Int))≤a0)) (
 .ret (decide (a0 < ((8:Int))))) <|
 .ret false
def WS (a0:Int):Option (Bool):=(K_ a0).run some
def qnR:List (Nat×qO):=[]
def qe_:Ent:=smF ⟨61,[],[.x (.i .i64)],[],[]⟩ [(.i .i64)] (Bool) (fun x=>WS x.1) cs1 fun _=>qnF
theorem qlR:zo Tryz.prog (qe_):=
 zy (H:=qom) (L:=q0 (qnR)) (ts:=[(.i .i64)]) (T:=fun x=>K_ x.1) 0 qs8 (qkK 0) (qH (by kernel_rfl) trivial) (rg0 (by kernel_rfl)) fun x=>by kernel_rfl
noncomputable def qsh:Code:=Tryz.f117.body.getD .skip
theorem qrS:FnF Tryz.prog 117 Tryz.f117 qsh:=⟨qA,by kernel_rfl,by kernel_rfl,by kernel_rfl⟩
def qqR:TH:={ live:=[(0,[0,1,2]),(1,[6])],dec:=[10] }
def qp9 (N:Nat):List Ent:=[]
theorem qmS (N:Nat):q7 Tryz.prog (qp9 N):=trivial
def qqz (z:Bool):TV×THp:=(xb z,[])
def qb4 (a0:Int) (a1:Int) (a2:Int):Tree (Bool):=
 .cond (decide (a1≤a0)) (
 .ret (decide (a0≤a2))) <|
 .ret false
def X9 (a0:Int) (a1:Int) (a2:Int):Option (Bool):=(qb4 a0 a1 a2).run some
def qqK:List (Nat×qO):=[]
def qg1:Ent:=smF ⟨117,[],[.x (.i .i64),.x (.i .i64),.x (.i .i64)],[],[]⟩ [(.i .i64),(.i .i64),(.i .i64)] (Bool) (fun x=>X9 x.1 x.2.1 x.2.2.1) cs1 fun _=>qqz
theorem qox:zo Tryz.prog (qg1):=
 zy (H:=qqR) (L:=q0 (qqK)) (ts:=[(.i .i64),(.i .i64),(.i .i64)]) (T:=fun x=>qb4 x.1 x.2.1 x.2.2.1) 0 qrS (qmS 0) (qH (by kernel_rfl) trivial) (rg0 (by kernel_rfl)) fun x=>by kernel_rfl
noncomputable def qtT:Code:=Tryz.f90.body.getD .skip
theorem qux:FnF Tryz.prog 90 Tryz.f90 qtT:=⟨qA,by kernel_rfl,by kernel_rfl,by kernel_rfl⟩
def qnE:TH:={ live:=[(0,[1]),(1,[1,4]),(2,[2]),(3,[2])],dec:=[8,13,23] }
def qoy (N:Nat):List Ent:=[qg1]
theorem qk0 (N:Nat):q7 Tryz.prog (qoy N):=⟨qox,trivial⟩
def qof (z:Bool):TV×THp:=(xb z,[])
def qat (a0:qb):Tree (Bool):=
 .cond (qb.JM a0) (
 .bind (X9 (qb.jL a0) 0 200) fun r1=>
 .cond r1 (
 .bind (X9 (qb.Len a0) 1 200) fun r2=>
 .cond r2 (
 .ret (decide ((qb.Lit a0)=[]))) <|
 .ret false) <|
 .ret false) <|
 .cond (eqE qu a0 (qb.mk false 0 0 (qb.Lit a0))) (
 .bind (X9 (((qb.Lit a0).length:Nat):Int) 1 200) fun r1=>
 .ret r1) <|
 .ret false
def K0 (a0:qb):Option (Bool):=(qat a0).run some
def qov:List (Nat×qO):=[]
def qfj:Ent:=smF ⟨90,[],[.x qu],[],[]⟩ [qu] (Bool) (fun x=>K0 x.1) cs1 fun _=>qof
theorem ql5:zo Tryz.prog (qfj):=
 zy (H:=qnE) (L:=q0 (qov)) (ts:=[qu]) (T:=fun x=>qat x.1) 0 qux (qk0 0) (qH (by kernel_rfl) trivial) (rg0 (by kernel_rfl)) fun x=>by kernel_rfl
noncomputable def qgk:Code:=Tryz.f62.body.getD .skip
theorem qtJ:FnF Tryz.prog 62 Tryz.f62 qgk:=⟨qA,by kernel_rfl,by kernel_rfl,by kernel_rfl⟩
def qab:TH:={ live:=[(0,[0]),(1,[0,3]),(2,[0,3,6,7,8]),(3,[0,3,6,7,8,9]),(4,[0,3,5,6,7,8]),(5,[0,3,5,6,7,8,14]),(6,[2]),(7,[0,3,6,7,8]),(8,[0,3,6,7,8]),(9,[2])],dec:=[27] }
def qe7 (N:Nat):List Ent:=[qfj]
theorem qcp (N:Nat):q7 Tryz.prog (qe7 N):=⟨ql5,trivial⟩
abbrev J9:=List qb×List qb×Int
abbrev Qu:=Unit⊕(Int×Int×Bool)
def Zx (f:J9):Qu→Ex×TSt
 | .inl y=>(.ret,⟨0,31,[],[(2,.bc false)],[],false,[]⟩)
 | .inr y=>(.exit 0,⟨0,31,[],[(0,.tv (.sl 4 qu) f.1),(3,xi y.1),(6,.tv (.sl 4 qu) f.2.1),(7,xi f.2.2),(8,xi y.2.1),(9,xb y.2.2)],[],false,[]⟩)
def qiB (N:Nat):List (Nat×qO):=[]
abbrev Zt:=Int×Int
def qbb:SP:=⟨0,31,[],[(0,.x (.sl 4 qu)),(3,.x (.i .i64)),(6,.x (.sl 4 qu)),(7,.x (.i .i64)),(8,.x (.i .i64))],[],false,[]⟩
def qiq (f:J9) (v:Zt):TSt:=vw qbb [dv (.sl 4 qu) f.1,dv (.i .i64) v.1,dv (.sl 4 qu) f.2.1,dv (.i .i64) f.2.2,dv (.i .i64) v.2]
def Vp (N:Nat) (s0_3:List qb) (s6_3:List qb) (s7_3:Int) (v:Zt):Tree (Zt⊕Qu):=
 .cond (decide (v.2 < s7_3)) (
 .bind (zn s6_3 v.2) fun e1=>
 .bind (K0 e1) fun r2=>
 .cond (!r2) (
 .ret (.inr (.inl ()))) <|
 .chk (qv ((qb.Len e1) + (((qb.Lit e1).length:Nat):Int))) <|
 .chk (qv (v.1 + ((qb.Len e1) + (((qb.Lit e1).length:Nat):Int)))) <|
 .chk (qv (v.2 + 1)) <|
 .ret (.inl (v.1 + ((qb.Len e1) + (((qb.Lit e1).length:Nat):Int)),v.2 + 1))) <|
 .ret (.inr (.inr ((v.1,v.2,decide (v.2 < s7_3)))))
def qba (N n:Nat) (f:J9) (v:Zt):Option Qu:=zG (Vp N f.1 f.2.1 f.2.2) some n v
theorem qix (N:Nat) (f:J9) (n:Nat) (v:Zt) (y:Qu) (h:qba N n f v=some y):LG Tryz.prog qab 62 (zi qgk 3) (qiq f v) (Zx f y):=
 jP qA (E:=qe7 N) (L:=q0 (qiB N)) (st:=Zx f) (g:=some) (R:=Zx f) (qcp N) (qH (by kernel_rfl) trivial) (rg0 (by kernel_rfl)) (fun v=>by kernel_rfl) (zE (st:=Zx f) fun y=>by rcases y with _ | _<;>rfl) n v y h
def Y4 (N:Nat) (s0_3:List qb) (s6_3:List qb) (s7_3:Int) (s3_3:Int) (s8_3:Int):Option Qu:=qba N N (s0_3,s6_3,s7_3) (s3_3,s8_3)
def qa8 (N:Nat):qO:=smL qbb [(.sl 4 qu),(.i .i64),(.sl 4 qu),(.i .i64),(.i .i64)] Qu (fun x=>Y4 N x.1 x.2.2.1 x.2.2.2.1 x.2.1 x.2.2.2.2.1) (csS cs1) fun x=>Zx (x.1,x.2.2.1,x.2.2.2.1)
theorem qhd (N:Nat):Q_ Tryz.prog qab 62 (zi qgk 3) (qa8 N):=vC fun x z h=>qix N (x.1,x.2.2.1,x.2.2.2.1) N (x.2.1,x.2.2.2.2.1) z h
def qot (z:Bool):TV×THp:=(xb z,[])
def qae (N:Nat) (a0:List qb):Tree (Bool):=
 .bind (Y4 N a0 a0 ((a0.length:Nat):Int) 0 0) fun z1=>
 .sum z1 (fun z2=>
 .ret false) fun z2=>
 .cond (decide (((a0.length:Nat):Int)≤((60:Int)))) (
 .ret (decide (z2.1≤200))) <|
 .ret false
def Xk (N:Nat) (a0:List qb):Option (Bool):=(qae N a0).run some
def qoD (N:Nat):List (Nat×qO):=[(3,qa8 N)]
def Wv (N:Nat):Ent:=smF ⟨62,[],[.x (.sl 4 qu)],[],[]⟩ [(.sl 4 qu)] (Bool) (fun x=>Xk N x.1) cs1 fun _=>qot
theorem Kp (N:Nat):zo Tryz.prog (Wv N):=
 zy (H:=qab) (L:=q0 (qoD N)) (ts:=[(.sl 4 qu)]) (T:=fun x=>qae N x.1) 0 qtJ (qcp N) (qH (by kernel_rfl) ⟨qhd N,trivial⟩) (rg0 (by kernel_rfl)) fun x=>by kernel_rfl
noncomputable def qt9:Code:=Tryz.f19.body.getD .skip
theorem quv:FnF Tryz.prog 19 Tryz.f19 qt9:=⟨qA,by kernel_rfl,by kernel_rfl,by kernel_rfl⟩
def qs4:TH:={ live:=[(0,[1]),(1,[1,23]),(2,[2]),(3,[2])],dec:=[6,11,18,27,32,37,43] }
def qtW (N:Nat):List Ent:=[qjZ,qjF N,Wp,qe_,Wv N]
theorem qpF (N:Nat):q7 Tryz.prog (qtW N):=⟨qqy,qpN N,YJ,qlR,Kp N,trivial⟩
def qtQ (z:Bool):TV×THp:=(xb z,[])
def qgB (N:Nat) (a0:qa):Tree (Bool):=
 .cond (decide ((qa.Kind a0) < ((0:Int)))) (
 .ret false) <|
 .cond (decide (((4:Int))≤(qa.Kind a0))) (
 .ret false) <|
 .bind (qet a0) fun r1=>
 .bind (qeI N a0 r1) fun r2=>
 .cond (!r2) (
 .ret false) <|
 .cond (eqE zF (qa.S a0) (qi.mk 0 0)) (
 .ret false) <|
 .bind (JV (qa.S a0)) fun r3=>
 .cond r3 (
 .bind (WS (qa.No a0)) fun r4=>
 .cond r4 (
 .bind (WS (qa.je a0)) fun r5=>
 .cond r5 (
 .cond (decide ((((qa.V a0).length:Nat):Int)≤((200:Int)))) (
 .bind (Xk N (qa.P a0)) fun r6=>
 .ret r6) <|
 .ret false) <|
 .ret false) <|
 .ret false) <|
 .ret false
def ZA (N:Nat) (a0:qa):Option (Bool):=(qgB N a0).run some
def qtM (N:Nat):List (Nat×qO):=[]
def qgK (N:Nat):Ent:=smF ⟨19,[],[.x q_],[],[]⟩ [q_] (Bool) (fun x=>ZA N x.1) cs1 fun _=>qtQ
theorem qjN (N:Nat):zo Tryz.prog (qgK N):=
 zy (H:=qs4) (L:=q0 (qtM N)) (ts:=[q_]) (T:=fun x=>qgB N x.1) 0 quv (qpF N) (qH (by kernel_rfl) trivial) (rg0 (by kernel_rfl)) fun x=>by kernel_rfl
noncomputable def qdr:Code:=Tryz.f116.body.getD .skip
theorem qrh:FnF Tryz.prog 116 Tryz.f116 qdr:=⟨qA,by kernel_rfl,by kernel_rfl,by kernel_rfl⟩
def W8:TH:={ live:=[(0,[0]),(1,[0,3]),(2,[0,3]),(3,[0,3,7]),(4,[0,3]),(5,[0,3]),(6,[2])] }
def qcM (N:Nat):List Ent:=[]
theorem KB (N:Nat):q7 Tryz.prog (qcM N):=trivial
abbrev Z4:=Unit
abbrev vH:=Int×Int×Bool
def QH (f:Z4) (y:vH):Ex×TSt:=(.exit 0,⟨0,13,[],[(0,.tv (.i .u64) (y.1:Int)),(3,xi y.2.1),(7,xb y.2.2)],[],false,[]⟩)
def qf7 (N:Nat):List (Nat×qO):=[]
abbrev QC:=Int×Int
def Kh:SP:=⟨0,13,[],[(0,.x (.i .u64)),(3,.x (.i .i64))],[],false,[]⟩
def qfR (f:Z4) (v:QC):TSt:=vw Kh [dv (.i .u64) v.1,dv (.i .i64) v.2]
def Z0 (N:Nat) (v:QC):Tree (QC⊕vH):=
 .cond (decide (((0:Int)) < v.1)) (
 .chk (qv (v.2 + 1)) <|
 .chk (0≤(7:Int)) <|
 .ret (.inl (Qf v.1 7,v.2 + 1))) <|
 .ret (.inr (v.1,v.2,decide (((0:Int)) < v.1)))
def YH (N n:Nat) (f:Z4) (v:QC):Option vH:=zG (Z0 N) some n v
theorem qfV (N:Nat) (f:Z4) (n:Nat) (v:QC) (y:vH) (h:YH N n f v=some y):LG Tryz.prog W8 116 (zi qdr 3) (qfR f v) (QH f y):=
 jP qA (E:=qcM N) (L:=q0 (qf7 N)) (st:=QH f) (g:=some) (R:=QH f) (KB N) (qH (by kernel_rfl) trivial) (rg0 (by kernel_rfl)) (fun v=>by kernel_rfl) (zE (st:=QH f) fun y=>by rfl) n v y h
def X8 (N:Nat) (s0_3:Int) (s3_3:Int):Option vH:=YH N N () (s0_3,s3_3)
def YS (N:Nat):qO:=smL Kh [(.i .u64),(.i .i64)] vH (fun x=>X8 N x.1 x.2.1) cs1 fun x=>QH ()
theorem qe0 (N:Nat):Q_ Tryz.prog W8 116 (zi qdr 3) (YS N):=vC fun x z h=>qfV N () N (x.1,x.2.1) z h
def qkw (z:Int):TV×THp:=(xi z,[])
def Ya (N:Nat) (a0:Int):Tree (Int):=
 .chk (0≤(7:Int)) <|
 .bind (X8 N (Qf a0 7) 1) fun z1=>
 .ret z1.2.1
def VB (N:Nat) (a0:Int):Option (Int):=(Ya N a0).run some
def qkJ (N:Nat):List (Nat×qO):=[(3,YS N)]
def W5 (N:Nat):Ent:=smF ⟨116,[],[.x (.i .u64)],[],[]⟩ [(.i .u64)] (Int) (fun x=>VB N x.1) cs1 fun _=>qkw
theorem qaY (N:Nat):zo Tryz.prog (W5 N):=
 zy (H:=W8) (L:=q0 (qkJ N)) (ts:=[(.i .u64)]) (T:=fun x=>Ya N x.1) 0 qrh (KB N) (qH (by kernel_rfl) ⟨qe0 N,trivial⟩) (rg0 (by kernel_rfl)) fun x=>by kernel_rfl
noncomputable def Ka:Code:=Tryz.f84.body.getD .skip
theorem qnf:FnF Tryz.prog 84 Tryz.f84 Ka:=⟨qA,by kernel_rfl,by kernel_rfl,by kernel_rfl⟩
def qbN:TH:={ live:=[(0,[0]),(1,[0,3]),(2,[0,3,4]),(3,[0,3,4,10,11]),(4,[0,3,4,10,11,12]),(5,[0,3,4,5,10,11]),(6,[0,3,4,10,11]),(7,[0,3,4,10,11]),(8,[4]),(9,[2])],esc:=true }
def qg3 (N:Nat):List Ent:=[W5 N]
theorem qdH (N:Nat):q7 Tryz.prog (qg3 N):=⟨qaY N,trivial⟩
abbrev VT:=Int×Int×Nat×Int
abbrev QL:=List UInt8×Int×Bool
def Jb (f:VT) (y:QL):Ex×TSt:=(.exit 0,⟨1,35,[],[(0,.tv (.i .u64) f.1),(3,xi f.2.1),(4,.v 100090 f.2.2.1),(10,xi f.2.2.2),(11,xi y.2.1),(12,xb y.2.2)],[(100090,.vec false 1 .bl (y.1:List UInt8))],false,[]⟩)
def qk5 (N:Nat):List (Nat×qO):=[]
abbrev Jg:=List UInt8×Int
def qcJ:SP:=⟨1,35,[],[(0,.x (.i .u64)),(3,.x (.i .i64)),(4,.v 100090),(10,.x (.i .i64)),(11,.x (.i .i64))],[(100090,.vec false 1)],false,[]⟩
def qko (f:VT) (v:Jg):TSt:=vw qcJ [dv .bl v.1,dv (.i .u64) f.1,dv (.i .i64) f.2.1,dv .nat f.2.2.1,dv (.i .i64) f.2.2.2,dv (.i .i64) v.2]
def VN (N:Nat) (s0_4:Int) (s3_4:Int) (s4_4:Nat) (s10_4:Int) (v:Jg):Tree (Jg⊕QL):=
 .cond (decide (v.2 < s10_4)) (
 .chk (qv (s3_4 - 1)) <|
 .chk (qv ((s3_4 - 1) - v.2)) <|
 .chk (qv (((7:Int)) * v.2)) <|
 .chk (0≤(((7:Int)) * v.2)) <|
 let w1:Int:=Qf s0_4 (min (((7:Int)) * v.2).toNat 64)
 .chk (0≤((s3_4 - 1) - v.2)∧((s3_4 - 1) - v.2) < ((s4_4:Nat):Int)) <|
 .chk (XD v.1.length s4_4 (((s3_4 - 1) - v.2).toNat)) <|
 .chk (inB (uOr .u8 (IntKind.u8.wrap w1) 128)) <|
 .chk (qv (v.2 + 1)) <|
 .ret (.inl (v.1.set (((s3_4 - 1) - v.2).toNat) (UInt8.ofNat (uOr .u8 (IntKind.u8.wrap w1) 128).toNat),v.2 + 1))) <|
 .ret (.inr (v.1,v.2,decide (v.2 < s10_4)))
def qcl (N n:Nat) (f:VT) (v:Jg):Option QL:=zG (VN N f.1 f.2.1 f.2.2.1 f.2.2.2) some n v
theorem qkP (N:Nat) (f:VT) (n:Nat) (v:Jg) (y:QL) (h:qcl N n f v=some y):LG Tryz.prog qbN 84 (zi Ka 4) (qko f v) (Jb f y):=
 jP qA (E:=qg3 N) (L:=q0 (qk5 N)) (st:=Jb f) (g:=some) (R:=Jb f) (qdH N) (qH (by kernel_rfl) trivial) (rg0 (by kernel_rfl)) (fun v=>by kernel_rfl) (zE (st:=Jb f) fun y=>by rfl) n v y h
def Wt (N:Nat) (s0_4:Int) (s3_4:Int) (s4_4:Nat) (s10_4:Int) (o_4:List UInt8) (s11_4:Int):Option QL:=qcl N N (s0_4,s3_4,s4_4,s10_4) (o_4,s11_4)
def qcz (N:Nat):qO:=smL qcJ [.bl,(.i .u64),(.i .i64),.nat,(.i .i64),(.i .i64)] QL (fun x=>Wt N x.2.1 x.2.2.1 x.2.2.2.1 x.2.2.2.2.1 x.1 x.2.2.2.2.2.1) cs1 fun x=>Jb (x.2.1,x.2.2.1,x.2.2.2.1,x.2.2.2.2.1)
theorem qiR (N:Nat):Q_ Tryz.prog qbN 84 (zi Ka 4) (qcz N):=vC fun x z h=>qkP N (x.2.1,x.2.2.1,x.2.2.2.1,x.2.2.2.2.1) N (x.1,x.2.2.2.2.2.1) z h
def qp4 (z:List UInt8×Nat):TV×THp:=(.v 100090 z.2,[(100090,.vec false 1 .bl (z.1:List UInt8))])
def qbY (N:Nat) (a0:Int):Tree (List UInt8×Nat):=
 .bind (VB N a0) fun r1=>
 .chk (Km r1 r1 1) <|
 .bind (Wt N a0 r1 (((List.replicate r1.toNat 0:List UInt8)).length) r1 ((List.replicate r1.toNat 0:List UInt8)) 0) fun z2=>
 .chk (qv (r1 - 1)) <|
 .chk (0≤(r1 - 1)∧(r1 - 1) < ((((List.replicate r1.toNat 0:List UInt8)).length:Nat):Int)) <|
 .bind (Y_ z2.1 (((List.replicate r1.toNat 0:List UInt8)).length) ((r1 - 1).toNat)) fun e3=>
 let w4:Int:=jy .u8 ((e3.toNat:Nat):Int) 128
 .chk (0≤(r1 - 1)∧(r1 - 1) < ((((List.replicate r1.toNat 0:List UInt8)).length:Nat):Int)) <|
 .chk (XD z2.1.length (((List.replicate r1.toNat 0:List UInt8)).length) ((r1 - 1).toNat)) <|
 .chk (inB w4) <|
 .ret (z2.1.set ((r1 - 1).toNat) (UInt8.ofNat w4.toNat),((List.replicate r1.toNat 0:List UInt8)).length)
def JA (N:Nat) (a0:Int):Option (List UInt8×Nat):=(qbY N a0).run some
def qpS (N:Nat):List (Nat×qO):=[(4,qcz N)]
def qbp (N:Nat):Ent:=smF ⟨84,[],[.x (.i .u64)],[],[]⟩ [(.i .u64)] (List UInt8×Nat) (fun x=>JA N x.1) cs1 fun _=>qp4
theorem qfD (N:Nat):zo Tryz.prog (qbp N):=
 zy (H:=qbN) (L:=q0 (qpS N)) (ts:=[(.i .u64)]) (T:=fun x=>qbY N x.1) 0 qnf (qdH N) (qH (by kernel_rfl) ⟨qiR N,trivial⟩) (rg0 (by kernel_rfl)) fun x=>by kernel_rfl
noncomputable def qut:Code:=Tryz.f33.body.getD .skip
theorem qtn:FnF Tryz.prog 33 Tryz.f33 qut:=⟨qA,by kernel_rfl,by kernel_rfl,by kernel_rfl⟩
def qob:TH:={ live:=[(0,[1]),(1,[1,6]),(2,[2,3]),(3,[2,3])],fresh:=[15] }
def qop (N:Nat):List Ent:=[Wp,qbp N]
theorem qk8 (N:Nat):q7 Tryz.prog (qop N):=⟨YJ,qfD N,trivial⟩
def qn2 (z:List UInt8×Bool):TV×THp:=(.tup [.tv .bl (z.1:List UInt8),xb z.2],[])
def K7 (N:Nat) (a0:qi):Tree (List UInt8×Bool):=
 .bind (JV a0) fun r1=>
 .cond (!r1) (
 .ret ([],false)) <|
 .chk (0≤(3:Int)) <|
 let w2:Int:=Jr .u64 (IntKind.u64.wrap (qi.N a0)) 3
 let w3:Int:=uOr .u64 w2 (IntKind.u64.wrap (qi.Rep a0))
 .bind (JA N w3) fun r4=>
 .chk (r4.1.length=r4.2) <|
 .ret (r4.1,true)
def WX (N:Nat) (a0:qi):Option (List UInt8×Bool):=(K7 N a0).run some
def qod (N:Nat):List (Nat×qO):=[]
def qfl (N:Nat):Ent:=smF ⟨33,[],[.x zF],[],[]⟩ [zF] (List UInt8×Bool) (fun x=>WX N x.1) cs1 fun _=>qn2
theorem qlV (N:Nat):zo Tryz.prog (qfl N):=
 zy (H:=qob) (L:=q0 (qod N)) (ts:=[zF]) (T:=fun x=>K7 N x.1) 0 qtn (qk8 N) (qH (by kernel_rfl) trivial) (rg0 (by kernel_rfl)) fun x=>by kernel_rfl
noncomputable def qsV:Code:=Tryz.f85.body.getD .skip
theorem qtR:FnF Tryz.prog 85 Tryz.f85 qsV:=⟨qA,by kernel_rfl,by kernel_rfl,by kernel_rfl⟩
def qdN:TH:={ live:=[(0,[0,1]),(1,[0,1,6]),(2,[0,1]),(3,[0,1]),(4,[0,1,16]),(5,[0]),(6,[4])],esc:=true,nil:=[(5,[⟨.sl 0,900000850,.bl⟩])] }
def qc7 (N:Nat):List Ent:=[]
theorem qbS (N:Nat):q7 Tryz.prog (qc7 N):=trivial
def qeo:Unit⊕Unit→TV×THp
 | .inl z=>(.v 900000850 0,[(900000850,.vec false 1 .bl ([]:List UInt8))])
 | .inr z=>(.nils,[])
def JQ (a0:Int):Tree (Unit⊕Unit):=
 .cond (decide (a0 < ((0:Int)))) (
 .no) <|
 .chk (qv a0) <|
 .cond (decide (((0:Int)) < a0)) (
 .chk (0 < a0∧a0.toNat * 1≤qP) <|
 .ret (.inl ())) <|
 .ret (.inr ())
def ZR (a0:Int):Option (Unit⊕Unit):=(JQ a0).run some
def qdB:List (Nat×qO):=[]
def WT:Ent:=smF ⟨85,[],[.k .nils,.x (.i .i64)],[],[]⟩ [(.i .i64)] (Unit⊕Unit) (fun x=>ZR x.1) (csS cs1) fun _=>qeo
theorem qcS:zo Tryz.prog (WT):=
 zy (H:=qdN) (L:=q0 (qdB)) (ts:=[(.i .i64)]) (T:=fun x=>JQ x.1) 0 qtR (qbS 0) (qH (by kernel_rfl) trivial) (rg0 (by kernel_rfl)) fun x=>by kernel_rfl
noncomputable def YO:Code:=Tryz.f34.body.getD .skip
theorem qtx:FnF Tryz.prog 34 Tryz.f34 YO:=⟨qA,by kernel_rfl,by kernel_rfl,by kernel_rfl⟩
def j8:TH:={ live:=[(0,[0]),(1,[0,3]),(2,[0,3,9,10,11]),(3,[0,3,9,10,11,12]),(4,[0,3,5,9,10,11]),(5,[0,3,9,10,11]),(6,[0,3,9,10,11,20]),(7,[0,3,9,10,11]),(8,[0,3,9,10,11]),(9,[0,6]),(10,[6,25,26,27]),(11,[6,25,26,27,28]),(12,[6,8,25,26,27]),(13,[6,25,26,27]),(14,[6,25,26,27]),(15,[2])],raw:=[85],fresh:=[24],nil:=[(9,[⟨.sl 6,900000850,.bl⟩])] }
def Z1 (N:Nat):List Ent:=[WT]
theorem Q7 (N:Nat):q7 Tryz.prog (Z1 N):=⟨qcS,trivial⟩
abbrev vq:=List (List UInt8)×List (List UInt8)×Int
abbrev zQ:=Int×Int×Bool
def jr (f:vq) (y:zQ):Ex×TSt:=(.exit 0,⟨0,36,[],[(0,.tv (.sl 1 .bl) f.1),(3,xi y.1),(9,.tv (.sl 1 .bl) f.2.1),(10,xi f.2.2),(11,xi y.2.1),(12,xb y.2.2)],[],false,[]⟩)
def Kv (N:Nat):List (Nat×qO):=[]
abbrev ju:=Int×Int
def Vu:SP:=⟨0,36,[],[(0,.x (.sl 1 .bl)),(3,.x (.i .i64)),(9,.x (.sl 1 .bl)),(10,.x (.i .i64)),(11,.x (.i .i64))],[],false,[]⟩
def Kt (f:vq) (v:ju):TSt:=vw Vu [dv (.sl 1 .bl) f.1,dv (.i .i64) v.1,dv (.sl 1 .bl) f.2.1,dv (.i .i64) f.2.2,dv (.i .i64) v.2]
def vB (N:Nat) (s0_3:List (List UInt8)) (s9_3:List (List UInt8)) (s10_3:Int) (v:ju):Tree (ju⊕zQ):=
 .cond (decide (v.2 < s10_3)) (
 .bind (zn s9_3 v.2) fun e1=>
 .chk (qv (v.1 + ((e1.length:Nat):Int))) <|
 .cond (decide ((v.1 + ((e1.length:Nat):Int)) < 0)) (
 .no) <|
 .chk (qv (v.2 + 1)) <|
 .ret (.inl (v.1 + ((e1.length:Nat):Int),v.2 + 1))) <|
 .ret (.inr (v.1,v.2,decide (v.2 < s10_3)))
def Vr (N n:Nat) (f:vq) (v:ju):Option zQ:=zG (vB N f.1 f.2.1 f.2.2) some n v
theorem Kw (N:Nat) (f:vq) (n:Nat) (v:ju) (y:zQ) (h:Vr N n f v=some y):LG Tryz.prog j8 34 (zi YO 3) (Kt f v) (jr f y):=
 jP qA (E:=Z1 N) (L:=q0 (Kv N)) (st:=jr f) (g:=some) (R:=jr f) (Q7 N) (qH (by kernel_rfl) trivial) (rg0 (by kernel_rfl)) (fun v=>by kernel_rfl) (zE (st:=jr f) fun y=>by rfl) n v y h
def Zq (N:Nat) (s0_3:List (List UInt8)) (s9_3:List (List UInt8)) (s10_3:Int) (s3_3:Int) (s11_3:Int):Option zQ:=Vr N N (s0_3,s9_3,s10_3) (s3_3,s11_3)
def Vs (N:Nat):qO:=smL Vu [(.sl 1 .bl),(.i .i64),(.sl 1 .bl),(.i .i64),(.i .i64)] zQ (fun x=>Zq N x.1 x.2.2.1 x.2.2.2.1 x.2.1 x.2.2.2.2.1) cs1 fun x=>jr (x.1,x.2.2.1,x.2.2.2.1)
theorem Y7 (N:Nat):Q_ Tryz.prog j8 34 (zi YO 3) (Vs N):=vC fun x z h=>Kw N (x.1,x.2.2.1,x.2.2.2.1) N (x.2.1,x.2.2.2.2.1) z h
abbrev vg:=List (List UInt8)×Int
abbrev zH:=List UInt8×Int×Bool
def jj (f:vg) (y:zH):Ex×TSt:=(.exit 2,⟨0,36,[],[(6,.v 900000850 y.1.length),(25,.tv (.sl 1 .bl) f.1),(26,xi f.2),(27,xi y.2.1),(28,xb y.2.2)],[(900000850,.vec false 1 .bl (y.1:List UInt8))],false,[]⟩)
def Y6 (N:Nat):List (Nat×qO):=[]
abbrev ji:=List UInt8×Int
def JS:SP:=⟨0,36,[],[(6,.vs 900000850),(25,.x (.sl 1 .bl)),(26,.x (.i .i64)),(27,.x (.i .i64))],[(900000850,.vec false 1)],false,[]⟩
def YT (f:vg) (v:ji):TSt:=vw JS [dv .bl v.1,dv (.sl 1 .bl) f.1,dv (.i .i64) f.2,dv (.i .i64) v.2]
def j0 (N:Nat) (s25_11:List (List UInt8)) (s26_11:Int) (v:ji):Tree (ji⊕zH):=
 .cond (decide (v.2 < s26_11)) (
 .bind (zn s25_11 v.2) fun e1=>
 .chk (YV v.1.length v.1.length ((v.1++e1).length) 1) <|
 .chk (qv (v.2 + 1)) <|
 .ret (.inl (v.1++e1,v.2 + 1))) <|
 .ret (.inr (v.1,v.2,decide (v.2 < s26_11)))
def J6 (N n:Nat) (f:vg) (v:ji):Option zH:=zG (j0 N f.1 f.2) some n v
theorem YX (N:Nat) (f:vg) (n:Nat) (v:ji) (y:zH) (h:J6 N n f v=some y):LG Tryz.prog j8 34 (zi YO 11) (YT f v) (jj f y):=
 jP qA (E:=Z1 N) (L:=q0 (Y6 N)) (st:=jj f) (g:=some) (R:=jj f) (Q7 N) (qH (by kernel_rfl) trivial) (rg0 (by kernel_rfl)) (fun v=>by kernel_rfl) (zE (st:=jj f) fun y=>by rfl) n v y h
def jB (N:Nat) (s25_11:List (List UInt8)) (s26_11:Int) (o_11:List UInt8) (s27_11:Int):Option zH:=J6 N N (s25_11,s26_11) (o_11,s27_11)
def JX (N:Nat):qO:=smL JS [.bl,(.sl 1 .bl),(.i .i64),(.i .i64)] zH (fun x=>jB N x.2.1 x.2.2.1 x.1 x.2.2.2.1) cs1 fun x=>jj (x.2.1,x.2.2.1)
theorem Yj (N:Nat):Q_ Tryz.prog j8 34 (zi YO 11) (JX N):=vC fun x z h=>YX N (x.2.1,x.2.2.1) N (x.1,x.2.2.2.1) z h
def qb_ (z:List UInt8):TV×THp:=(.tv .bl z,[])
def ZL (N:Nat) (a0:List (List UInt8)):Tree (List UInt8):=
 .bind (Zq N a0 a0 ((a0.length:Nat):Int) 0 0) fun z1=>
 .bind (ZR z1.1) fun r2=>
 .sum r2 (fun r3=>
 .bind (Q1 [(([]:List UInt8).length,0)] (jB N a0 ((a0.length:Nat):Int) [] 0)) fun z4=>
 .chk (z4.1.length=z4.1.length) <|
 .ret z4.1) fun r3=>
 .bind (Q1 [(([]:List UInt8).length,0)] (jB N a0 ((a0.length:Nat):Int) [] 0)) fun z4=>
 .chk (z4.1.length=z4.1.length) <|
 .ret z4.1
def zg (N:Nat) (a0:List (List UInt8)):Option (List UInt8):=(ZL N a0).run some
def qcg (N:Nat):List (Nat×qO):=[(3,Vs N),(11,JX N)]
def ZY (N:Nat):Ent:=smF ⟨34,[],[.x (.sl 1 .bl)],[],[]⟩ [(.sl 1 .bl)] (List UInt8) (fun x=>zg N x.1) cs1 fun _=>qb_
theorem Xl (N:Nat):zo Tryz.prog (ZY N):=
 zy (H:=j8) (L:=q0 (qcg N)) (ts:=[(.sl 1 .bl)]) (T:=fun x=>ZL N x.1) 0 qtx (Q7 N) (qH (by kernel_rfl) ⟨Y7 N,Yj N,trivial⟩) (rg0 (by kernel_rfl)) fun x=>by kernel_rfl
noncomputable def qus:Code:=Tryz.f35.body.getD .skip
theorem qtm:FnF Tryz.prog 35 Tryz.f35 qus:=⟨qA,by kernel_rfl,by kernel_rfl,by kernel_rfl⟩
def qn7:TH:={ live:=[(0,[0]),(1,[2])],fresh:=[6] }
def qnD (N:Nat):List Ent:=[qbp N]
theorem qkO (N:Nat):q7 Tryz.prog (qnD N):=⟨qfD N,trivial⟩
def qnZ (z:List UInt8):TV×THp:=(.tv .bl z,[])
def qai (N:Nat) (a0:List UInt8):Tree (List UInt8):=
 let w1:Int:=IntKind.u64.wrap ((a0.length:Nat):Int)
 .bind (JA N w1) fun r2=>
 .chk (YV r2.1.length r2.2 ((r2.1++a0).length) 1) <|
 .chk ((r2.1++a0).length=(r2.1++a0).length) <|
 .ret (r2.1++a0)
def WQ (N:Nat) (a0:List UInt8):Option (List UInt8):=(qai N a0).run some
def qoz (N:Nat):List (Nat×qO):=[]
def qao (N:Nat):Ent:=smF ⟨35,[],[.x .s],[],[]⟩ [.s] (List UInt8) (fun x=>WQ N x.1) cs1 fun _=>qnZ
theorem qdn (N:Nat):zo Tryz.prog (qao N):=
 zy (H:=qn7) (L:=q0 (qoz N)) (ts:=[.s]) (T:=fun x=>qai N x.1) 0 qtm (qkO N) (qH (by kernel_rfl) trivial) (rg0 (by kernel_rfl)) fun x=>by kernel_rfl
def Y3:TH:={ live:=[(0,[0]),(1,[0,3]),(2,[0,3,4]),(3,[0,3,4,10,11]),(4,[0,3,4,10,11,12]),(5,[0,3,4,5,10,11]),(6,[0,3,4,10,11]),(7,[0,3,4,10,11]),(8,[4]),(9,[2])] }
def qc1 (N:Nat):List Ent:=[W5 N]
theorem qaK (N:Nat):q7 Tryz.prog (qc1 N):=⟨qaY N,trivial⟩
abbrev Jw:=Int×Int×Nat×Int
abbrev v_:=List UInt8×Int×Bool
def Q2 (f:Jw) (y:v_):Ex×TSt:=(.exit 0,⟨0,35,[],[(0,.tv (.i .u64) f.1),(3,xi f.2.1),(4,.v 90 f.2.2.1),(10,xi f.2.2.2),(11,xi y.2.1),(12,xb y.2.2)],[(90,.vec false 1 .bl (y.1:List UInt8))],false,[]⟩)
def qht (N:Nat):List (Nat×qO):=[]
abbrev QY:=List UInt8×Int
def KA:SP:=⟨0,35,[],[(0,.x (.i .u64)),(3,.x (.i .i64)),(4,.v 90),(10,.x (.i .i64)),(11,.x (.i .i64))],[(90,.vec false 1)],false,[]⟩
def qhO (f:Jw) (v:QY):TSt:=vw KA [dv .bl v.1,dv (.i .u64) f.1,dv (.i .i64) f.2.1,dv .nat f.2.2.1,dv (.i .i64) f.2.2.2,dv (.i .i64) v.2]
def qhi (N:Nat) (s0_4:Int) (s3_4:Int) (s4_4:Nat) (s10_4:Int) (v:QY):Tree (QY⊕v_):=
 .cond (decide (v.2 < s10_4)) (
 .chk (qv (s3_4 - 1)) <|
 .chk (qv ((s3_4 - 1) - v.2)) <|
 .chk (qv (((7:Int)) * v.2)) <|
 .chk (0≤(((7:Int)) * v.2)) <|
 let w1:Int:=Qf s0_4 (min (((7:Int)) * v.2).toNat 64)
 .chk (0≤((s3_4 - 1) - v.2)∧((s3_4 - 1) - v.2) < ((s4_4:Nat):Int)) <|
 .chk (XD v.1.length s4_4 (((s3_4 - 1) - v.2).toNat)) <|
 .chk (inB (uOr .u8 (IntKind.u8.wrap w1) 128)) <|
 .chk (qv (v.2 + 1)) <|
 .ret (.inl (v.1.set (((s3_4 - 1) - v.2).toNat) (UInt8.ofNat (uOr .u8 (IntKind.u8.wrap w1) 128).toNat),v.2 + 1))) <|
 .ret (.inr (v.1,v.2,decide (v.2 < s10_4)))
def KN (N n:Nat) (f:Jw) (v:QY):Option v_:=zG (qhi N f.1 f.2.1 f.2.2.1 f.2.2.2) some n v
theorem qho (N:Nat) (f:Jw) (n:Nat) (v:QY) (y:v_) (h:KN N n f v=some y):LG Tryz.prog Y3 84 (zi Ka 4) (qhO f v) (Q2 f y):=
 jP qA (E:=qc1 N) (L:=q0 (qht N)) (st:=Q2 f) (g:=some) (R:=Q2 f) (qaK N) (qH (by kernel_rfl) trivial) (rg0 (by kernel_rfl)) (fun v=>by kernel_rfl) (zE (st:=Q2 f) fun y=>by rfl) n v y h
def W9 (N:Nat) (s0_4:Int) (s3_4:Int) (s4_4:Nat) (s10_4:Int) (o_4:List UInt8) (s11_4:Int):Option v_:=KN N N (s0_4,s3_4,s4_4,s10_4) (o_4,s11_4)
def KT (N:Nat):qO:=smL KA [.bl,(.i .u64),(.i .i64),.nat,(.i .i64),(.i .i64)] v_ (fun x=>W9 N x.2.1 x.2.2.1 x.2.2.2.1 x.2.2.2.2.1 x.1 x.2.2.2.2.2.1) cs1 fun x=>Q2 (x.2.1,x.2.2.1,x.2.2.2.1,x.2.2.2.2.1)
theorem qgg (N:Nat):Q_ Tryz.prog Y3 84 (zi Ka 4) (KT N):=vC fun x z h=>qho N (x.2.1,x.2.2.1,x.2.2.2.1,x.2.2.2.2.1) N (x.1,x.2.2.2.2.2.1) z h
def qlZ (z:List UInt8):TV×THp:=(.tv .bl z,[])
def YN (N:Nat) (a0:Int):Tree (List UInt8):=
 .bind (VB N a0) fun r1=>
 .chk (Km r1 r1 1) <|
 .bind (W9 N a0 r1 (((List.replicate r1.toNat 0:List UInt8)).length) r1 ((List.replicate r1.toNat 0:List UInt8)) 0) fun z2=>
 .chk (qv (r1 - 1)) <|
 .chk (0≤(r1 - 1)∧(r1 - 1) < ((((List.replicate r1.toNat 0:List UInt8)).length:Nat):Int)) <|
 .bind (Y_ z2.1 (((List.replicate r1.toNat 0:List UInt8)).length) ((r1 - 1).toNat)) fun e3=>
 let w4:Int:=jy .u8 ((e3.toNat:Nat):Int) 128
 .chk (0≤(r1 - 1)∧(r1 - 1) < ((((List.replicate r1.toNat 0:List UInt8)).length:Nat):Int)) <|
 .chk (XD z2.1.length (((List.replicate r1.toNat 0:List UInt8)).length) ((r1 - 1).toNat)) <|
 .chk (inB w4) <|
 .chk ((z2.1.set ((r1 - 1).toNat) (UInt8.ofNat w4.toNat)).length=((List.replicate r1.toNat 0:List UInt8)).length) <|
 .ret (z2.1.set ((r1 - 1).toNat) (UInt8.ofNat w4.toNat))
def Qm (N:Nat) (a0:Int):Option (List UInt8):=(YN N a0).run some
def qmu (N:Nat):List (Nat×qO):=[(4,KT N)]
def qc2 (N:Nat):Ent:=smF ⟨84,[],[.x (.i .u64)],[],[]⟩ [(.i .u64)] (List UInt8) (fun x=>Qm N x.1) cs1 fun _=>qlZ
theorem qk2 (N:Nat):zo Tryz.prog (qc2 N):=
 zy (H:=Y3) (L:=q0 (qmu N)) (ts:=[(.i .u64)]) (T:=fun x=>YN N x.1) 0 qnf (qaK N) (qH (by kernel_rfl) ⟨qgg N,trivial⟩) (rg0 (by kernel_rfl)) fun x=>by kernel_rfl
noncomputable def qf0:Code:=Tryz.f36.body.getD .skip
theorem quE:FnF Tryz.prog 36 Tryz.f36 qf0:=⟨qA,by kernel_rfl,by kernel_rfl,by kernel_rfl⟩
def qac:TH:={ live:=[(0,[0]),(1,[0,9]),(2,[2,3]),(3,[0,4]),(4,[4,14,15,16]),(5,[4,14,15,16,17]),(6,[4,6,14,15,16]),(7,[4,6,14,15,16,21]),(8,[4,14,15,16]),(9,[4,14,15,16]),(10,[4,14,15,16]),(11,[2,3])] }
def qfF (N:Nat):List Ent:=[Wv N,qc2 N,ZY N,qao N]
theorem qcC (N:Nat):q7 Tryz.prog (qfF N):=⟨Kp N,qk2 N,Xl N,qdn N,trivial⟩
abbrev J8:=List qb×Int
abbrev Qt:=List UInt8×Int×Bool
def Zl (f:J8) (y:Qt):Ex×TSt:=(.exit 0,⟨0,43,[],[(4,.tv .bl (y.1:List UInt8)),(14,.tv (.sl 4 qu) f.1),(15,xi f.2),(16,xi y.2.1),(17,xb y.2.2)],[],false,[]⟩)
def qiN (N:Nat):List (Nat×qO):=[]
abbrev Zv:=List UInt8×Int
def qbg:SP:=⟨0,43,[],[(4,.x .bl),(14,.x (.sl 4 qu)),(15,.x (.i .i64)),(16,.x (.i .i64))],[],false,[]⟩
def qjp (f:J8) (v:Zv):TSt:=vw qbg [dv .bl v.1,dv (.sl 4 qu) f.1,dv (.i .i64) f.2,dv (.i .i64) v.2]
def Zy (N:Nat) (s14_5:List qb) (s15_5:Int) (v:Zv):Tree (Zv⊕Qt):=
 .cond (decide (v.2 < s15_5)) (
 .bind (zn s14_5 v.2) fun e1=>
 .cond (qb.JM e1) (
 .bind (Qm N (IntKind.u64.wrap (qb.jL e1))) fun r2=>
 .bind (Qm N (IntKind.u64.wrap (qb.Len e1))) fun r3=>
 .bind (zg N [v.1,[(UInt8.ofNat 1)],r2,r3]) fun r4=>
 .chk (qv (v.2 + 1)) <|
 .ret (.inl (r4,v.2 + 1))) <|
 .bind (WQ N (qb.Lit e1)) fun r2=>
 .bind (zg N [v.1,[(UInt8.ofNat 0)],r2]) fun r3=>
 .chk (qv (v.2 + 1)) <|
 .ret (.inl (r3,v.2 + 1))) <|
 .ret (.inr (v.1,v.2,decide (v.2 < s15_5)))
def qbh (N n:Nat) (f:J8) (v:Zv):Option Qt:=zG (Zy N f.1 f.2) some n v
theorem qi8 (N:Nat) (f:J8) (n:Nat) (v:Zv) (y:Qt) (h:qbh N n f v=some y):LG Tryz.prog qac 36 (zi qf0 5) (qjp f v) (Zl f y):=
 jP qA (E:=qfF N) (L:=q0 (qiN N)) (st:=Zl f) (g:=some) (R:=Zl f) (qcC N) (qH (by kernel_rfl) trivial) (rg0 (by kernel_rfl)) (fun v=>by kernel_rfl) (zE (st:=Zl f) fun y=>by rfl) n v y h
def Xt (N:Nat) (s14_5:List qb) (s15_5:Int) (s4_5:List UInt8) (s16_5:Int):Option Qt:=qbh N N (s14_5,s15_5) (s4_5,s16_5)
def qaN (N:Nat):qO:=smL qbg [.bl,(.sl 4 qu),(.i .i64),(.i .i64)] Qt (fun x=>Xt N x.2.1 x.2.2.1 x.1 x.2.2.2.1) cs1 fun x=>Zl (x.2.1,x.2.2.1)
theorem qh3 (N:Nat):Q_ Tryz.prog qac 36 (zi qf0 5) (qaN N):=vC fun x z h=>qi8 N (x.2.1,x.2.2.1) N (x.1,x.2.2.2.1) z h
def qn1 (z:List UInt8×Bool):TV×THp:=(.tup [.tv .bl (z.1:List UInt8),xb z.2],[])
def qaj (N:Nat) (a0:List qb):Tree (List UInt8×Bool):=
 .bind (Xk N a0) fun r1=>
 .cond (!r1) (
 .ret ([],false)) <|
 let w2:Int:=IntKind.u64.wrap ((a0.length:Nat):Int)
 .bind (Qm N w2) fun r3=>
 .bind (Xt N a0 ((a0.length:Nat):Int) r3 0) fun z4=>
 .ret (z4.1,true)
def W0 (N:Nat) (a0:List qb):Option (List UInt8×Bool):=(qaj N a0).run some
def qok (N:Nat):List (Nat×qO):=[(5,qaN N)]
def qfB (N:Nat):Ent:=smF ⟨36,[],[.x (.sl 4 qu)],[],[]⟩ [(.sl 4 qu)] (List UInt8×Bool) (fun x=>W0 N x.1) cs1 fun _=>qn1
theorem qlI (N:Nat):zo Tryz.prog (qfB N):=
 zy (H:=qac) (L:=q0 (qok N)) (ts:=[(.sl 4 qu)]) (T:=fun x=>qaj N x.1) 0 quE (qcC N) (qH (by kernel_rfl) ⟨qh3 N,trivial⟩) (rg0 (by kernel_rfl)) fun x=>by kernel_rfl
noncomputable def qtp:Code:=Tryz.f13.body.getD .skip
theorem qtV:FnF Tryz.prog 13 Tryz.f13 qtp:=⟨qA,by kernel_rfl,by kernel_rfl,by kernel_rfl⟩
def qt2:TH:={ live:=[(0,[1]),(1,[1,12]),(2,[2,3]),(3,[1,4]),(4,[1,6]),(5,[1,6,7]),(6,[1,6,7,32]),(7,[1,6,7,32,33]),(8,[6]),(9,[1,6,7,32,43]),(10,[6]),(11,[1,6,7,58]),(12,[1,6,7,8]),(13,[6]),(14,[2,3])],rd:=[(0,[1])] }
def qs0 (N:Nat):List Ent:=[qgK N,qfl N,ZY N,qao N,qfB N]
theorem qpC (N:Nat):q7 Tryz.prog (qs0 N):=⟨qjN N,qlV N,Xl N,qdn N,qlI N,trivial⟩
def qtX (z:List UInt8×Bool):TV×THp:=(.tup [.tv .bl (z.1:List UInt8),xb z.2],[])
def qgD (N:Nat) (a0:qa):Tree (List UInt8×Bool):=
 .bind (ZA N a0) fun r1=>
 .cond (!r1) (
 .ret ([],false)) <|
 .bind (WX N (qa.S a0)) fun r2=>
 .chk (inB (IntKind.u8.wrap (qa.Kind a0))) <|
 .bind (zg N [[UInt8.ofNat (IntKind.u8.wrap (qa.Kind a0)).toNat],(qa.ID a0).toList,r2.1]) fun r3=>
 .cond (decide ((qa.Kind a0)=((1:Int)))) (
 .chk (inB (IntKind.u8.wrap (qa.No a0))) <|
 .bind (WQ N (qa.V a0)) fun r4=>
 .bind (zg N [r3,[UInt8.ofNat (IntKind.u8.wrap (qa.No a0)).toNat],r4]) fun r5=>
 .ret (r5,true)) <|
 .cond (decide ((qa.Kind a0)=((2:Int)))) (
 .chk (inB (IntKind.u8.wrap (qa.No a0))) <|
 .chk (inB (IntKind.u8.wrap (qa.je a0))) <|
 .bind (zg N [r3,[UInt8.ofNat (IntKind.u8.wrap (qa.No a0)).toNat],(qa.jL a0).toList,[UInt8.ofNat (IntKind.u8.wrap (qa.je a0)).toNat],(qa.D a0).toList]) fun r4=>
 .ret (r4,true)) <|
 .cond (decide ((qa.Kind a0)=((3:Int)))) (
 .bind (W0 N (qa.P a0)) fun r4=>
 .chk (inB (IntKind.u8.wrap (qa.No a0))) <|
 .bind (zg N [r3,[UInt8.ofNat (IntKind.u8.wrap (qa.No a0)).toNat],r4.1,(qa.D a0).toList]) fun r5=>
 .ret (r5,true)) <|
 .ret (r3,true)
def qhy (N:Nat) (a0:qa):Option (List UInt8×Bool):=(qgD N a0).run some
def qtk (N:Nat):List (Nat×qO):=[]
def qnl (N:Nat):Ent:=smF ⟨13,[],[.x q_],[],[]⟩ [q_] (List UInt8×Bool) (fun x=>qhy N x.1) cs1 fun _=>qtX
theorem qrl (N:Nat):zo Tryz.prog (qnl N):=
 zy (H:=qt2) (L:=q0 (qtk N)) (ts:=[q_]) (T:=fun x=>qgD N x.1) 0 qtV (qpC N) (qH (by kernel_rfl) trivial) (rg0 (by kernel_rfl)) fun x=>by kernel_rfl
noncomputable def qtG:Code:=Tryz.f45.body.getD .skip
theorem qsR:FnF Tryz.prog 45 Tryz.f45 qtG:=⟨qA,by kernel_rfl,by kernel_rfl,by kernel_rfl⟩
def qgn:TH:={ live:=[(0,[0,1,2]),(1,[0,1]),(2,[0,1,31]),(3,[6]),(4,[0,1,7]),(5,[7]),(6,[6])],dec:=[13,17] }
def qgj (N:Nat):List Ent:=[]
theorem qdP (N:Nat):q7 Tryz.prog (qgj N):=trivial
def qgp (z:qe×List UInt8):TV×THp:=(.tv .bl (z.2:List UInt8),[(180,.cell false (.tv zm (z.1:qe)))])
def V0 (a0:qe) (a1:Int) (a2:Bool):Tree (qe×List UInt8):=
 .cond (qe.bad a0) (
 .cond true (
 .chk (Km a1 a1 1) <|
 .chk (((List.replicate a1.toNat 0:List UInt8)).length=((List.replicate a1.toNat 0:List UInt8)).length) <|
 .ret (qe.mk (qe.b a0) true,(List.replicate a1.toNat 0:List UInt8))) <|
 .chk (0≤(0:Int)∧(0:Int)≤a1∧a1≤(((qe.b a0).length:Nat):Int)) <|
 .chk (0≤a1∧a1≤(((qe.b a0).length:Nat):Int)) <|
 .ret (qe.mk ((qe.b a0).drop a1.toNat) true,((qe.b a0).take a1.toNat).drop 0)) <|
 .cond (!a2) (
 .cond true (
 .chk (Km a1 a1 1) <|
 .chk (((List.replicate a1.toNat 0:List UInt8)).length=((List.replicate a1.toNat 0:List UInt8)).length) <|
 .ret (qe.mk (qe.b a0) true,(List.replicate a1.toNat 0:List UInt8))) <|
 .chk (0≤(0:Int)∧(0:Int)≤a1∧a1≤(((qe.b a0).length:Nat):Int)) <|
 .chk (0≤a1∧a1≤(((qe.b a0).length:Nat):Int)) <|
 .ret (qe.mk ((qe.b a0).drop a1.toNat) true,((qe.b a0).take a1.toNat).drop 0)) <|
 .cond (decide ((((qe.b a0).length:Nat):Int) < a1)) (
 .chk (Km a1 a1 1) <|
 .chk (((List.replicate a1.toNat 0:List UInt8)).length=((List.replicate a1.toNat 0:List UInt8)).length) <|
 .ret (qe.mk (qe.b a0) (decide ((((qe.b a0).length:Nat):Int) < a1)),(List.replicate a1.toNat 0:List UInt8))) <|
 .chk (0≤(0:Int)∧(0:Int)≤a1∧a1≤(((qe.b a0).length:Nat):Int)) <|
 .chk (0≤a1∧a1≤(((qe.b a0).length:Nat):Int)) <|
 .ret (qe.mk ((qe.b a0).drop a1.toNat) (decide ((((qe.b a0).length:Nat):Int) < a1)),((qe.b a0).take a1.toNat).drop 0)
def zC (a0:qe) (a1:Int) (a2:Bool):Option (qe×List UInt8):=(V0 a0 a1 a2).run some
def qf5:List (Nat×qO):=[]
def QF:Ent:=smF ⟨45,[],[.k (.p 180 [] 0),.x (.i .i64),.x .b],[],[(180,.cell false (.x zm))]⟩ [zm,(.i .i64),.b] (qe×List UInt8) (fun x=>zC x.1 x.2.1 x.2.2.1) cs1 fun _=>qgp
theorem Zf:zo Tryz.prog (QF):=
 zy (H:=qgn) (L:=q0 (qf5)) (ts:=[zm,(.i .i64),.b]) (T:=fun x=>V0 x.1 x.2.1 x.2.2.1) 0 qsR (qdP 0) (qH (by kernel_rfl) trivial) (rg0 (by kernel_rfl)) fun x=>by kernel_rfl
noncomputable def qup:Code:=Tryz.f42.body.getD .skip
theorem quF:FnF Tryz.prog 42 Tryz.f42 qup:=⟨qA,by kernel_rfl,by kernel_rfl,by kernel_rfl⟩
def qie:TH:={ live:=[(0,[0]),(1,[2])] }
def qia (N:Nat):List Ent:=[QF]
theorem qeX (N:Nat):q7 Tryz.prog (qia N):=⟨Zf,trivial⟩
def qhN (z:qe×Int):TV×THp:=(xi z.2,[(180,.cell false (.tv zm (z.1:qe)))])
def XZ (a0:qe):Tree (qe×Int):=
 .bind (zC a0 1 true) fun r1=>
 .bind (zn r1.2 0) fun e2=>
 .chk (qv ((e2.toNat:Nat):Int)) <|
 .ret (r1.1,((e2.toNat:Nat):Int))
def Qc (a0:qe):Option (qe×Int):=(XZ a0).run some
def qhB:List (Nat×qO):=[]
def K1:Ent:=smF ⟨42,[],[.k (.p 180 [] 0)],[],[(180,.cell false (.x zm))]⟩ [zm] (qe×Int) (fun x=>Qc x.1) cs1 fun _=>qhN
theorem qgA:zo Tryz.prog (K1):=
 zy (H:=qie) (L:=q0 (qhB)) (ts:=[zm]) (T:=fun x=>XZ x.1) 0 quF (qeX 0) (qH (by kernel_rfl) trivial) (rg0 (by kernel_rfl)) fun x=>by kernel_rfl
noncomputable def qsW:Code:=Tryz.f43.body.getD .skip
theorem qug:FnF Tryz.prog 43 Tryz.f43 qsW:=⟨qA,by kernel_rfl,by kernel_rfl,by kernel_rfl⟩
def qi1:TH:={ live:=[(0,[0,2]),(1,[2])] }
def qiD (N:Nat):List Ent:=[QF]
theorem qgM (N:Nat):q7 Tryz.prog (qiD N):=⟨Zf,trivial⟩
def qiY (z:qe×Vector UInt8 16):TV×THp:=(.tv (.ba 16) (z.2:Vector UInt8 16),[(180,.cell false (.tv zm (z.1:qe)))])
def Wa (a0:qe):Tree (qe×Vector UInt8 16):=
 .bind (zC a0 16 true) fun r1=>
 .chk (16≤r1.2.length∧16≠0) <|
 .ret (r1.1,Z2 16 r1.2)
def Zu (a0:qe):Option (qe×Vector UInt8 16):=(Wa a0).run some
def qiQ:List (Nat×qO):=[]
def qbj:Ent:=smF ⟨43,[],[.k (.p 180 [] 0)],[],[(180,.cell false (.x zm))]⟩ [zm] (qe×Vector UInt8 16) (fun x=>Zu x.1) cs1 fun _=>qiY
theorem qhR:zo Tryz.prog (qbj):=
 zy (H:=qi1) (L:=q0 (qiQ)) (ts:=[zm]) (T:=fun x=>Wa x.1) 0 qug (qgM 0) (qH (by kernel_rfl) trivial) (rg0 (by kernel_rfl)) fun x=>by kernel_rfl
noncomputable def qgF:Code:=Tryz.f87.body.getD .skip
theorem qud:FnF Tryz.prog 87 Tryz.f87 qgF:=⟨qA,by kernel_rfl,by kernel_rfl,by kernel_rfl⟩
def qbP:TH:={ live:=[(0,[0]),(1,[0,5]),(2,[0,5,6]),(3,[5,6,9,10,11]),(4,[5,6,9,10,11,12]),(5,[5,6,7,8,9,10,11]),(6,[5,6,7,8,9,10,11,16]),(7,[5,6,7,8,9,10,11,16]),(8,[5,6,7,8,9,10,11,16]),(9,[5,6,7,8,9,10,11]),(10,[5,6,7,9,10,11,39]),(11,[5,6]),(12,[5,6,9,10,11]),(13,[5,6,44]),(14,[2,3,4]),(15,[2,3,4])],dec:=[21,28] }
def qib (N:Nat):List Ent:=[]
theorem qdi (N:Nat):q7 Tryz.prog (qib N):=trivial
abbrev VM:=List UInt8×Int
abbrev vn:=(Int×Int×Int×Int×Bool)⊕(Int×Int×Bool)⊕(Int×Int)
def Jf (f:VM):vn→Ex×TSt
 | .inl y=>(.exit 0,⟨0,47,[],[(5,.tv (.i .u64) (y.1:Int)),(6,.ic .i64 0),(7,xi y.2.1),(8,.tv (.i .u8) (y.2.2.1:Int)),(9,.tv .bl f.1),(10,xi f.2),(11,xi y.2.2.2.1),(16,xb y.2.2.2.2)],[],false,[]⟩)
 | .inr (.inl y)=>(.exit 0,⟨0,47,[],[(5,.tv (.i .u64) (y.1:Int)),(6,.ic .i64 0),(9,.tv .bl f.1),(10,xi f.2),(11,xi y.2.1),(12,xb y.2.2)],[],false,[]⟩)
 | .inr (.inr y)=>(.exit 0,⟨0,47,[],[(5,.tv (.i .u64) (y.1:Int)),(6,xi y.2)],[],false,[]⟩)
def qkL (N:Nat):List (Nat×qO):=[]
abbrev QO:=Int×Int
def qcm:SP:=⟨0,47,[],[(5,.x (.i .u64)),(6,.k (.ic .i64 0)),(9,.x .bl),(10,.x (.i .i64)),(11,.x (.i .i64))],[],false,[]⟩
def qky (f:VM) (v:QO):TSt:=vw qcm [dv (.i .u64) v.1,dv .bl f.1,dv (.i .i64) f.2,dv (.i .i64) v.2]
def vm (N:Nat) (s9_4:List UInt8) (s10_4:Int) (v:QO):Tree (QO⊕vn):=
 .cond (decide (v.2 < s10_4)) (
 .bind (zn s9_4 v.2) fun e1=>
 .cond (decide (v.2=((10:Int)))) (
 .cond (decide (v.2=((10:Int)))) (
 .ret (.inr (.inl (v.1,v.2,((e1.toNat:Nat):Int),v.2,decide (v.2=((10:Int))))))) <|
 .chk (0≤(7:Int)) <|
 let w2:Int:=jy .u8 ((e1.toNat:Nat):Int) 128
 let w3:Int:=uOr .u64 (Jr .u64 v.1 7) (IntKind.u64.wrap w2)
 .cond (decide (((e1.toNat:Nat):Int) < ((128:Int)))) (
 .chk (qv (v.2 + 1)) <|
 .ret (.inr (.inr (.inr ((w3,v.2 + 1)))))) <|
 .chk (qv (v.2 + 1)) <|
 .ret (.inl (w3,v.2 + 1))) <|
 .cond (decide (v.2=((9:Int)))) (
 .chk (0≤(57:Int)) <|
 .cond (decide (0 < (Qf v.1 57))) (
 .cond (decide (0 < (Qf v.1 57))) (
 .ret (.inr (.inl (v.1,v.2,((e1.toNat:Nat):Int),v.2,decide (0 < (Qf v.1 57)))))) <|
 .chk (0≤(7:Int)) <|
 let w2:Int:=jy .u8 ((e1.toNat:Nat):Int) 128
 let w3:Int:=uOr .u64 (Jr .u64 v.1 7) (IntKind.u64.wrap w2)
 .cond (decide (((e1.toNat:Nat):Int) < ((128:Int)))) (
 .chk (qv (v.2 + 1)) <|
 .ret (.inr (.inr (.inr ((w3,v.2 + 1)))))) <|
 .chk (qv (v.2 + 1)) <|
 .ret (.inl (w3,v.2 + 1))) <|
 .cond (decide (v.2=((0:Int)))) (
 .cond (decide (((e1.toNat:Nat):Int)=((128:Int)))) (
 .ret (.inr (.inl (v.1,v.2,((e1.toNat:Nat):Int),v.2,decide (((e1.toNat:Nat):Int)=((128:Int))))))) <|
 .chk (0≤(7:Int)) <|
 let w2:Int:=jy .u8 ((e1.toNat:Nat):Int) 128
 let w3:Int:=uOr .u64 (Jr .u64 v.1 7) (IntKind.u64.wrap w2)
 .cond (decide (((e1.toNat:Nat):Int) < ((128:Int)))) (
 .chk (qv (v.2 + 1)) <|
 .ret (.inr (.inr (.inr ((w3,v.2 + 1)))))) <|
 .chk (qv (v.2 + 1)) <|
 .ret (.inl (w3,v.2 + 1))) <|
 .chk (0≤(7:Int)) <|
 let w2:Int:=jy .u8 ((e1.toNat:Nat):Int) 128
 let w3:Int:=uOr .u64 (Jr .u64 v.1 7) (IntKind.u64.wrap w2)
 .cond (decide (((e1.toNat:Nat):Int) < ((128:Int)))) (
 .chk (qv (v.2 + 1)) <|
 .ret (.inr (.inr (.inr ((w3,v.2 + 1)))))) <|
 .chk (qv (v.2 + 1)) <|
 .ret (.inl (w3,v.2 + 1))) <|
 .cond (decide (v.2=((0:Int)))) (
 .cond (decide (((e1.toNat:Nat):Int)=((128:Int)))) (
 .ret (.inr (.inl (v.1,v.2,((e1.toNat:Nat):Int),v.2,decide (((e1.toNat:Nat):Int)=((128:Int))))))) <|
 .chk (0≤(7:Int)) <|
 let w2:Int:=jy .u8 ((e1.toNat:Nat):Int) 128
 let w3:Int:=uOr .u64 (Jr .u64 v.1 7) (IntKind.u64.wrap w2)
 .cond (decide (((e1.toNat:Nat):Int) < ((128:Int)))) (
 .chk (qv (v.2 + 1)) <|
 .ret (.inr (.inr (.inr ((w3,v.2 + 1)))))) <|
 .chk (qv (v.2 + 1)) <|
 .ret (.inl (w3,v.2 + 1))) <|
 .chk (0≤(7:Int)) <|
 let w2:Int:=jy .u8 ((e1.toNat:Nat):Int) 128
 let w3:Int:=uOr .u64 (Jr .u64 v.1 7) (IntKind.u64.wrap w2)
 .cond (decide (((e1.toNat:Nat):Int) < ((128:Int)))) (
 .chk (qv (v.2 + 1)) <|
 .ret (.inr (.inr (.inr ((w3,v.2 + 1)))))) <|
 .chk (qv (v.2 + 1)) <|
 .ret (.inl (w3,v.2 + 1))) <|
 .ret (.inr (.inr (.inl (v.1,v.2,decide (v.2 < s10_4)))))
def qcD (N n:Nat) (f:VM) (v:QO):Option vn:=zG (vm N f.1 f.2) some n v
theorem qk7 (N:Nat) (f:VM) (n:Nat) (v:QO) (y:vn) (h:qcD N n f v=some y):LG Tryz.prog qbP 87 (zi qgF 4) (qky f v) (Jf f y):=
 jP qA (E:=qib N) (L:=q0 (qkL N)) (st:=Jf f) (g:=some) (R:=Jf f) (qdi N) (qH (by kernel_rfl) trivial) (rg0 (by kernel_rfl)) (fun v=>by kernel_rfl) (zE (st:=Jf f) fun y=>by rcases y with _ | _ | _<;>rfl) n v y h
def qaD (N:Nat) (s9_4:List UInt8) (s10_4:Int) (s5_4:Int) (s11_4:Int):Option vn:=qcD N N (s9_4,s10_4) (s5_4,s11_4)
def qcF (N:Nat):qO:=smL qcm [(.i .u64),.bl,(.i .i64),(.i .i64)] vn (fun x=>qaD N x.2.1 x.2.2.1 x.1 x.2.2.2.1) (csS (csS cs1)) fun x=>Jf (x.2.1,x.2.2.1)
theorem qjk (N:Nat):Q_ Tryz.prog qbP 87 (zi qgF 4) (qcF N):=vC fun x z h=>qk7 N (x.2.1,x.2.2.1) N (x.1,x.2.2.2.1) z h
def qpX (z:Int×Int×Bool):TV×THp:=(.tup [.tv (.i .u64) (z.1:Int),xi z.2.1,xb z.2.2],[])
def qbM (N:Nat) (a0:List UInt8):Tree (Int×Int×Bool):=
 .bind (qaD N a0 ((a0.length:Nat):Int) 0 0) fun z1=>
 .sum z1 (fun z2=>
 .ret (0,0,false)) fun z2=>
 .sum z2 (fun z3=>
 .ret (0,0,false)) fun z3=>
 .cond (decide (z3.2=0)) (
 .ret (0,0,false)) <|
 .ret (z3.1,z3.2,true)
def JT (N:Nat) (a0:List UInt8):Option (Int×Int×Bool):=(qbM N a0).run some
def qpJ (N:Nat):List (Nat×qO):=[(4,qcF N)]
def XF (N:Nat):Ent:=smF ⟨87,[],[.x .bl],[],[]⟩ [.bl] (Int×Int×Bool) (fun x=>JT N x.1) cs1 fun _=>qpX
theorem Wy (N:Nat):zo Tryz.prog (XF N):=
 zy (H:=qbP) (L:=q0 (qpJ N)) (ts:=[.bl]) (T:=fun x=>qbM N x.1) 0 qud (qdi N) (qH (by kernel_rfl) ⟨qjk N,trivial⟩) (rg0 (by kernel_rfl)) fun x=>by kernel_rfl
noncomputable def quq:Code:=Tryz.f44.body.getD .skip
theorem qt0:FnF Tryz.prog 44 Tryz.f44 quq:=⟨qA,by kernel_rfl,by kernel_rfl,by kernel_rfl⟩
def qnW:TH:={ live:=[(0,[0,2]),(1,[2,5,6,7]),(2,[2,6,7,8]),(3,[2,6,8,28]),(4,[2,3,4]),(5,[2,3,4])],dec:=[24] }
def qnP (N:Nat):List Ent:=[XF N,Wp]
theorem qkT (N:Nat):q7 Tryz.prog (qnP N):=⟨Wy N,YJ,trivial⟩
def qn4 (z:qi×Int×Bool):TV×THp:=(.tup [.tv zF (z.1:qi),xi z.2.1,xb z.2.2],[])
def qah (N:Nat) (a0:List UInt8):Tree (qi×Int×Bool):=
 .bind (JT N a0) fun r1=>
 .chk (0≤(3:Int)) <|
 .chk (qv (Qf r1.1 3)) <|
 .chk (qv (V9 .u64 r1.1 7)) <|
 .cond (!r1.2.2) (
 .ret (qi.mk 0 0,0,false)) <|
 .bind (JV (qi.mk (Qf r1.1 3) (V9 .u64 r1.1 7))) fun r2=>
 .cond (!r2) (
 .ret (qi.mk 0 0,0,false)) <|
 .ret (qi.mk (Qf r1.1 3) (V9 .u64 r1.1 7),r1.2.1,true)
def KP (N:Nat) (a0:List UInt8):Option (qi×Int×Bool):=(qah N a0).run some
def qnV (N:Nat):List (Nat×qO):=[]
def qfm (N:Nat):Ent:=smF ⟨44,[],[.x .bl],[],[]⟩ [.bl] (qi×Int×Bool) (fun x=>KP N x.1) cs1 fun _=>qn4
theorem qmK (N:Nat):zo Tryz.prog (qfm N):=
 zy (H:=qnW) (L:=q0 (qnV N)) (ts:=[.bl]) (T:=fun x=>qah N x.1) 0 qt0 (qkT N) (qH (by kernel_rfl) trivial) (rg0 (by kernel_rfl)) fun x=>by kernel_rfl
noncomputable def qui:Code:=Tryz.f46.body.getD .skip
theorem qtf:FnF Tryz.prog 46 Tryz.f46 qui:=⟨qA,by kernel_rfl,by kernel_rfl,by kernel_rfl⟩
def qoH:TH:={ live:=[(0,[0,1]),(1,[0,1,7,8,9]),(2,[1,7,8,9,10]),(3,[7,8,10,33]),(4,[4,5,6]),(5,[4,5,6])],dec:=[21,25] }
def qou (N:Nat):List Ent:=[XF N]
theorem qkH (N:Nat):q7 Tryz.prog (qou N):=⟨Wy N,trivial⟩
def qnQ (z:List UInt8×Int×Bool):TV×THp:=(.tup [.tv .s (z.1:List UInt8),xi z.2.1,xb z.2.2],[])
def K8 (N:Nat) (a0:List UInt8) (a1:Int):Tree (List UInt8×Int×Bool):=
 .bind (JT N a0) fun r1=>
 .chk (0≤r1.2.1∧r1.2.1≤((a0.length:Nat):Int)) <|
 .cond r1.2.2 (
 .cond (decide (((0:Int))≤a1)) (
 let w2:Int:=IntKind.u64.wrap ((if (((a0.drop r1.2.1.toNat).length:Nat):Int) < a1 then (((a0.drop r1.2.1.toNat).length:Nat):Int) else a1))
 .cond (decide (r1.1≤w2)) (
 .chk (qv r1.1) <|
 .chk (0≤(0:Int)∧(0:Int)≤r1.1∧r1.1≤(((a0.drop r1.2.1.toNat).length:Nat):Int)) <|
 .chk (qv r1.1) <|
 .chk (qv (r1.2.1 + r1.1)) <|
 .ret (((a0.drop r1.2.1.toNat).take r1.1.toNat).drop 0,r1.2.1 + r1.1,true)) <|
 .ret ([],0,false)) <|
 .ret ([],0,false)) <|
 .ret ([],0,false)
def Xa (N:Nat) (a0:List UInt8) (a1:Int):Option (List UInt8×Int×Bool):=(K8 N a0 a1).run some
def qoE (N:Nat):List (Nat×qO):=[]
def qaf (N:Nat):Ent:=smF ⟨46,[],[.x .bl,.x (.i .i64)],[],[]⟩ [.bl,(.i .i64)] (List UInt8×Int×Bool) (fun x=>Xa N x.1 x.2.1) cs1 fun _=>qnQ
theorem qc5 (N:Nat):zo Tryz.prog (qaf N):=
 zy (H:=qoH) (L:=q0 (qoE N)) (ts:=[.bl,(.i .i64)]) (T:=fun x=>K8 N x.1 x.2.1) 0 qtf (qkH N) (qH (by kernel_rfl) trivial) (rg0 (by kernel_rfl)) fun x=>by kernel_rfl
noncomputable def qt6:Code:=Tryz.f47.body.getD .skip
theorem qt1:FnF Tryz.prog 47 Tryz.f47 qt6:=⟨qA,by kernel_rfl,by kernel_rfl,by kernel_rfl⟩
def qdq:TH:={ live:=[(0,[0,2]),(1,[2])] }
def qdh (N:Nat):List Ent:=[QF]
theorem qb6 (N:Nat):q7 Tryz.prog (qdh N):=⟨Zf,trivial⟩
def qeb (z:qe×Vector UInt8 32):TV×THp:=(.tv (.ba 32) (z.2:Vector UInt8 32),[(180,.cell false (.tv zm (z.1:qe)))])
def JP (a0:qe):Tree (qe×Vector UInt8 32):=
 .bind (zC a0 32 true) fun r1=>
 .chk (32≤r1.2.length∧32≠0) <|
 .ret (r1.1,Z2 32 r1.2)
def jK (a0:qe):Option (qe×Vector UInt8 32):=(JP a0).run some
def qdj:List (Nat×qO):=[]
def WU:Ent:=smF ⟨47,[],[.k (.p 180 [] 0)],[],[(180,.cell false (.x zm))]⟩ [zm] (qe×Vector UInt8 32) (fun x=>jK x.1) cs1 fun _=>qeb
theorem qcU:zo Tryz.prog (WU):=
 zy (H:=qdq) (L:=q0 (qdj)) (ts:=[zm]) (T:=fun x=>JP x.1) 0 qt1 (qb6 0) (qH (by kernel_rfl) trivial) (rg0 (by kernel_rfl)) fun x=>by kernel_rfl
noncomputable def qtg:Code:=Tryz.f88.body.getD .skip
theorem qsO:FnF Tryz.prog 88 Tryz.f88 qtg:=⟨qA,by kernel_rfl,by kernel_rfl,by kernel_rfl⟩
def qk3:TH:={ live:=[(0,[0,2]),(1,[0,2,5]),(2,[0,2,5,15]),(3,[2,3,4]),(4,[0,2,5,26]),(5,[2,6,7,8]),(6,[2,3,4]),(7,[0,2,5,9,10,11]),(8,[2,5,9,10,11,12,13,14]),(9,[2,5,9,10,12,13,72]),(10,[2,3,4]),(11,[2,3,4])],dec:=[19,61,65,69] }
def qkm (N:Nat):List Ent:=[qaf N,XF N]
theorem qgS (N:Nat):q7 Tryz.prog (qkm N):=⟨qc5 N,Wy N,trivial⟩
def qk4 (z:qb×Int×Bool):TV×THp:=(.tup [.tv qu (z.1:qb),xi z.2.1,xb z.2.2],[])
def Yb (N:Nat) (a0:List UInt8):Tree (qb×Int×Bool):=
 .cond (decide (((a0.length:Nat):Int)=((0:Int)))) (
 .ret (qb.mk false 0 0 [],0,false)) <|
 .bind (zn a0 0) fun e1=>
 .cond (decide (((1:Int)) < ((e1.toNat:Nat):Int))) (
 .ret (qb.mk false 0 0 [],0,false)) <|
 .bind (zn a0 0) fun e2=>
 .cond (decide (((e2.toNat:Nat):Int)=((0:Int)))) (
 .chk (0≤(1:Int)∧(1:Int)≤((a0.length:Nat):Int)) <|
 .bind (Xa N (a0.drop 1) 200) fun r3=>
 .chk (qv (r3.2.1 + 1)) <|
 .ret (qb.mk false 0 0 r3.1,r3.2.1 + 1,r3.2.2)) <|
 .chk (0≤(1:Int)∧(1:Int)≤((a0.length:Nat):Int)) <|
 .bind (JT N (a0.drop 1)) fun r3=>
 .chk (qv (((1:Int)) + r3.2.1)) <|
 .chk (0≤(((1:Int)) + r3.2.1)∧(((1:Int)) + r3.2.1)≤((a0.length:Nat):Int)) <|
 .bind (JT N (a0.drop ((((1:Int)) + r3.2.1).toNat))) fun r4=>
 .cond (!r3.2.2) (
 .ret (qb.mk false 0 0 [],0,false)) <|
 .cond (!r4.2.2) (
 .ret (qb.mk false 0 0 [],0,false)) <|
 .cond (decide (200 < r3.1)) (
 .ret (qb.mk false 0 0 [],0,false)) <|
 .cond (decide (200 < r4.1)) (
 .ret (qb.mk false 0 0 [],0,false)) <|
 .chk (qv r3.1) <|
 .chk (qv r4.1) <|
 .chk (qv (((1:Int)) + r3.2.1)) <|
 .chk (qv ((((1:Int)) + r3.2.1) + r4.2.1)) <|
 .ret (qb.mk true r3.1 r4.1 [],(((1:Int)) + r3.2.1) + r4.2.1,true)
def VG (N:Nat) (a0:List UInt8):Option (qb×Int×Bool):=(Yb N a0).run some
def qks (N:Nat):List (Nat×qO):=[]
def qcK (N:Nat):Ent:=smF ⟨88,[],[.x .bl],[],[]⟩ [.bl] (qb×Int×Bool) (fun x=>VG N x.1) cs1 fun _=>qk4
theorem qjj (N:Nat):zo Tryz.prog (qcK N):=
 zy (H:=qk3) (L:=q0 (qks N)) (ts:=[.bl]) (T:=fun x=>Yb N x.1) 0 qsO (qgS N) (qH (by kernel_rfl) trivial) (rg0 (by kernel_rfl)) fun x=>by kernel_rfl
noncomputable def qgf:Code:=Tryz.f48.body.getD .skip
theorem quG:FnF Tryz.prog 48 Tryz.f48 qgf:=⟨qA,by kernel_rfl,by kernel_rfl,by kernel_rfl⟩
def K5:TH:={ live:=[(0,[0]),(1,[0,5,6,7]),(2,[0,5,6,23]),(3,[2,3,4]),(4,[0,5,6,8]),(5,[0,6,8,24,25]),(6,[0,6,8,24,25,26]),(7,[0,6,8,9,10,11,24,25]),(8,[0,6,8,9,10,24,25,36]),(9,[2,3,4]),(10,[0,6,8,10,24,25]),(11,[0,6,8,24,25]),(12,[0,6,8,24,25]),(13,[6,8,47]),(14,[2,3,4]),(15,[2,3,4])],dec:=[20],nil:=[(4,[⟨.sl 8,85,(.sl 4 qu)⟩])] }
def qfb (N:Nat):List Ent:=[XF N,qcK N,Wv N]
theorem qcB (N:Nat):q7 Tryz.prog (qfb N):=⟨Wy N,qjj N,Kp N,trivial⟩
abbrev Vh:=List UInt8×Int
abbrev vG:=Unit⊕(List qb×Int×Int×Bool)
def Zo (f:Vh):vG→Ex×TSt
 | .inl y=>(.ret,⟨0,50,[],[(2,.nils),(3,.ic .i64 0),(4,.bc false)],[],false,[]⟩)
 | .inr y=>(.exit 0,⟨0,50,[],[(0,.tv .bl f.1),(6,xi y.2.1),(8,.v 85 y.1.length),(24,.tv (.i .u64) f.2),(25,.tv (.i .u64) (y.2.2.1:Int)),(26,xb y.2.2.2)],[(85,.vec false 4 (.sl 4 qu) (y.1:List qb))],false,[]⟩)
def qiS (N:Nat):List (Nat×qO):=[]
abbrev Zw:=List qb×Int×Int
def qaO:SP:=⟨0,50,[],[(0,.x .bl),(6,.x (.i .i64)),(8,.vs 85),(24,.x (.i .u64)),(25,.x (.i .u64))],[(85,.vec false 4)],false,[]⟩
def qi0 (f:Vh) (v:Zw):TSt:=vw qaO [dv (.sl 4 qu) v.1,dv .bl f.1,dv (.i .i64) v.2.1,dv (.i .u64) f.2,dv (.i .u64) v.2.2]
def ZB (N:Nat) (s0_6:List UInt8) (s24_6:Int) (v:Zw):Tree (Zw⊕vG):=
 .cond (decide (v.2.2 < s24_6)) (
 .chk (0≤v.2.1∧v.2.1≤((s0_6.length:Nat):Int)) <|
 .bind (VG N (s0_6.drop v.2.1.toNat)) fun r1=>
 .cond (!r1.2.2) (
 .ret (.inr (.inl ()))) <|
 .chk (YV v.1.length v.1.length ((v.1++[r1.1]).length) 40) <|
 .chk (qv (v.2.1 + r1.2.1)) <|
 .ret (.inl (v.1++[r1.1],v.2.1 + r1.2.1,Vx .u64 v.2.2 1))) <|
 .ret (.inr (.inr ((v.1,v.2.1,v.2.2,decide (v.2.2 < s24_6)))))
def qaV (N n:Nat) (f:Vh) (v:Zw):Option vG:=zG (ZB N f.1 f.2) some n v
theorem qjc (N:Nat) (f:Vh) (n:Nat) (v:Zw) (y:vG) (h:qaV N n f v=some y):LG Tryz.prog K5 48 (zi qgf 6) (qi0 f v) (Zo f y):=
 jP qA (E:=qfb N) (L:=q0 (qiS N)) (st:=Zo f) (g:=some) (R:=Zo f) (qcB N) (qH (by kernel_rfl) trivial) (rg0 (by kernel_rfl)) (fun v=>by kernel_rfl) (zE (st:=Zo f) fun y=>by rcases y with _ | _<;>rfl) n v y h
def YU (N:Nat) (s0_6:List UInt8) (s24_6:Int) (o_6:List qb) (s6_6:Int) (s25_6:Int):Option vG:=qaV N N (s0_6,s24_6) (o_6,s6_6,s25_6)
def qaP (N:Nat):qO:=smL qaO [(.sl 4 qu),.bl,(.i .i64),(.i .u64),(.i .u64)] vG (fun x=>YU N x.2.1 x.2.2.2.1 x.1 x.2.2.1 x.2.2.2.2.1) (csS cs1) fun x=>Zo (x.2.1,x.2.2.2.1)
theorem qhc (N:Nat):Q_ Tryz.prog K5 48 (zi qgf 6) (qaP N):=vC fun x z h=>qjc N (x.2.1,x.2.2.2.1) N (x.1,x.2.2.1,x.2.2.2.2.1) z h
def qnA (z:List qb×Int×Bool):TV×THp:=(.tup [.tv (.sl 4 qu) (z.1:List qb),xi z.2.1,xb z.2.2],[])
def K4 (N:Nat) (a0:List UInt8):Tree (List qb×Int×Bool):=
 .bind (JT N a0) fun r1=>
 .cond (!r1.2.2) (
 .ret ([],0,false)) <|
 .cond (decide (60 < r1.1)) (
 .ret ([],0,false)) <|
 .bind (Q1 [(([]:List qb).length,0)] (YU N a0 r1.1 [] r1.2.1 0)) fun z2=>
 .sum z2 (fun z3=>
 .ret ([],0,false)) fun z3=>
 .chk (z3.1.length=z3.1.length) <|
 .bind (Xk N z3.1) fun r4=>
 .cond (!r4) (
 .ret ([],0,false)) <|
 .chk (z3.1.length=z3.1.length) <|
 .ret (z3.1,z3.2.1,true)
def WG (N:Nat) (a0:List UInt8):Option (List qb×Int×Bool):=(K4 N a0).run some
def qoj (N:Nat):List (Nat×qO):=[(6,qaP N)]
def qfg (N:Nat):Ent:=smF ⟨48,[],[.x .bl],[],[]⟩ [.bl] (List qb×Int×Bool) (fun x=>WG N x.1) cs1 fun _=>qnA
theorem qmJ (N:Nat):zo Tryz.prog (qfg N):=
 zy (H:=K5) (L:=q0 (qoj N)) (ts:=[.bl]) (T:=fun x=>K4 N x.1) 0 quG (qcB N) (qH (by kernel_rfl) ⟨qhc N,trivial⟩) (rg0 (by kernel_rfl)) fun x=>by kernel_rfl
noncomputable def qtc:Code:=Tryz.f15.body.getD .skip
theorem qt8:FnF Tryz.prog 15 Tryz.f15 qtc:=⟨qA,by kernel_rfl,by kernel_rfl,by kernel_rfl⟩
def qsY:TH:={ live:=[(0,[0,2]),(1,[0,2,5]),(2,[0,2,5,6]),(3,[0,2,5,6,7,8,9]),(4,[0,2,5,6,7]),(5,[0,2,5,6]),(6,[0,2,5,6,41]),(7,[0,2,5,6]),(8,[0,2,5,6,46]),(9,[0,2,5,6,46,47]),(10,[0,2,5,6,10,11,12]),(11,[0,2,5,6,10]),(12,[0,2,5,6]),(13,[0,2,5,6,46,64]),(14,[0,2,5,6]),(15,[0,2,5,6,75]),(16,[0,2,5,6,13,14,15]),(17,[0,2,5,6,13]),(18,[0,2,5,6]),(19,[0,2,5,6,103]),(20,[2,3,4]),(21,[2,3,4])],dec:=[99] }
def qtz (N:Nat):List Ent:=[K1,qbj,qfm N,QF,qaf N,WU,qfg N,qgK N]
theorem qqr (N:Nat):q7 Tryz.prog (qtz N):=⟨qgA,qhR,qmK N,Zf,qc5 N,qcU,qmJ N,qjN N,trivial⟩
def quz (z:qa×Int×Bool):TV×THp:=(.tup [.tv q_ (z.1:qa),xi z.2.1,xb z.2.2],[])
def qgb (N:Nat) (a0:List UInt8):Tree (qa×Int×Bool):=
 .bind (Qc (qe.mk a0 false)) fun r1=>
 .bind (Zu r1.1) fun r2=>
 .bind (KP N (qe.b r2.1)) fun r3=>
 .bind (zC r2.1 r3.2.1 r3.2.2) fun r4=>
 .cond (!decide (r1.2=0)) (
 .bind (Qc r4.1) fun r5=>
 .cond (decide (r1.2=1)) (
 .bind (Xa N (qe.b r5.1) 200) fun r6=>
 .bind (zC r5.1 r6.2.1 r6.2.2) fun r7=>
 .cond (qe.bad r7.1) (
 .ret (qa.mk 0 ((Vector.replicate 16 0)) (qi.mk 0 0) 0 [] [] ((Vector.replicate 16 0)) 0 ((Vector.replicate 32 0)),0,false)) <|
 .bind (ZA N (qa.mk r1.2 r2.2 r3.1 r5.2 r6.1 [] ((Vector.replicate 16 0)) 0 ((Vector.replicate 32 0)))) fun r8=>
 .cond (!r8) (
 .ret (qa.mk 0 ((Vector.replicate 16 0)) (qi.mk 0 0) 0 [] [] ((Vector.replicate 16 0)) 0 ((Vector.replicate 32 0)),0,false)) <|
 .chk (qv (((a0.length:Nat):Int) - (((qe.b r7.1).length:Nat):Int))) <|
 .ret (qa.mk r1.2 r2.2 r3.1 r5.2 r6.1 [] ((Vector.replicate 16 0)) 0 ((Vector.replicate 32 0)),((a0.length:Nat):Int) - (((qe.b r7.1).length:Nat):Int),true)) <|
 .cond (decide (r1.2=2)) (
 .bind (Zu r5.1) fun r6=>
 .bind (Qc r6.1) fun r7=>
 .bind (jK r7.1) fun r8=>
 .cond (qe.bad r8.1) (
 .ret (qa.mk 0 ((Vector.replicate 16 0)) (qi.mk 0 0) 0 [] [] ((Vector.replicate 16 0)) 0 ((Vector.replicate 32 0)),0,false)) <|
 .bind (ZA N (qa.mk r1.2 r2.2 r3.1 r5.2 [] [] r6.2 r7.2 r8.2)) fun r9=>
 .cond (!r9) (
 .ret (qa.mk 0 ((Vector.replicate 16 0)) (qi.mk 0 0) 0 [] [] ((Vector.replicate 16 0)) 0 ((Vector.replicate 32 0)),0,false)) <|
 .chk (qv (((a0.length:Nat):Int) - (((qe.b r8.1).length:Nat):Int))) <|
 .ret (qa.mk r1.2 r2.2 r3.1 r5.2 [] [] r6.2 r7.2 r8.2,((a0.length:Nat):Int) - (((qe.b r8.1).length:Nat):Int),true)) <|
 .cond (decide (r1.2=3)) (
 .bind (WG N (qe.b r5.1)) fun r6=>
 .bind (zC r5.1 r6.2.1 r6.2.2) fun r7=>
 .bind (jK r7.1) fun r8=>
 .cond (qe.bad r8.1) (
 .ret (qa.mk 0 ((Vector.replicate 16 0)) (qi.mk 0 0) 0 [] [] ((Vector.replicate 16 0)) 0 ((Vector.replicate 32 0)),0,false)) <|
 .bind (ZA N (qa.mk r1.2 r2.2 r3.1 r5.2 [] r6.1 ((Vector.replicate 16 0)) 0 r8.2)) fun r9=>
 .cond (!r9) (
 .ret (qa.mk 0 ((Vector.replicate 16 0)) (qi.mk 0 0) 0 [] [] ((Vector.replicate 16 0)) 0 ((Vector.replicate 32 0)),0,false)) <|
 .chk (qv (((a0.length:Nat):Int) - (((qe.b r8.1).length:Nat):Int))) <|
 .ret (qa.mk r1.2 r2.2 r3.1 r5.2 [] r6.1 ((Vector.replicate 16 0)) 0 r8.2,((a0.length:Nat):Int) - (((qe.b r8.1).length:Nat):Int),true)) <|
 .cond (qe.bad r5.1) (
 .ret (qa.mk 0 ((Vector.replicate 16 0)) (qi.mk 0 0) 0 [] [] ((Vector.replicate 16 0)) 0 ((Vector.replicate 32 0)),0,false)) <|
 .bind (ZA N (qa.mk r1.2 r2.2 r3.1 r5.2 [] [] ((Vector.replicate 16 0)) 0 ((Vector.replicate 32 0)))) fun r6=>
 .cond (!r6) (
 .ret (qa.mk 0 ((Vector.replicate 16 0)) (qi.mk 0 0) 0 [] [] ((Vector.replicate 16 0)) 0 ((Vector.replicate 32 0)),0,false)) <|
 .chk (qv (((a0.length:Nat):Int) - (((qe.b r5.1).length:Nat):Int))) <|
 .ret (qa.mk r1.2 r2.2 r3.1 r5.2 [] [] ((Vector.replicate 16 0)) 0 ((Vector.replicate 32 0)),((a0.length:Nat):Int) - (((qe.b r5.1).length:Nat):Int),true)) <|
 .cond (decide (r1.2=1)) (
 .bind (Xa N (qe.b r4.1) 200) fun r5=>
 .bind (zC r4.1 r5.2.1 r5.2.2) fun r6=>
 .cond (qe.bad r6.1) (
 .ret (qa.mk 0 ((Vector.replicate 16 0)) (qi.mk 0 0) 0 [] [] ((Vector.replicate 16 0)) 0 ((Vector.replicate 32 0)),0,false)) <|
 .bind (ZA N (qa.mk r1.2 r2.2 r3.1 0 r5.1 [] ((Vector.replicate 16 0)) 0 ((Vector.replicate 32 0)))) fun r7=>
 .cond (!r7) (
 .ret (qa.mk 0 ((Vector.replicate 16 0)) (qi.mk 0 0) 0 [] [] ((Vector.replicate 16 0)) 0 ((Vector.replicate 32 0)),0,false)) <|
 .chk (qv (((a0.length:Nat):Int) - (((qe.b r6.1).length:Nat):Int))) <|
 .ret (qa.mk r1.2 r2.2 r3.1 0 r5.1 [] ((Vector.replicate 16 0)) 0 ((Vector.replicate 32 0)),((a0.length:Nat):Int) - (((qe.b r6.1).length:Nat):Int),true)) <|
 .cond (decide (r1.2=2)) (
 .bind (Zu r4.1) fun r5=>
 .bind (Qc r5.1) fun r6=>
 .bind (jK r6.1) fun r7=>
 .cond (qe.bad r7.1) (
 .ret (qa.mk 0 ((Vector.replicate 16 0)) (qi.mk 0 0) 0 [] [] ((Vector.replicate 16 0)) 0 ((Vector.replicate 32 0)),0,false)) <|
 .bind (ZA N (qa.mk r1.2 r2.2 r3.1 0 [] [] r5.2 r6.2 r7.2)) fun r8=>
 .cond (!r8) (
 .ret (qa.mk 0 ((Vector.replicate 16 0)) (qi.mk 0 0) 0 [] [] ((Vector.replicate 16 0)) 0 ((Vector.replicate 32 0)),0,false)) <|
 .chk (qv (((a0.length:Nat):Int) - (((qe.b r7.1).length:Nat):Int))) <|
 .ret (qa.mk r1.2 r2.2 r3.1 0 [] [] r5.2 r6.2 r7.2,((a0.length:Nat):Int) - (((qe.b r7.1).length:Nat):Int),true)) <|
 .cond (decide (r1.2=3)) (
 .bind (WG N (qe.b r4.1)) fun r5=>
 .bind (zC r4.1 r5.2.1 r5.2.2) fun r6=>
 .bind (jK r6.1) fun r7=>
 .cond (qe.bad r7.1) (
 .ret (qa.mk 0 ((Vector.replicate 16 0)) (qi.mk 0 0) 0 [] [] ((Vector.replicate 16 0)) 0 ((Vector.replicate 32 0)),0,false)) <|
 .bind (ZA N (qa.mk r1.2 r2.2 r3.1 0 [] r5.1 ((Vector.replicate 16 0)) 0 r7.2)) fun r8=>
 .cond (!r8) (
 .ret (qa.mk 0 ((Vector.replicate 16 0)) (qi.mk 0 0) 0 [] [] ((Vector.replicate 16 0)) 0 ((Vector.replicate 32 0)),0,false)) <|
 .chk (qv (((a0.length:Nat):Int) - (((qe.b r7.1).length:Nat):Int))) <|
 .ret (qa.mk r1.2 r2.2 r3.1 0 [] r5.1 ((Vector.replicate 16 0)) 0 r7.2,((a0.length:Nat):Int) - (((qe.b r7.1).length:Nat):Int),true)) <|
 .cond (qe.bad r4.1) (
 .ret (qa.mk 0 ((Vector.replicate 16 0)) (qi.mk 0 0) 0 [] [] ((Vector.replicate 16 0)) 0 ((Vector.replicate 32 0)),0,false)) <|
 .bind (ZA N (qa.mk r1.2 r2.2 r3.1 0 [] [] ((Vector.replicate 16 0)) 0 ((Vector.replicate 32 0)))) fun r5=>
 .cond (!r5) (
 .ret (qa.mk 0 ((Vector.replicate 16 0)) (qi.mk 0 0) 0 [] [] ((Vector.replicate 16 0)) 0 ((Vector.replicate 32 0)),0,false)) <|
 .chk (qv (((a0.length:Nat):Int) - (((qe.b r4.1).length:Nat):Int))) <|
 .ret (qa.mk r1.2 r2.2 r3.1 0 [] [] ((Vector.replicate 16 0)) 0 ((Vector.replicate 32 0)),((a0.length:Nat):Int) - (((qe.b r4.1).length:Nat):Int),true)
def qd3 (N:Nat) (a0:List UInt8):Option (qa×Int×Bool):=(qgb N a0).run some
def quf (N:Nat):List (Nat×qO):=[]
def qll (N:Nat):Ent:=smF ⟨15,[],[.x .bl],[],[]⟩ [.bl] (qa×Int×Bool) (fun x=>qd3 N x.1) cs1 fun _=>quz
theorem qsw (N:Nat):zo Tryz.prog (qll N):=
 zy (H:=qsY) (L:=q0 (quf N)) (ts:=[.bl]) (T:=fun x=>qgb N x.1) 0 qt8 (qqr N) (qH (by kernel_rfl) trivial) (rg0 (by kernel_rfl)) fun x=>by kernel_rfl
noncomputable def qo0:Code:=Tryz.f7.body.getD .skip
theorem qvn:FnF Tryz.prog 7 Tryz.f7 qo0:=⟨qA,by kernel_rfl,by kernel_rfl,by kernel_rfl⟩
def qb2:TH:={ live:=[(0,[1,2]),(1,[1,2,5]),(2,[1,2,5,6]),(3,[1,2,5,6,7,8]),(4,[1,2,5,7,39]),(5,[4]),(6,[2,7,10,11]),(7,[4])],dec:=[22,26,30,34,51,55,64] }
def qbV (N:Nat):List Ent:=[qmb,WV N,qnl N,qll N]
theorem qau (N:Nat):q7 Tryz.prog (qbV N):=⟨qq9,qcT N,qrl N,qsw N,trivial⟩
def qcc (z:Bool):TV×THp:=(xb z,[])
def Z3 (N:Nat) (a0:qa) (a1:Int):Tree (Bool):=
 .bind (qma) fun r1=>
 .bind (jJ N a0) fun r2=>
 .bind (qhy N a0) fun r3=>
 .cond (!r1) (
 .ret r1) <|
 .cond (!r2) (
 .ret r1) <|
 .cond (!r3.2) (
 .ret r1) <|
 .cond (decide (a1 < ((0:Int)))) (
 .ret r1) <|
 .cond (decide (((r3.1.length:Nat):Int)≤a1)) (
 .ret r1) <|
 .chk (0≤(0:Int)∧(0:Int)≤a1∧a1≤((r3.1.length:Nat):Int)) <|
 .bind (qd3 N ((r3.1.take a1.toNat).drop 0)) fun r4=>
 .cond (!r4.2.2) (
 .cond (decide (r4.2.1=0)) (
 .bind (zn r3.1 0) fun e5=>
 .chk (qv ((e5.toNat:Nat):Int)) <|
 .cond (decide (((e5.toNat:Nat):Int)=(qa.Kind a0))) (
 .ret (decide (((18:Int))≤((r3.1.length:Nat):Int)))) <|
 .ret false) <|
 .ret false) <|
 .ret false
def jT (N:Nat) (a0:qa) (a1:Int):Option (Bool):=(Z3 N a0 a1).run some
def qbI (N:Nat):List (Nat×qO):=[]
theorem qag (N:Nat):qeT Tryz.prog ⟨7,[],[.x q_,.x (.i .i64)],[],[]⟩ [q_,(.i .i64)] (fun x=>Z3 N x.1 x.2.1) (fun _=>qcc):=
 qaS (H:=qb2) (L:=q0 (qbI N)) 0 qvn (qau N) (qH (by kernel_rfl) trivial) (rg0 (by kernel_rfl)) fun x=>by kernel_rfl
end Go.Rx
end
set_option maxRecDepth 100000
noncomputable section
namespace Go.Rx
open Go.Proofs
abbrev V2 (q:Nat→Bool) (n:Nat):Bool:=qml q n 0
theorem JK {q:Nat→Bool} {n:Nat}:V2 q n=true↔∀ j,j < n→q j=true:=by
 unfold V2; rw [qlO]
 exact ⟨fun h j hj=>h j (Nat.zero_le _) (by omega),fun h j _ hj=>h j (by omega)⟩
theorem qrZ {p q:Nat→Bool} {n:Nat} (h:JI p n 0=none) (hq:∀ j,j < n→p j=!q j):V2 q n=true:=
 JK.2 fun j hj=>by
  have:=qfc h j (Nat.zero_le _) (by omega)
  rw [hq j hj] at this; simpa using this
theorem qrk {p q:Nat→Bool} {n i:Nat} (h:JI p n 0=some i) (hq:∀ j,j < n→p j=!q j):V2 q n=false:=by
 obtain ⟨h1,_,h2,_⟩:=qfu h
 cases e:V2 q n with
 | false=>rfl
 | true=>
  have:=JK.1 e i (by omega)
  rw [hq i (by omega),this] at h1; simp at h1
theorem qjR {α Y : Type} {B : Int → Tree (Int ⊕ (α ⊕ (Int × Bool)))} {g : α ⊕ (Int × Bool) → Option Y} {q : Nat → Bool} {n : Nat} {hit : α}
    (h1:∀ k,k < n→(B (k:Int)).run some=some (if q k then .inl ((k + 1:Nat):Int) else .inr (.inl hit))) (h2:(B (n:Int)).run some=some (.inr (.inr (((n:Nat):Int),false)))) {N:Nat} (hN:n < N) :
    zG B g N ((0:Nat):Int)=g (if V2 q n then .inr (((n:Nat):Int),false) else .inl hit):=by
 rw [qjw (p:=fun k=>!q k) (hit:=fun _=>.inl hit) (fin:=.inr (((n:Nat):Int),false)) (n:=n) (fun k hk=>by rw [h1 k hk]; cases q k<;>rfl) h2 N 0 (Nat.zero_le _) (by omega),Nat.sub_zero]
 cases e:JI (fun k=>!q k) n 0 with
 | none=>rw [qrZ e fun _ _=>rfl]; rfl
 | some i=>rw [qrk e fun _ _=>rfl]; rfl
theorem qbt {α:Type} {d:α} {l:List α} {k:Nat} (h:k < l.length):l.take (k + 1)=l.take k++[l.getD k d]:=by
 rw [List.take_succ_eq_append_getElem h,List.getD_eq_getElem?_getD,List.getElem?_eq_getElem h]; rfl
class Vw (N:Nat):Prop where
 h:100000≤N
theorem Vw.of {N:Nat} (h:100000≤N):Vw N:=⟨h⟩
theorem big (N:Nat) [Vw N]:100000≤N:=Vw.h
abbrev zSt:qi:=((0:Int),(0:Int))
def stB (a:qi):Bool:=decide (a=zSt)||(decide (0 < a.1)&&decide (a.1≤1099511627776)&&decide (0≤a.2)&&decide (a.2 < 8))
theorem qto (a b:qi):eqE zF a b=decide (a=b):=Bool.eq_iff_iff.2 ((QK zF a b).trans (decide_eq_true_iff (p:=(a:Int×Int)=b)).symm)
theorem qwk (a b:Vector UInt8 16):eqE (.ba 16) a b=decide (a=b):=Bool.eq_iff_iff.2 ((QK (.ba 16) a b).trans (decide_eq_true_iff (p:=(a:Vector UInt8 16)=b)).symm)
theorem qgq (a:qi):JV a=some (stB a):=by
 unfold JV K3
 have e:=qto a (qi.mk 0 0)
 simp only [Tree.run,e]
 show (bif decide (a=zSt) then _ else _)=some (decide (a=zSt)||_)
 cases decide (a=zSt) with
 | true=>rfl
 | false=>
  show (bif decide (0 < a.1) then _ else _)=_
  cases decide (0 < a.1) with
  | false=>rfl
  | true=>
   show (bif decide (a.1≤1099511627776) then _ else _)=_
   cases decide (a.1≤1099511627776) with
   | false=>rfl
   | true=>
    show (bif decide (0≤a.2) then _ else _)=_
    cases decide (0≤a.2)<;>rfl
end Go.Rx
end
set_option maxRecDepth 100000
noncomputable section
namespace Go.Rx
open Go.Proofs
abbrev zP:qb:=(false,0,0,[])
def inP (a lo hi:Int):Bool:=decide (lo≤a)&&decide (a≤hi)
def QV (p:qb):Bool:=bif p.JM then inP p.jL 0 200&&inP p.Len 1 200&&decide (p.Lit=[]) else decide (p=(false,0,0,p.Lit))&&inP (p.Lit.length:Nat) 1 200
theorem quj (a b:qb):eqE qu a b=decide (a=b):=Bool.eq_iff_iff.2 ((QK qu a b).trans (decide_eq_true_iff (p:=(a:Bool×Int×Int×List UInt8)=b)).symm)
theorem qlF (a lo hi:Int):X9 a lo hi=some (inP a lo hi):=by
 unfold X9 qb4 inP
 exact zT rfl (fun h=>qy (by rw [h]; rfl)) fun h=>qy (by rw [h]; rfl)
theorem qtq (p:qb):K0 p=some (QV p):=by
 unfold K0 qat QV
 refine zT rfl (fun h=>?_) fun h=>?_
 ·rw [h]
  refine qo (qlF _ _ _) <| zT rfl (fun h1=>?_) fun h1=>qy (by rw [h1]; rfl)
  refine qo (qlF _ _ _) <| zT rfl (fun h2=>?_) fun h2=>qy (by rw [h1,h2]; rfl)
  exact qy (by rw [h1,h2]; rfl)
 ·rw [h]
  exact zT (quj _ _) (fun h1=>qo (qlF _ _ _) (qy (by rw [show decide (p=(false,0,0,p.Lit))=true from h1]; rfl))) fun h1=>qy (by rw [show decide (p=(false,0,0,p.Lit))=false from h1]; rfl)
def W_ (l:List qb) (k:Nat):Int:=((l.take k).map fun p=>p.Len + ((p.Lit.length:Nat):Int)).sum
def vl (l:List qb):Bool:=V2 (fun k=>QV (l.getD k zP)) l.length&&decide (l.length≤60)&&decide (W_ l l.length≤200)
theorem qjB {l:List qb} {k:Nat} (h:k < l.length):W_ l (k + 1)=W_ l k + ((l.getD k zP).Len + (((l.getD k zP).Lit.length:Nat):Int)):=by
 unfold W_
 rw [qbt (d:=zP) h,List.map_append,List.sum_append]; simp
theorem qjy {p:qb} (h:QV p=true):0≤p.Len + ((p.Lit.length:Nat):Int)∧p.Len + ((p.Lit.length:Nat):Int)≤200∧0≤p.Len:=by
 unfold QV inP at h
 cases e:p.JM with
 | true=>
  rw [e,cond_true] at h
  simp only [Bool.and_eq_true,decide_eq_true_eq] at h
  obtain ⟨⟨_,h1,h2⟩,h3⟩:=h
  rw [h3]; simp only [List.length_nil]; omega
 | false=>
  rw [e,cond_false] at h
  simp only [Bool.and_eq_true,decide_eq_true_eq] at h
  obtain ⟨h1,h2,h3⟩:=h
  have:p.Len=0:=by rw [h1]; rfl
  omega
theorem qoS {l:List qb}:∀ {k:Nat},k≤l.length→(∀ j,j < k→QV (l.getD j zP)=true)→0≤W_ l k∧W_ l k≤200 * (k:Int)
 | 0,_,_=>by unfold W_; simp
 | k + 1,hk,h=>by
  have h1:=qoS (k:=k) (by omega) fun j hj=>h j (by omega)
  have h2:=qjy (h k (by omega))
  rw [qjB (by omega)]; omega
theorem qil {V W Y : Type} {B : V → Tree (V ⊕ W)} {g : W → Option Y} {at_ : Nat → V} {q : Nat → Bool} {n : Nat} {hit fin : W}
    (h1:∀ k,k < n→(∀ j,j < k→q j=true)→(B (at_ k)).run some=some (if q k then .inl (at_ (k + 1)) else .inr hit)) (h2:(B (at_ n)).run some=some (.inr fin)) :
    ∀ (m k:Nat),k + m=n→∀ N,m < N→(∀ j,j < k→q j=true)→zG B g N (at_ k)=g (if V2 q n then fin else hit)
 | 0,k,hk,N + 1,_,hq=>by
  obtain rfl:k=n:=by omega
  rw [Xd h2,if_pos (JK.2 hq)]
 | m + 1,k,hk,N + 1,hN,hq=>by
  have h:=h1 k (by omega) hq
  cases e:q k with
  | true=>
   rw [e,if_pos rfl] at h
   rw [KX h]
   exact qil h1 h2 m (k + 1) (by omega) N (by omega) fun j hj=>by
    by_cases ej:j=k
    ·rw [ej]; exact e
    ·exact hq j (by omega)
  | false=>
   rw [e,if_neg (by simp)] at h
   rw [Xd h,if_neg (fun ha=>by have:=JK.1 ha k (by omega); rw [e] at this; cases this)]
 | _,_,_,0,hN,_=>by omega
section
variable {N:Nat} [Vw N]
theorem qse {l : List qb} (hl : l.length < N) (hl2 : l.length ≤ 1000000000000000) :
    Y4 N l l ((l.length:Nat):Int) 0 0=some (if V2 (fun k=>QV (l.getD k zP)) l.length then .inr (W_ l l.length,((l.length:Nat):Int),false) else .inl ()):=by
 refine (qil (B:=Vp N l l ((l.length:Nat):Int)) (g:=some) (at_:=fun k=>(W_ l k,(k:Int))) (q:=fun k=>QV (l.getD k zP)) (n:=l.length) (hit:=.inl ()) (fin:=.inr (W_ l l.length,((l.length:Nat):Int),false)) (fun k hk hq=>?_) ?_ l.length 0 (by omega) N (by omega) (fun j hj=>by omega)).trans ?_
 ·unfold Vp
  refine w_t (dec_lt hk) <| qo (XB (d:=zP) hk) <| qo (qtq _) <| zT rfl (fun h=>?_) fun h=>?_
  ·have h':QV (l.getD k zP)=false:=by rw [Bool.not_eq_true'] at h; exact h
   rw [h']; exact qy rfl
  ·have h':QV (l.getD k zP)=true:=by rw [Bool.not_eq_false'] at h; exact h
   have h1:=qoS (k:=k) (Nat.le_of_lt hk) hq
   have h2:=qjy h'
   rw [h']
   refine qF (show qv ((l.getD k zP).Len + (((l.getD k zP).Lit.length:Nat):Int)) by unfold qv; omega) <| qF (show qv (W_ l k + ((l.getD k zP).Len + (((l.getD k zP).Lit.length:Nat):Int))) by unfold qv; omega) <| qF (Vn (by omega)) <| qy ?_
   rw [if_pos rfl,qjB hk,Zc]
 ·unfold Vp
  exact w_f (vL (Nat.lt_irrefl _)) (qy (by rw [vL (Nat.lt_irrefl _)]))
 ·split<;>rfl
theorem qds {l:List qb} (hl:l.length < N) (hl2:l.length≤1000000000000000):Xk N l=some (vl l):=by
 unfold Xk qae vl
 refine qo (qse hl hl2) ?_
 cases V2 (fun k=>QV (l.getD k zP)) l.length with
 | false=>rfl
 | true=>
  refine w_r rfl <| zT (c:=decide (l.length≤60)) (decide_eq_decide.2 (by omega)) (fun h=>qy ?_) fun h=>qy ?_
  ·rw [h]; rfl
  ·rw [h]; rfl
end
section
variable {N:Nat}
theorem qtK {l m : List qb} (hl : l.length < N) (hm : m.length = l.length) (hl2 : l.length ≤ 1000000000000000) :
    Zr N l m ((l.length:Nat):Int) 0=some (if V2 (fun k=>decide (l.getD k zP=m.getD k zP)) l.length then .inr (((l.length:Nat):Int),false) else .inl ()):=by
 refine (qjR (B:=vu N l m ((l.length:Nat):Int)) (g:=some) (q:=fun k=>decide (l.getD k zP=m.getD k zP)) (n:=l.length) (hit:=()) (fun k hk=>?_) ?_ hl)
 ·unfold vu
  refine w_t (dec_lt hk) <| qo (XB (d:=zP) hk) <| qo (XB (d:=zP) (by omega)) <| zT rfl (fun h=>?_) fun h=>?_
  ·have h':decide (l.getD k zP=m.getD k zP)=false:=by rw [quj,Bool.not_eq_true'] at h; exact h
   rw [h']; exact qy rfl
  ·have h':decide (l.getD k zP=m.getD k zP)=true:=by rw [quj,Bool.not_eq_false'] at h; exact h
   rw [h']; exact qF (Vn (by omega)) <| qy (by rw [Zc]; rfl)
 ·unfold vu
  exact w_f (vL (Nat.lt_irrefl _)) (qy (by rw [vL (Nat.lt_irrefl _)]))
theorem qkr {α:Type} {d:α} {l m:List α} (h:m.length=l.length) (hg:∀ k,k < l.length→l.getD k d=m.getD k d):l=m:=by
 refine List.ext_getElem h.symm fun i h1 h2=>?_
 have:=hg i h1
 rw [List.getD_eq_getElem?_getD,List.getD_eq_getElem?_getD,List.getElem?_eq_getElem h1,List.getElem?_eq_getElem h2] at this
 exact this
theorem qtv {l m:List qb} (hl:l.length < N) (hl2:l.length≤1000000000000000):Yr N l m=some (decide (l=m)):=by
 have e:Q3 N l m=some (decide (l=m)):=by
  unfold Q3 Z7
  by_cases hm:m.length=l.length
  ·refine w_f (by rw [decide_eq_true (by omega)]; rfl) <| qo (qtK hl hm hl2) ?_
   cases e:V2 (fun k=>decide (l.getD k zP=m.getD k zP)) l.length with
   | true=>
    have:l=m:=qkr hm fun k hk=>of_decide_eq_true (JK.1 e k hk)
    exact w_r rfl (qy (by rw [decide_eq_true this]))
   | false=>
    have:¬ l=m:=fun h=>by
     rw [JK.2 (fun k _=>by rw [h]; exact decide_eq_true rfl)] at e; cases e
    exact w_l rfl (qy (by rw [decide_eq_false this]))
  ·exact w_t (by rw [decide_eq_false (by omega)]; rfl) (qy (by rw [decide_eq_false (fun h=>hm (by rw [h]))]))
 unfold Yr Ki
 exact qo e (qy rfl)
theorem qwT (a b:Vector UInt8 32):eqE (.ba 32) a b=decide (a=b):=Bool.eq_iff_iff.2 ((QK (.ba 32) a b).trans (decide_eq_true_iff (p:=(a:Vector UInt8 32)=b)).symm)
theorem qrV {a b:qa} (hl:(qa.P a).length < N) (hl2:(qa.P a).length≤1000000000000000):qeI N a b=some (decide (a=b)):=by
 unfold qeI qec
 have no:∀ {p:Prop} [Decidable p],(a=b→p)→decide p=false→some false=some (decide (a=b)):=fun hp h=>by rw [decide_eq_false (fun e=>of_decide_eq_false h (hp e))]
 refine zT (qwk _ _) (fun h1=>?_) fun h1=>qy (no (fun e=>by rw [e]) h1)
 refine zT (qwk _ _) (fun h2=>?_) fun h2=>qy (no (fun e=>by rw [e]) h2)
 refine zT rfl (fun h3=>?_) fun h3=>qy (no (fun e=>by rw [e]) h3)
 refine zT rfl (fun h4=>?_) fun h4=>qy (no (fun e=>by rw [e]) h4)
 refine zT rfl (fun h5=>?_) fun h5=>qy (no (fun e=>by rw [e]) h5)
 refine zT (qto _ _) (fun h6=>?_) fun h6=>qy (no (fun e=>by rw [e]) h6)
 refine zT rfl (fun h7=>?_) fun h7=>qy (no (fun e=>by rw [e]) h7)
 refine zT (qwT _ _) (fun h8=>?_) fun h8=>qy (no (fun e=>by rw [e]) h8)
 refine qo (qtv hl hl2) <| qy ?_
 have key:qa.P a=qa.P b↔a=b:=by
  obtain ⟨a1,a2,a3,a4,a5,a6,a7,a8,a9⟩:=a
  obtain ⟨b1,b2,b3,b4,b5,b6,b7,b8,b9⟩:=b
  have e1:a2=b2:=of_decide_eq_true h1
  have e2:a7=b7:=of_decide_eq_true h2
  have e3:a4=b4:=of_decide_eq_true h3
  have e4:a8=b8:=of_decide_eq_true h4
  have e5:a1=b1:=of_decide_eq_true h5
  have e6:a3=b3:=of_decide_eq_true h6
  have e7:a5=b5:=of_decide_eq_true h7
  have e8:a9=b9:=of_decide_eq_true h8
  subst e1 e2 e3 e4 e5 e6 e7 e8
  exact ⟨fun h=>by have h:a6=b6:=h; rw [h],fun h=>by rw [h]⟩
 exact congrArg some (decide_eq_decide.2 key)
end
theorem qjG (a:Int):WS a=some (decide (0≤a)&&decide (a < 8)):=by
 unfold WS K_
 exact zT rfl (fun h=>qy (by rw [h]; rfl)) fun h=>qy (by rw [h]; rfl)
end Go.Rx
end
set_option maxRecDepth 100000
noncomputable section
namespace Go.Rx
open Go.Proofs
abbrev zI:Vector UInt8 16:=Vector.replicate 16 0
abbrev zD:Vector UInt8 32:=Vector.replicate 32 0
def KO (o:qa):qa:=
 if o.Kind=1 then .mk o.Kind o.ID o.S o.No o.V [] zI 0 zD
 else if o.Kind=2 then .mk o.Kind o.ID o.S o.No [] [] o.jL o.je o.D
 else if o.Kind=3 then .mk o.Kind o.ID o.S o.No [] o.P zI 0 o.D
 else .mk o.Kind o.ID o.S 0 [] [] zI 0 zD
def qlM (a:Int):Bool:=decide (0≤a)&&decide (a < 8)
def opB (o:qa):Bool:=!decide (o.Kind < 0)&&!decide (4≤o.Kind)&&decide (o=KO o)&&!decide (o.S=zSt)&&stB o.S&&qlM o.No&&qlM o.je&&decide ((o.V.length:Int)≤200)&&vl o.P
theorem qvL (o:qa):qet o=some (KO o):=by
 unfold qet qdQ KO
 refine zT rfl (fun h=>qy ?_) fun h=>zT rfl (fun h2=>qy ?_) fun h2=>zT rfl (fun h3=>qy ?_) fun h3=>qy ?_
 ·rw [if_pos (of_decide_eq_true h)]
 ·rw [if_neg (of_decide_eq_false h),if_pos (of_decide_eq_true h2)]
 ·rw [if_neg (of_decide_eq_false h),if_neg (of_decide_eq_false h2),if_pos (of_decide_eq_true h3)]
 ·rw [if_neg (of_decide_eq_false h),if_neg (of_decide_eq_false h2),if_neg (of_decide_eq_false h3)]
section
variable {N:Nat} [Vw N]
theorem qm4 {o:qa} (hl:(qa.P o).length < N) (hl2:(qa.P o).length≤1000000000000000):ZA N o=some (opB o):=by
 unfold ZA qgB opB
 refine zT rfl (fun h1=>qy (by rw [h1]; rfl)) fun h1=>?_
 refine zT rfl (fun h2=>qy (by rw [h1,h2]; rfl)) fun h2=>?_
 refine qo (qvL o) <| qo (qrV hl hl2) ?_
 refine zT rfl (fun h3=>qy ?_) fun h3=>?_
 ·rw [Bool.not_eq_true'] at h3
  rw [h1,h2,h3]; rfl
 rw [Bool.not_eq_false'] at h3
 refine zT (qto _ _) (fun h4=>qy ?_) fun h4=>?_
 ·have h4:decide (o.S=zSt)=true:=h4
  rw [h1,h2,h3,h4]; rfl
 have h4:decide (o.S=zSt)=false:=h4
 refine qo (qgq _) <| zT rfl (fun h5=>?_) fun h5=>qy (by rw [h1,h2,h3,h4,h5]; rfl)
 refine qo (qjG _) <| zT (show _=qlM o.No from rfl) (fun h6=>?_) fun h6=>qy (by rw [h1,h2,h3,h4,h5,h6]; rfl)
 refine qo (qjG _) <| zT (show _=qlM o.je from rfl) (fun h7=>?_) fun h7=>qy (by rw [h1,h2,h3,h4,h5,h6,h7]; rfl)
 refine zT rfl (fun h8=>?_) fun h8=>qy (by rw [h1,h2,h3,h4,h5,h6,h7,h8]; rfl)
 exact qo (qds hl hl2) <| qy (by rw [h1,h2,h3,h4,h5,h6,h7,h8]; rfl)
end
end Go.Rx
end
set_option maxRecDepth 100000
noncomputable section
namespace Go.Rx
open Go.Proofs
def Z5 (a:List (List UInt8)):Nat:=(a.map List.length).sum
theorem qdd (a:List (List UInt8)):a.flatten.length=Z5 a:=by unfold Z5; rw [List.length_flatten]
theorem qrd {a:List (List UInt8)} {k:Nat} (h:k < a.length):Z5 (a.take (k + 1))=Z5 (a.take k) + (a.getD k []).length:=by
 unfold Z5; rw [qbt (d:=[]) h,List.map_append,List.sum_append]; simp
theorem qjL (a:List (List UInt8)) (k:Nat):Z5 (a.take k)≤Z5 a:=by
 have:Z5 a=Z5 (a.take k) + Z5 (a.drop k):=by
  unfold Z5; rw [← List.sum_append,← List.map_append,List.take_append_drop]
 omega
section
variable {N:Nat}
theorem qsr {a : List (List UInt8)} (hN : a.length < N) (h : Z5 a ≤ 1000000000000) (ha : a.length ≤ 1000000000000) :
    Zq N a a ((a.length:Nat):Int) 0 0=some ((Z5 a:Int),((a.length:Nat):Int),false):=by
 refine WZ (σ:=Unit) (B:=vB N a a ((a.length:Nat):Int)) (g:=some) (at_:=fun k _=>((Z5 (a.take k):Int),(k:Int))) (I:=fun _ _=>True) (f:=fun _ s=>s) (n:=a.length)
  (fin:=fun _=>((Z5 a:Int),((a.length:Nat):Int),false)) (fun k s hk _=>⟨?_,trivial⟩) (fun s _=>?_) N 0 () trivial (Nat.zero_le _) (by omega)
 ·have h1:=qrd hk
  have h2:=qjL a (k + 1)
  unfold vB
  refine w_t (dec_lt hk) <| qo (XB (d:=[]) hk) <| qF (show qv ((Z5 (a.take k):Int) + (((a.getD k []).length:Nat):Int)) by unfold qv; omega) <| w_f (decide_eq_false (by show ¬ ((Z5 (a.take k):Int) + (((a.getD k []).length:Nat):Int) < 0); omega)) <| qF (Vn (by omega)) <| qy ?_
  rw [Zc,h1,Int.natCast_add]; rfl
 ·unfold vB
  exact w_f (vL (Nat.lt_irrefl _)) (qy (by rw [vL (Nat.lt_irrefl _),List.take_of_length_le (Nat.le_refl _)]))
theorem qqs {a : List (List UInt8)} (hN : a.length < N) (h : Z5 a ≤ 1000000000000) (ha : a.length ≤ 1000000000000) :
    jB N a ((a.length:Nat):Int) [] 0=some (a.flatten,((a.length:Nat):Int),false):=by
 refine WZ (σ:=Unit) (B:=j0 N a ((a.length:Nat):Int)) (g:=some) (at_:=fun k _=>((a.take k).flatten,(k:Int))) (I:=fun _ _=>True) (f:=fun _ s=>s) (n:=a.length)
  (fin:=fun _=>(a.flatten,((a.length:Nat):Int),false)) (fun k s hk _=>⟨?_,trivial⟩) (fun s _=>?_) N 0 () trivial (Nat.zero_le _) (by omega)
 ·have eT:(a.take k).flatten++a.getD k []=(a.take (k + 1)).flatten:=by rw [qbt (d:=[]) hk,List.flatten_append]; simp
  have hl:(a.take (k + 1)).flatten.length≤1000000000000:=by rw [qdd]; have:=qjL a (k + 1); omega
  unfold j0
  refine w_t (dec_lt hk) <| qo (XB (d:=[]) hk) ?_
  show (Tree.chk (YV _ _ ((a.take k).flatten++a.getD k []).length 1) _).run some=_
  refine qF ⟨rfl,by rw [eT]; unfold qP; omega⟩ <| qF (Vn (by omega)) <| qy ?_
  rw [Zc,← eT]
 ·unfold j0
  exact w_f (vL (Nat.lt_irrefl _)) (qy (by rw [vL (Nat.lt_irrefl _),List.take_of_length_le (Nat.le_refl _)]))
theorem quh {n:Nat} (h:n≤1000000000000):∃ z,ZR (n:Int)=some z:=by
 unfold ZR JQ
 by_cases h0:n=0
 ·exact ⟨_,w_f (decide_eq_false (by omega)) <| qF (by unfold qv; omega) <| w_f (decide_eq_false (by omega)) <| qy rfl⟩
 ·exact ⟨_,w_f (decide_eq_false (by omega)) <| qF (by unfold qv; omega) <| w_t (decide_eq_true (by omega)) <| qF ⟨by omega,by unfold qP; omega⟩ <| qy rfl⟩
theorem qjr {a:List (List UInt8)} (hN:a.length < N) (h:Z5 a≤1000000000000) (ha:a.length≤1000000000000):zg N a=some a.flatten:=by
 obtain ⟨z,ez⟩:=quh h
 unfold zg ZL
 refine qo (qsr hN h ha) <| qo ez ?_
 have e:Q1 [(([]:List UInt8).length,0)] (jB N a ((a.length:Nat):Int) [] 0)=some (a.flatten,((a.length:Nat):Int),false):=(qj7 rfl).trans (qqs hN h ha)
 cases z with
 | inl _=>exact w_l rfl <| qo e <| qF rfl <| qy rfl
 | inr _=>exact w_r rfl <| qo e <| qF rfl <| qy rfl
end
end Go.Rx
end
set_option maxRecDepth 100000
noncomputable section
namespace Go.Rx
end Go.Rx
end
set_option maxRecDepth 100000
noncomputable section
namespace Go.Rx
open Go.Proofs
end Go.Rx
end
set_option maxRecDepth 100000
noncomputable section
namespace Go.Rx
open Go.Proofs
theorem V3 (n:Int):inB (IntKind.u8.wrap n):=by
 unfold inB
 have:IntKind.u8.wrap n=n % 256:=by simp [IntKind.wrap,IntKind.bits,IntKind.signed]
 rw [this]; omega
theorem qwA (n:Nat):IntKind.u8.wrap ((n:Nat):Int)=((n % 256:Nat):Int):=by
 have:IntKind.u8.wrap ((n:Nat):Int)=((n:Nat):Int) % 256:=by simp [IntKind.wrap,IntKind.bits,IntKind.signed]
 rw [this]; omega
theorem qbd (n j:Nat):Qf ((n:Nat):Int) j=((n / 2 ^ j:Nat):Int):=by
 unfold Qf
 rw [show ((2:Int) ^ j)=((2 ^ j:Nat):Int) by push_cast; rfl,Int.fdiv_eq_ediv_of_nonneg _ (Int.natCast_nonneg _),← Int.natCast_ediv]
theorem qsm (a b:Int):inB (uOr .u8 a b):=V3 _
theorem qjs (a b:Int):inB (jy .u8 a b):=V3 _
end Go.Rx
end
set_option maxRecDepth 100000
noncomputable section
namespace Go.Rx
open Go.Proofs
theorem least {P:Nat→Prop} [DecidablePred P]:∀ n,P n→∃ K,K≤n∧P K∧∀ k < K,¬ P k
 | 0,h=>⟨0,Nat.le_refl _,h,fun k hk=>by omega⟩
 | n + 1,h=>by
  by_cases e:∃ j,j≤n∧P j
  ·obtain ⟨j,hj,pj⟩:=e
   obtain ⟨K,h1,h2,h3⟩:=least j pj
   exact ⟨K,by omega,h2,h3⟩
  ·exact ⟨n + 1,Nat.le_refl _,h,fun k hk pk=>e ⟨k,by omega,pk⟩⟩
 termination_by n=>n
 decreasing_by omega
theorem qsv {x:Nat} (h:x < 18446744073709551616):∃ K,K≤9∧x / 128 ^ K < 128∧∀ k < K,128≤x / 128 ^ k:=by
 obtain ⟨K,h1,h2,h3⟩:=least (P:=fun k=>x / 128 ^ k < 128) 9 (by show x / 9223372036854775808 < 128; omega)
 exact ⟨K,h1,h2,fun k hk=>by have:=h3 k hk; omega⟩
theorem JL (x k:Nat):x / 128 ^ k / 128=x / 128 ^ (k + 1):=by rw [Nat.div_div_eq_div_mul,Nat.pow_succ]
def hiB (x k:Nat):UInt8:=UInt8.ofNat (x / 128 ^ k % 128 + 128)
def loB (x:Nat):UInt8:=UInt8.ofNat (x % 128)
def dn (x:Nat):Nat→List UInt8
 | 0=>[loB x]
 | k + 1=>hiB x (k + 1)::dn x k
def cdn (x:Nat):Nat→List UInt8
 | 0=>[]
 | k + 1=>hiB x k::cdn x k
theorem qhK (x:Nat):∀ k,(dn x k).length=k + 1
 | 0=>rfl
 | k + 1=>by unfold dn; rw [List.length_cons,qhK x k]
theorem Xg (x:Nat):∀ k,(cdn x k).length=k
 | 0=>rfl
 | k + 1=>by unfold cdn; rw [List.length_cons,Xg x k]
theorem qjo (x:Nat):∀ k,(cdn x (k + 1)).set k (loB x)=dn x k
 | 0=>rfl
 | k + 1=>by
  show hiB x (k + 1)::(cdn x (k + 1)).set k (loB x)=_
  rw [qjo x k]; rfl
theorem qjf (x:Nat):∀ k,(cdn x (k + 1)).getD k 0=hiB x 0
 | 0=>rfl
 | k + 1=>by
  show (hiB x (k + 1)::cdn x (k + 1)).getD (k + 1) 0=_
  rw [List.getD_cons_succ]; exact qjf x k
section
variable {N:Nat} [Vw N]
theorem qg0 {x K:Nat} (hK:K≤9) (h1:x / 128 ^ K < 128) (h2:∀ k < K,128≤x / 128 ^ k):VB N (x:Int)=some ((K + 1:Nat):Int):=by
 have e7:∀ y:Nat,Qf ((y:Nat):Int) 7=((y / 128:Nat):Int):=fun y=>qbd y 7
 have key:X8 N ((x / 128 ^ 1:Nat):Int) 1=some (((x / 128 ^ (K + 1):Nat):Int),((K + 1:Nat):Int),false):=by
  refine (WZ (σ:=Unit) (B:=Z0 N) (g:=some) (at_:=fun k _=>(((x / 128 ^ (k + 1):Nat):Int),((k + 1:Nat):Int))) (I:=fun _ _=>True) (f:=fun _ s=>s) (n:=K)
   (fin:=fun _=>(((x / 128 ^ (K + 1):Nat):Int),((K + 1:Nat):Int),false)) (fun k s hk _=>⟨?_,trivial⟩) (fun s _=>?_) N 0 () trivial (Nat.zero_le _) (by have:=big N; omega))
  ·have hb:=h2 k hk
   have d:decide ((0:Int) < ((x / 128 ^ (k + 1):Nat):Int))=true:=decide_eq_true (by rw [← JL]; omega)
   have c1:qv (((k + 1:Nat):Int) + 1):=by unfold qv; omega
   unfold Z0
   rw [qbA,d,cond_true,Jo,jc c1,Jo,jc (by omega),qev,e7,JL,Zc]
  ·have d:decide ((0:Int) < ((x / 128 ^ (K + 1):Nat):Int))=false:=decide_eq_false (by rw [← JL]; omega)
   unfold Z0
   rw [qbA,d,cond_false,qev]
 unfold VB Ya
 rw [Jo,jc (by omega),run_bind,e7]
 rw [Nat.pow_one] at key
 rw [key,Option.bind_some,qev]
theorem qwx:∀ z < 256,uOr .u8 ((z:Nat):Int) 128=((z % 128 + 128:Nat):Int):=by decide +kernel
theorem qo7:∀ z < 128,jy .u8 ((z + 128:Nat):Int) 128=((z:Nat):Int):=by decide +kernel
theorem drop_set {l:List UInt8} {i:Nat} {c:UInt8} (h:i < l.length):(l.set i c).drop i=c::l.drop (i + 1):=by
 rw [List.drop_eq_getElem_cons (by rw [List.length_set]; exact h),List.getElem_set_self,List.drop_set_of_lt (by omega)]
theorem qoV {x r:Nat} (hr:r≤10):Wt N (x:Int) (r:Int) r (r:Int) (List.replicate r 0) 0=some (cdn x r,(r:Int),false):=by
 have h:=qbl (B:=VN N (x:Int) (r:Int) r (r:Int)) (g:=some) (I:=fun v=>v.1.length=r∧∃ k:Nat,k≤r∧v.2=(k:Int)∧v.1.drop (r - k)=cdn x k) (Q:=fun y=>y=(cdn x r,(r:Int),false)) (fun v=>r - v.2.toNat) ?_ N (List.replicate r 0,0)
  ⟨by simp,0,Nat.zero_le _,rfl,by simp [cdn]⟩ (by have:=big N; simp; omega)
 ·obtain ⟨y,e,rfl⟩:=h
  exact e
 rintro ⟨l,v⟩ ⟨hl,k,hk,hv,hd⟩
 simp only at hl hv hd
 subst hv
 by_cases h:k < r
 ·left
  have c1:qv ((r:Int) - 1):=by unfold qv; omega
  have c2:qv ((r:Int) - 1 - (k:Int)):=by unfold qv; omega
  have c3:qv ((7:Int) * (k:Int)):=by unfold qv; omega
  have c4:(0:Int)≤(7:Int) * (k:Int):=by omega
  have c5:(0:Int)≤(r:Int) - 1 - (k:Int)∧(r:Int) - 1 - (k:Int) < ((r:Nat):Int):=by omega
  have c6:XD l.length r ((r:Int) - 1 - (k:Int)).toNat:=⟨hl,by omega⟩
  have c7:qv ((k:Int) + 1):=by unfold qv; omega
  have hb:UInt8.ofNat (uOr .u8 (IntKind.u8.wrap (Qf ((x:Nat):Int) (min ((7:Int) * (k:Int)).toNat 64))) 128).toNat=hiB x k:=by
   rw [show min ((7:Int) * (k:Int)).toNat 64=7 * k by omega,qbd,qwA,qwx _ (Nat.mod_lt _ (by omega)),Int.toNat_natCast,Nat.pow_mul,Nat.mod_mod_of_dvd _ (by decide)]
   rfl
  refine ⟨(l.set ((r:Int) - 1 - (k:Int)).toNat (hiB x k),((k + 1:Nat):Int)),?_,⟨?_,k + 1,h,rfl,?_⟩,?_⟩
  ·unfold VN
   rw [qbA,dec_lt h,cond_true,Jo,jc c1,Jo,jc c2,Jo,jc c3,Jo,jc c4]
   rw [← hb]
   show chk _ (chk _ (chk _ (chk _ _)))=_
   rw [jc c5,jc c6,jc (qsm _ _),jc c7,Zc]
   rfl
  ·simp only [List.length_set]; exact hl
  ·show (l.set ((r:Int) - 1 - (k:Int)).toNat (hiB x k)).drop (r - (k + 1))=hiB x k::cdn x k
   rw [show ((r:Int) - 1 - (k:Int)).toNat=r - (k + 1) by omega,drop_set (by omega),show r - (k + 1) + 1=r - k by omega,hd]
  ·simp only [Int.toNat_natCast]; omega
 ·right
  obtain rfl:k=r:=by omega
  rw [Nat.sub_self,List.drop_zero] at hd
  refine ⟨(l,((k:Nat):Int),false),_,?_,rfl,by rw [hd]⟩
  unfold VN
  rw [qbA,vL (Nat.lt_irrefl k),cond_false,qev]
theorem qtD {x K:Nat} (hK:K≤9) (h1:x / 128 ^ K < 128) (h2:∀ k < K,128≤x / 128 ^ k):JA N (x:Int)=some (dn x K,K + 1):=by
 have e1:=qg0 (N:=N) hK h1 h2
 have e2:=qoV (N:=N) (x:=x) (r:=K + 1) (by omega)
 have hrl:(List.replicate ((K + 1:Nat):Int).toNat (0:UInt8)).length=K + 1:=by simp
 have e3:Wt N (x:Int) ((K + 1:Nat):Int) (List.replicate ((K + 1:Nat):Int).toNat (0:UInt8)).length ((K + 1:Nat):Int) (List.replicate ((K + 1:Nat):Int).toNat (0:UInt8)) 0=some (cdn x (K + 1),((K + 1:Nat):Int),false):=by
  rw [hrl]; exact e2
 have c1:Km ((K + 1:Nat):Int) ((K + 1:Nat):Int) 1:=⟨rfl,by omega,by unfold qP; omega⟩
 have c2:qv (((K + 1:Nat):Int) - 1):=by unfold qv; omega
 have c3:(0:Int)≤((K + 1:Nat):Int) - 1∧((K + 1:Nat):Int) - 1 < ((K + 1:Nat):Int):=by omega
 have en:(((K + 1:Nat):Int) - 1).toNat=K:=by omega
 have hg:Y_ (cdn x (K + 1)) (K + 1) (((K + 1:Nat):Int) - 1).toNat=some (hiB x 0):=by
  rw [en,qr6 (d:=0) (Xg x (K + 1)) (by rw [Xg]; omega),qjf]
 have c4:XD (cdn x (K + 1)).length (K + 1) (((K + 1:Nat):Int) - 1).toNat:=⟨Xg _ _,by omega⟩
 have hb:UInt8.ofNat (jy .u8 (((hiB x 0).toNat:Nat):Int) 128).toNat=loB x:=by
  have:(hiB x 0).toNat=x % 128 + 128:=by
   unfold hiB
   rw [Nat.pow_zero,Nat.div_one,UInt8.toNat_ofNat_of_lt' (show x % 128 + 128 < UInt8.size by unfold UInt8.size; omega)]
  rw [this,qo7 _ (Nat.mod_lt _ (by omega)),Int.toNat_natCast]
  rfl
 unfold JA qbY
 rw [run_bind,e1,Option.bind_some,Jo,jc c1,run_bind,e3,Option.bind_some,Jo,jc c2,hrl,Jo,jc c3,run_bind,hg,Option.bind_some]
 show chk _ (chk _ (chk _ _))=_
 rw [jc c3,jc c4,jc (qjs _ _),← qjo,← hb,en]
 rfl
end
end Go.Rx
end
set_option maxRecDepth 100000
noncomputable section
namespace Go.Rx
open Go.Proofs
end Go.Rx
end
set_option maxRecDepth 100000
noncomputable section
namespace Go.Rx
open Go.Proofs
end Go.Rx
end
set_option maxRecDepth 100000
noncomputable section
namespace Go.Rx
open Go.Proofs
end Go.Rx
end
set_option maxRecDepth 100000
noncomputable section
namespace Go.Rx
open Go.Proofs
end Go.Rx
end
set_option maxRecDepth 100000
noncomputable section
namespace Go.Rx
open Go.Proofs
end Go.Rx
end
set_option maxRecDepth 100000
noncomputable section
namespace Go.Rx
open Go.Proofs
end Go.Rx
end
set_option maxRecDepth 100000
noncomputable section
namespace Go.Rx
open Go.Proofs
end Go.Rx
end
set_option maxRecDepth 100000
noncomputable section
namespace Go.Rx
open Go.Proofs
theorem v5 {n:Nat} (h:n < 18446744073709551616):IntKind.u64.wrap ((n:Nat):Int)=((n:Nat):Int):=by
 have:IntKind.u64.wrap ((n:Nat):Int)=((n:Nat):Int) % 18446744073709551616:=by simp [IntKind.wrap,IntKind.bits,IntKind.signed]
 rw [this]; omega
end Go.Rx
end
set_option maxRecDepth 100000
noncomputable section
namespace Go.Rx
open Go.Proofs
end Go.Rx
end
set_option maxRecDepth 100000
noncomputable section
namespace Go.Rx
open Go.Proofs
end Go.Rx
end
set_option maxRecDepth 100000
noncomputable section
namespace Go.Rx
open Go.Proofs
end Go.Rx
end
set_option maxRecDepth 100000
noncomputable section
namespace Go.Rx
open Go.Proofs
end Go.Rx
end
set_option maxRecDepth 100000
noncomputable section
namespace Go.Rx
open Go.Proofs
end Go.Rx
end
set_option maxRecDepth 100000
noncomputable section
namespace Go.Rx
open Go.Proofs
section
variable {N:Nat} [Vw N]
theorem qik {s:qi} (h:stB s=true):0≤s.1∧s.1≤1099511627776∧0≤s.2∧s.2 < 8:=by
 unfold stB at h
 by_cases hz:s=zSt
 ·subst hz
  exact ⟨Int.le_refl _,by decide,Int.le_refl _,by decide⟩
 ·rw [decide_eq_false hz] at h
  simp only [Bool.false_or,Bool.and_eq_true,decide_eq_true_iff] at h
  omega
theorem qv7 {s:qi} (h:stB s=true):uOr .u64 (Jr .u64 (IntKind.u64.wrap s.1) 3) (IntKind.u64.wrap s.2)=IntKind.u64.wrap ((8:Int) * s.1 + s.2):=by
 obtain ⟨n,r⟩:=s
 obtain ⟨h0,h1,h2,h3⟩:=qik h
 dsimp only at h0 h1 h2 h3 ⊢
 obtain ⟨x,rfl⟩:∃ x:Nat,n=(x:Int):=⟨n.toNat,by omega⟩
 obtain ⟨y,rfl⟩:∃ y:Nat,r=(y:Int):=⟨r.toNat,by omega⟩
 rw [v5 (by omega),v5 (by omega),show (8:Int) * (x:Int) + (y:Int)=((8 * x + y:Nat):Int) by omega,v5 (by omega)]
 unfold Jr
 rw [show ((x:Nat):Int) * 2 ^ 3=((8 * x:Nat):Int) by omega,v5 (by omega)]
 refine (u64_or_nat (8 * x) y (by omega) (by omega)).trans ?_
 rw [show 8 * x=2 ^ 3 * x by omega,← Nat.two_pow_add_eq_or_of_lt (by omega)]
end
end Go.Rx
end
set_option maxRecDepth 100000
noncomputable section
namespace Go.Rx
open Go.Proofs
open Go.Lib (compareBytes)
end Go.Rx
end
set_option maxRecDepth 100000
noncomputable section
namespace Go.Rx
open Go.Proofs
end Go.Rx
end
set_option maxRecDepth 100000
noncomputable section
namespace Go.Rx
open Go.Proofs
end Go.Rx
end
set_option maxRecDepth 100000
noncomputable section
namespace Go.Rx
open Go.Proofs
end Go.Rx
end
set_option maxRecDepth 100000
noncomputable section
namespace Go.Rx
open Go.Proofs
theorem qsA {α:Type} {d:α} {l:List α} {k:Nat} (h:k < l.length):l.drop k=l.getD k d::l.drop (k + 1):=by
 rw [List.drop_eq_getElem_cons h,List.getD_eq_getElem?_getD,List.getElem?_eq_getElem h]; rfl
end Go.Rx
end
set_option maxRecDepth 100000
noncomputable section
namespace Go.Rx
open Go.Proofs
structure Cod {α:Type} (V:α→Prop) (put:α→List UInt8) (get:List UInt8→Option (α×Nat)):Prop where
 back:∀ a r,V a→get (put a++r)=some (a,(put a).length)
 forth:∀ b a n,get b=some (a,n)→V a∧n≤b.length∧b.take n=put a
theorem Cod.cut {α:Type} {V:α→Prop} {put:α→List UInt8} {get:List UInt8→Option (α×Nat)} (C:Cod V put get) {a:α} (h:V a) {k:Nat} (hk:k < (put a).length):get ((put a).take k)=none:=by
 cases e:get ((put a).take k) with
 | none=>rfl
 | some x=>
  obtain ⟨a',n⟩:=x
  obtain ⟨h1,h2,h3⟩:=C.forth _ _ _ e
  have hn:n≤k:=by rw [List.length_take] at h2; omega
  rw [List.take_take,Nat.min_eq_left hn] at h3
  have h4:=C.back a' ((put a).drop n) h1
  rw [← h3,List.take_append_drop,List.length_take,Nat.min_eq_left (by omega)] at h4
  have h5:=C.back a [] h
  rw [List.append_nil,h4] at h5
  have:n=(put a).length:=(Prod.mk.inj (Option.some.inj h5)).2
  omega
def rdN:Nat→Nat→List UInt8→Option (Nat×Nat)
 | _,_,[]=>none
 | i,n,c::r=>if i=10∨(i=9∧0 < n / 144115188075855872)∨(i=0∧c.toNat=128) then none else if c.toNat < 128 then some (n * 128 + c.toNat % 128,i + 1) else rdN (i + 1) (n * 128 + c.toNat % 128) r
theorem qsK (i n:Nat) (c:UInt8) (r:List UInt8):rdN i n (c::r)=if i=10∨(i=9∧0 < n / 144115188075855872)∨(i=0∧c.toNat=128) then none else if c.toNat < 128 then some (n * 128 + c.toNat % 128,i + 1) else rdN (i + 1) (n * 128 + c.toNat % 128) r:=rfl
def qbB (x K:Nat):Prop:=K≤9∧x < 18446744073709551616∧x / 128 ^ K < 128∧∀ k < K,128≤x / 128 ^ k
theorem qpa (x k:Nat):(hiB x k).toNat=x / 128 ^ k % 128 + 128:=by
 unfold hiB
 rw [UInt8.toNat_ofNat_of_lt' (show x / 128 ^ k % 128 + 128 < UInt8.size by unfold UInt8.size; omega)]
theorem qvH (x:Nat):(loB x).toNat=x % 128:=by
 unfold loB
 rw [UInt8.toNat_ofNat_of_lt' (show x % 128 < UInt8.size by unfold UInt8.size; omega)]
theorem ql3 {x:Nat} (hx:x < 18446744073709551616) (r:List UInt8):∀ (k i:Nat),i + k≤9→(i=0→k≠0→x / 128 ^ k % 128≠0)→rdN i (x / 128 ^ (k + 1)) (dn x k++r)=some (x,i + k + 1)
 | 0,i,hi,_=>by
  show rdN i (x / 128 ^ 1) (loB x::r)=_
  have h9:i=9→¬ 0 < x / 128 ^ 1 / 144115188075855872:=fun _=>by rw [Nat.pow_one]; omega
  unfold rdN
  rw [qvH,if_neg (by rintro (h | ⟨h,h'⟩ | ⟨_,h⟩); omega; exact h9 h h'; omega),if_pos (by omega),Nat.pow_one,Nat.mod_mod,show x / 128 * 128 + x % 128=x by omega]
 | k + 1,i,hi,h0=>by
  show rdN i (x / 128 ^ (k + 2)) (hiB x (k + 1)::(dn x k++r))=_
  unfold rdN
  have h1:x / 128 ^ (k + 2) * 128 + (x / 128 ^ (k + 1) % 128 + 128) % 128=x / 128 ^ (k + 1):=by
   rw [← JL]; omega
  rw [qpa,if_neg (by rintro (h | ⟨h,_⟩ | ⟨h,h'⟩); omega; omega; have:=h0 h (by omega); omega),if_neg (by omega),h1,ql3 hx r k (i + 1) (by omega) (fun h=>by omega)]
  congr 2; omega
theorem qwp {x K:Nat} (h:qbB x K) (hK:K≠0):x / 128 ^ K % 128≠0:=by
 obtain ⟨h1,h2,h3,h4⟩:=h
 have:=h4 (K - 1) (by omega)
 have e:=JL x (K - 1)
 rw [show K - 1 + 1=K by omega] at e
 omega
theorem quZ {x K:Nat} (h:qbB x K) (r:List UInt8):rdN 0 0 (dn x K++r)=some (x,K + 1):=by
 have h0:x / 128 ^ (K + 1)=0:=by rw [← JL]; exact Nat.div_eq_of_lt h.2.2.1
 have:=ql3 h.2.1 r K 0 (by have:=h.1; omega) fun _ hK=>qwp h hK
 rw [h0] at this
 rw [this]; congr 2; omega
theorem qjq : ∀ (b : List UInt8) (i n x u : Nat), i ≤ 10 → (i ≤ 9 → n < 128 ^ i) → rdN i n b = some (x, u) →
    ∃ k,u=i + k + 1∧i + k≤9∧k + 1≤b.length∧b.take (k + 1)=dn x k∧x / 128 ^ (k + 1)=n∧(i=0→k≠0→x / 128 ^ k % 128≠0)∧x < 18446744073709551616
 | [],_,_,_,_,_,_,h=>by cases h
 | c::r,i,n,x,u,hi,hn,h=>by
  unfold rdN at h
  split at h
  ·cases h
  rename_i hno
  have hi9:i≤9:=by
   by_cases e:i=10
   ·exact (hno (.inl e)).elim
   ·omega
  have hc:=c.toNat_lt
  split at h
  ·rename_i hlt
   have h:=Option.some.inj h
   obtain ⟨rfl,rfl⟩:=Prod.mk.inj h
   refine ⟨0,rfl,hi9,by simp,?_,?_,fun _ h=>(h rfl).elim,?_⟩
   ·show [c]=[loB (n * 128 + c.toNat % 128)]
    unfold loB
    rw [show (n * 128 + c.toNat % 128) % 128=c.toNat by omega,UInt8.ofNat_toNat]
   ·rw [Nat.pow_one]; omega
   ·by_cases e:i=9
    ·have:¬ 0 < n / 144115188075855872:=fun h=>hno (.inr (.inl ⟨e,h⟩))
     omega
    ·have h1:=hn hi9
     have h2:128 ^ i≤128 ^ 8:=Nat.pow_le_pow_right (by omega) (by omega)
     have:(128:Nat) ^ 8=72057594037927936:=by decide
     omega
  ·rename_i hge
   have hi8:i + 1≤10:=by omega
   obtain ⟨k,h1,h2,h3,h4,h5,h6,h7⟩:=qjq r (i + 1) (n * 128 + c.toNat % 128) x u hi8 (fun _=>by have:=hn hi9; rw [Nat.pow_succ]; omega) h
   refine ⟨k + 1,by omega,by omega,by simp; omega,?_,?_,fun h0 _=>?_,h7⟩
   ·show c::r.take (k + 1)=hiB x (k + 1)::dn x k
    rw [h4]
    congr 1
    unfold hiB
    rw [h5,show (n * 128 + c.toNat % 128) % 128 + 128=c.toNat by omega,UInt8.ofNat_toNat]
   ·rw [← JL,h5]; omega
   ·rw [h5]
    intro e
    exact hno (.inr (.inr ⟨h0,by omega⟩))
theorem qlU {b:List UInt8} {x u:Nat} (h:rdN 0 0 b=some (x,u)):∃ K,u=K + 1∧qbB x K∧K + 1≤b.length∧b.take (K + 1)=dn x K:=by
 obtain ⟨k,h1,h2,h3,h4,h5,h6,h7⟩:=qjq b 0 0 x u (by omega) (fun _=>by decide) h
 refine ⟨k,by omega,⟨by omega,h7,?_,fun j hj=>?_⟩,h3,h4⟩
 ·have:=JL x k
  rw [h5] at this; omega
 ·have ht:=h6 rfl (by omega)
  have h8:1≤x / 128 ^ k:=by
   rcases Nat.eq_zero_or_pos (x / 128 ^ k) with e | e
   ·rw [e] at ht; omega
   ·exact e
  have h9:128 ^ k≤x:=by
   have:=(Nat.le_div_iff_mul_le (Nat.pow_pos (by omega))).1 h8
   omega
  refine (Nat.le_div_iff_mul_le (Nat.pow_pos (by omega))).2 ?_
  have:128 ^ (j + 1)≤128 ^ k:=Nat.pow_le_pow_right (by omega) hj
  rw [Nat.pow_succ] at this
  omega
theorem qpp {x:Nat} (h:x < 18446744073709551616):∃ K,qbB x K:=by
 obtain ⟨K,h1,h2,h3⟩:=qsv h
 exact ⟨K,h1,h,h2,h3⟩
def qwl (x:Nat):Nat:=Classical.epsilon fun K=>qbB x K
theorem qex {x:Nat} (h:x < 18446744073709551616):qbB x (qwl x):=Classical.epsilon_spec (qpp h)
theorem que {x K L:Nat} (h:qbB x K) (h':qbB x L):K=L:=by
 rcases Nat.lt_trichotomy K L with e | e | e
 ·have:=h'.2.2.2 K e; have:=h.2.2.1; omega
 ·exact e
 ·have:=h.2.2.2 L e; have:=h'.2.2.1; omega
def zw (x:Nat):List UInt8:=dn x (qwl x)
theorem qpw {x K:Nat} (h:qbB x K):zw x=dn x K:=by unfold zw; rw [que (qex h.2.1) h]
theorem Qw:Cod (fun x:Nat=>x < 18446744073709551616) zw (rdN 0 0):=by
 refine ⟨fun x r h=>?_,fun b x n h=>?_⟩
 ·unfold zw
  rw [quZ (qex h),qhK]
 ·obtain ⟨K,rfl,h1,h2,h3⟩:=qlU h
  exact ⟨h1.2.1,h2,by rw [h3,qpw h1]⟩
theorem V5 {x:Nat} (h:x < 18446744073709551616):1≤(zw x).length∧(zw x).length≤10:=by
 unfold zw
 rw [qhK]
 have:=(qex h).1
 omega
theorem qa4 {b:List UInt8} {x n:Nat} (h:rdN 0 0 b=some (x,n)):1≤n∧n≤10∧n≤b.length:=by
 obtain ⟨K,rfl,h1,h2,_⟩:=qlU h
 have:=h1.1
 omega
def qgr (b:List UInt8):Int×Int×Bool:=match rdN 0 0 b with
 | some (x,k)=>((x:Int),(k:Int),true)
 | none=>(0,0,false)
theorem qvt:∀ z < 256,jy .u8 ((z:Nat):Int) 128=((z % 128:Nat):Int):=by decide +kernel
theorem qwq {n c:Nat} (hn:n < 144115188075855872) (hc:c < 256):uOr .u64 (Jr .u64 (n:Int) 7) (IntKind.u64.wrap (jy .u8 (c:Int) 128))=((n * 128 + c % 128:Nat):Int):=by
 rw [qvt c hc,v5 (by omega)]
 unfold Jr
 rw [show ((n:Nat):Int) * 2 ^ 7=((128 * n:Nat):Int) by omega,v5 (by omega)]
 refine (u64_or_nat (128 * n) (c % 128) (by omega) (by omega)).trans ?_
 rw [show 128 * n=2 ^ 7 * n by omega,← Nat.two_pow_add_eq_or_of_lt (by omega)]
 congr 1; omega
section
variable {N:Nat} [Vw N]
theorem qm7 {x:Nat} (h:x < 18446744073709551616):JA N (x:Int)=some (zw x,(zw x).length):=by
 have hK:=qex h
 rw [qtD hK.1 hK.2.2.1 hK.2.2.2]
 unfold zw
 rw [qhK]
def quR (i n:Nat) (c:UInt8):Tree (QO⊕vn):=
 .chk ((0:Int)≤7) <| .cond (decide (((c.toNat:Nat):Int) < 128)) (.chk (qv (((i:Nat):Int) + 1)) <|
  .ret (.inr (.inr (.inr (uOr .u64 (Jr .u64 (n:Int) 7) (IntKind.u64.wrap (jy .u8 ((c.toNat:Nat):Int) 128)),((i:Nat):Int) + 1))))) <| .chk (qv (((i:Nat):Int) + 1)) <|
  .ret (.inl (uOr .u64 (Jr .u64 (n:Int) 7) (IntKind.u64.wrap (jy .u8 ((c.toNat:Nat):Int) 128)),((i:Nat):Int) + 1))
def qwC (y:vn):Option (Int×Int):=match y with
 | .inr (.inr z)=>some z
 | _=>none
theorem qu8 (b:List UInt8) (hb:b.length≤1000000000000000):∃ y,qaD N b ((b.length:Nat):Int) 0 0=some y∧qwC y=(rdN 0 0 b).map fun p=>((p.1:Int),(p.2:Int)):=by
 refine qbl (B:=vm N b ((b.length:Nat):Int)) (g:=some) (I:=fun v=>∃ i n:Nat,v=((n:Int),(i:Int))∧i≤b.length∧i≤10∧(i≤9→n < 128 ^ i)∧rdN i n (b.drop i)=rdN 0 0 b) (fun v=>11 - v.2.toNat) ?_ N _
  ⟨0,0,rfl,Nat.zero_le _,by omega,fun _=>by decide,by rw [List.drop_zero]⟩ (by have:=big N; simp; omega)
 rintro v ⟨i,n,rfl,hi,h10,hn,hr⟩
 by_cases hlt:i < b.length
 ·have hd:=qsA (d:=(0:UInt8)) hlt
  have hg:zn b ((i:Nat):Int)=some (b.getD i 0):=XB hlt
  generalize b.getD i 0=c at hd hg
  rw [hd] at hr
  have hc:=c.toNat_lt
  have c1:qv (((i:Nat):Int) + 1):=Vn (by omega)
  by_cases hs:i=10∨(i=9∧0 < n / 144115188075855872)∨(i=0∧c.toNat=128)
  ·right
   have hnone:rdN 0 0 b=none:=by rw [← hr]; unfold rdN; rw [if_pos hs]
   rw [hnone]
   rcases hs with rfl | ⟨rfl,h⟩ | ⟨rfl,h⟩
   ·exact ⟨_,_,by unfold vm; exact w_t (dec_lt hlt) <| qo hg <| w_t rfl <| w_t rfl <| qy rfl,by rfl,by rfl⟩
   ·have e:decide ((0:Int) < Qf ((n:Nat):Int) 57)=true:=by rw [qbd]; exact decide_eq_true (by omega)
    exact ⟨_,_,by unfold vm; exact w_t (dec_lt hlt) <| qo hg <| w_f rfl <| w_t rfl <| qF (by omega) <| w_t e <| w_t e <| qy rfl,by rfl,by rfl⟩
   ·have e:decide (((c.toNat:Nat):Int)=128)=true:=decide_eq_true (by omega)
    exact ⟨_,_,by unfold vm; exact w_t (dec_lt hlt) <| qo hg <| w_f rfl <| w_f rfl <| w_t rfl <| w_t e <| qy rfl,by rfl,by rfl⟩
  ·have hi9 : i ≤ 9 := by
      by_cases e:i=10
      ·exact (hs (.inl e)).elim
      ·omega
   have hn57:n < 144115188075855872:=by
    by_cases e:i=9
    ·have:¬ 0 < n / 144115188075855872:=fun h=>hs (.inr (.inl ⟨e,h⟩))
     omega
    ·have h1:=hn hi9
     have h2:128 ^ i≤128 ^ 8:=Nat.pow_le_pow_right (by omega) (by omega)
     have:(128:Nat) ^ 8=72057594037927936:=by decide
     omega
   have w3:=qwq hn57 hc
   have h0:(0:Int)≤7:=by omega
   have tail:(quR i n c).run some=if c.toNat < 128 then some (.inr (.inr (.inr (((n * 128 + c.toNat % 128:Nat):Int),((i:Nat):Int) + 1)))) else some (.inl (((n * 128 + c.toNat % 128:Nat):Int),((i:Nat):Int) + 1)):=by
    unfold quR
    rw [w3]
    refine qF h0 ?_
    by_cases h:c.toNat < 128
    ·rw [if_pos h]
     exact w_t (decide_eq_true (by omega)) <| qF c1 <| qy rfl
    ·rw [if_neg h]
     exact w_f (decide_eq_false (by omega)) <| qF c1 <| qy rfl
   have step:(vm N b ((b.length:Nat):Int) ((n:Int),(i:Int))).run some=if c.toNat < 128 then some (.inr (.inr (.inr (((n * 128 + c.toNat % 128:Nat):Int),((i:Nat):Int) + 1)))) else some (.inl (((n * 128 + c.toNat % 128:Nat):Int),((i:Nat):Int) + 1)):=by
    unfold vm
    refine w_t (dec_lt hlt) <| qo hg <| w_f (decide_eq_false (by show ¬ ((i:Nat):Int)=10; omega)) ?_
    refine zT rfl (fun h9=>?_) fun h9=>?_
    ·have h9:((i:Nat):Int)=9:=of_decide_eq_true h9
     have e:decide ((0:Int) < Qf ((n:Nat):Int) 57)=false:=by rw [qbd]; exact decide_eq_false (by omega)
     exact qF (by omega) <| w_f e <| w_f (decide_eq_false (by show ¬ ((i:Nat):Int)=0; omega)) <| tail
    ·refine zT rfl (fun h00=>?_) fun h00=>tail
     have h00:((i:Nat):Int)=0:=of_decide_eq_true h00
     have:¬ c.toNat=128:=fun h=>hs (.inr (.inr ⟨by omega,h⟩))
     exact w_f (decide_eq_false (by show ¬ ((c.toNat:Nat):Int)=128; omega)) <| tail
   rw [qsK,if_neg hs] at hr
   by_cases h:c.toNat < 128
   ·right
    rw [if_pos h] at step hr
    refine ⟨_,_,step,rfl,?_⟩
    rw [← hr]; rfl
   ·left
    rw [if_neg h] at step hr
    refine ⟨_,step,⟨i + 1,n * 128 + c.toNat % 128,rfl,hlt,by omega,fun _=>?_,hr⟩,?_⟩
    ·have:=hn hi9; rw [Nat.pow_succ]; omega
    ·show 11 - (((i:Nat):Int) + 1).toNat < 11 - ((i:Nat):Int).toNat
     omega
 ·right
  obtain rfl:i=b.length:=by omega
  rw [List.drop_length] at hr
  exact ⟨_,_,by unfold vm; exact w_f (vL (Nat.lt_irrefl _)) (qy rfl),by rfl,by rw [← hr]; rfl⟩
theorem Yx {b:List UInt8} (hb:b.length≤1000000000000000):JT N b=some (qgr b):=by
 obtain ⟨y,e,hy⟩:=qu8 (N:=N) b hb
 unfold JT qbM qgr
 refine qo e ?_
 cases hr:rdN 0 0 b with
 | none=>
  rw [hr] at hy
  rcases y with z | z | z
  ·exact w_l rfl (qy rfl)
  ·exact w_r rfl <| w_l rfl (qy rfl)
  ·cases hy
 | some p=>
  rw [hr] at hy
  have:=qa4 (x:=p.1) (n:=p.2) hr
  rcases y with z | z | z
  ·cases hy
  ·cases hy
  ·have hz:z=((p.1:Int),(p.2:Int)):=Option.some.inj hy
   subst hz
   exact w_r rfl <| w_r rfl <| w_f (decide_eq_false (by show ¬ ((p.2:Nat):Int)=0; omega)) <| qy rfl
end
end Go.Rx
end
set_option maxRecDepth 100000
noncomputable section
namespace Go.Rx
open Go.Proofs
def vA (s:List UInt8):List UInt8:=zw s.length++s
def rdT (most:Nat) (b:List UInt8):Option (List UInt8×Nat):=(rdN 0 0 b).bind fun p=>if p.1≤most∧p.1≤b.length - p.2 then some ((b.drop p.2).take p.1,p.2 + p.1) else none
theorem Wb {most:Nat} (hm:most≤1000000000):Cod (fun s:List UInt8=>s.length≤most) vA (rdT most):=by
 refine ⟨fun s r h=>?_,fun b s n h=>?_⟩
 ·unfold rdT vA
  rw [List.append_assoc,Qw.back s.length (s++r) (by show s.length < _; omega),Option.bind_some,if_pos ⟨h,by rw [List.length_append,List.length_append]; show s.length≤(zw s.length).length + (s.length + r.length) - (zw s.length).length; omega⟩]
  show some (((zw s.length++(s++r)).drop (zw s.length).length).take s.length,(zw s.length).length + s.length)=_
  rw [List.drop_left,List.take_left,List.length_append]
 ·unfold rdT at h
  cases hr:rdN 0 0 b with
  | none=>rw [hr] at h; cases h
  | some p=>
   obtain ⟨x,u⟩:=p
   rw [hr,Option.bind_some] at h
   split at h
   ·rename_i hc
    obtain ⟨h1,h2,h3⟩:=Qw.forth b x u hr
    obtain ⟨rfl,rfl⟩:=Prod.mk.inj (Option.some.inj h)
    have hl:((b.drop u).take x).length=x:=by rw [List.length_take,List.length_drop]; have:x≤b.length - u:=hc.2; omega
    refine ⟨by show ((b.drop u).take x).length≤most; rw [hl]; exact hc.1,by show u + x≤_; have:x≤b.length - u:=hc.2; omega,?_⟩
    show b.take (u + x)=vA ((b.drop u).take x)
    unfold vA
    rw [hl,← h3,List.take_add]
   ·cases h
theorem qd_ {s:List UInt8} (h:s.length≤1000000000):(vA s).length≤s.length + 10:=by
 have:=(V5 (x:=s.length) (by omega)).2
 unfold vA; rw [List.length_append]; omega
def Jv (s:qi):Nat:=((8:Int) * s.1 + s.2).toNat
def zN (s:qi):List UInt8:=zw (Jv s)
def rdS (b:List UInt8):Option (qi×Nat):=(rdN 0 0 b).bind fun p=>if stB (((p.1 / 8:Nat):Int),((p.1 % 8:Nat):Int))=true then some ((((p.1 / 8:Nat):Int),((p.1 % 8:Nat):Int)),p.2) else none
theorem qgd {s:qi} (h:stB s=true):Jv s < 18446744073709551616:=by
 have:=qik h
 unfold Jv; omega
theorem qqP {s:qi} (h:stB s=true):(((Jv s / 8:Nat):Int),((Jv s % 8:Nat):Int))=s:=by
 obtain ⟨n,r⟩:=s
 obtain ⟨h0,h1,h2,h3⟩:=qik h
 dsimp only at h0 h1 h2 h3
 unfold Jv
 exact Prod.ext (by show ((((8:Int) * n + r).toNat / 8:Nat):Int)=n; omega) (by show ((((8:Int) * n + r).toNat % 8:Nat):Int)=r; omega)
theorem qdV:Cod (fun s:qi=>stB s=true) zN rdS:=by
 refine ⟨fun s r h=>?_,fun b s n h=>?_⟩
 ·unfold rdS zN
  rw [Qw.back _ r (qgd h),Option.bind_some]
  show (if stB (((Jv s / 8:Nat):Int),((Jv s % 8:Nat):Int))=true then some ((((Jv s / 8:Nat):Int),((Jv s % 8:Nat):Int)),(zw (Jv s)).length) else none)=_
  rw [qqP h,if_pos h]
 ·unfold rdS at h
  cases hr:rdN 0 0 b with
  | none=>rw [hr] at h; cases h
  | some p=>
   obtain ⟨x,u⟩:=p
   rw [hr,Option.bind_some] at h
   split at h
   ·rename_i hc
    obtain ⟨h1,h2,h3⟩:=Qw.forth b x u hr
    obtain ⟨rfl,rfl⟩:=Prod.mk.inj (Option.some.inj h)
    refine ⟨hc,h2,?_⟩
    unfold zN Jv
    rw [show ((8:Int) * ((x / 8:Nat):Int) + ((x % 8:Nat):Int)).toNat=x by omega]
    exact h3
   ·cases h
def JO (p:qb):Prop:=if p.JM=true then 0≤p.jL∧p.jL≤200∧0≤p.Len∧p.Len≤200∧p.Lit=[] else p.jL=0∧p.Len=0∧p.Lit.length≤200
def zV (p:qb):List UInt8:=if p.JM=true then 1::(zw p.jL.toNat++zw p.Len.toNat) else 0::vA p.Lit
def rdP (b:List UInt8):Option (qb×Nat):=match b with
 | []=>none
 | c::r=>if 1 < c.toNat then none else if c.toNat=0 then (rdT 200 r).map fun p=>(qb.mk false 0 0 p.1,p.2 + 1)
  else (rdN 0 0 r).bind fun p=>(rdN 0 0 (r.drop p.2)).bind fun q=>if p.1≤200∧q.1≤200 then some (qb.mk true (p.1:Int) (q.1:Int) [],1 + p.2 + q.2) else none
theorem qfP (c : UInt8) (r : List UInt8) : rdP (c :: r) = if 1 < c.toNat then none else if c.toNat = 0 then (rdT 200 r).map fun p => (qb.mk false 0 0 p.1, p.2 + 1)
    else (rdN 0 0 r).bind fun p=>(rdN 0 0 (r.drop p.2)).bind fun q=>if p.1≤200∧q.1≤200 then some (qb.mk true (p.1:Int) (q.1:Int) [],1 + p.2 + q.2) else none:=rfl
theorem qgu {p:qb} (h:QV p=true):JO p:=by
 unfold QV inP at h
 unfold JO
 cases e:p.JM with
 | true=>
  rw [e,cond_true] at h
  simp only [Bool.and_eq_true,decide_eq_true_eq] at h
  rw [if_pos rfl]
  exact ⟨h.1.1.1,h.1.1.2,by omega,h.1.2.2,h.2⟩
 | false=>
  rw [e,cond_false] at h
  simp only [Bool.and_eq_true,decide_eq_true_eq] at h
  rw [if_neg (by simp)]
  have h1:=h.1
  refine ⟨by rw [h1]; rfl,by rw [h1]; rfl,by omega⟩
theorem KZ:Cod JO zV rdP:=by
 refine ⟨fun p r h=>?_,fun b p n h=>?_⟩
 ·obtain ⟨c,f,l,t⟩:=p
  unfold JO at h
  unfold zV
  cases c with
  | true=>
   have h:0≤f∧f≤200∧0≤l∧l≤200∧t=[]:=by
    have:=h
    rw [if_pos (show qb.JM (true,f,l,t)=true from rfl)] at this
    exact this
   obtain ⟨h1,h2,h3,h4,rfl⟩:=h
   rw [if_pos (show qb.JM (true,f,l,[])=true from rfl)]
   show rdP (1::(zw f.toNat++zw l.toNat)++r)=_
   rw [List.cons_append,qfP,if_neg (by decide),if_neg (by decide),List.append_assoc,Qw.back f.toNat _ (by show f.toNat < _; omega),Option.bind_some]
   show (rdN 0 0 ((zw f.toNat++(zw l.toNat++r)).drop (zw f.toNat).length)).bind _=_
   rw [List.drop_left,Qw.back l.toNat _ (by show l.toNat < _; omega),Option.bind_some]
   show (if f.toNat≤200∧l.toNat≤200 then some (qb.mk true ((f.toNat:Nat):Int) ((l.toNat:Nat):Int) [],1 + (zw f.toNat).length + (zw l.toNat).length) else none)=_
   rw [if_pos (by omega),Int.toNat_of_nonneg h1,Int.toNat_of_nonneg h3]
   refine congrArg some (Prod.ext rfl ?_)
   show 1 + (zw f.toNat).length + (zw l.toNat).length=(1::(zw f.toNat++zw l.toNat)).length
   rw [List.length_cons,List.length_append]; omega
  | false=>
   have h:f=0∧l=0∧t.length≤200:=by
    have:=h
    rw [if_neg (show ¬ qb.JM (false,f,l,t)=true from fun h=>by cases h)] at this
    exact this
   obtain ⟨rfl,rfl,h3⟩:=h
   rw [if_neg (show ¬ qb.JM (false,0,0,t)=true from fun h=>by cases h)]
   rw [List.cons_append,qfP,if_neg (by decide),if_pos (by decide)]
   show (rdT 200 (vA t++r)).map _=_
   rw [(Wb (most:=200) (by omega)).back t r h3]
   rfl
 ·cases b with
  | nil=>cases h
  | cons c b=>
   have h:(if 1 < c.toNat then none else if c.toNat=0 then (rdT 200 b).map fun p=>(qb.mk false 0 0 p.1,p.2 + 1)
    else (rdN 0 0 b).bind fun p=>(rdN 0 0 (b.drop p.2)).bind fun q=>if p.1≤200∧q.1≤200 then some (qb.mk true (p.1:Int) (q.1:Int) [],1 + p.2 + q.2) else none)=some (p,n):=h
   split at h
   ·cases h
   rename_i hc
   split at h
   ·rename_i h0
    cases ht:rdT 200 b with
    | none=>rw [ht] at h; cases h
    | some q=>
     obtain ⟨t,k⟩:=q
     rw [ht] at h
     obtain ⟨h1,h2,h3⟩:=(Wb (most:=200) (by omega)).forth b t k ht
     obtain ⟨rfl,rfl⟩:=Prod.mk.inj (Option.some.inj h)
     refine ⟨?_,by show k + 1≤b.length + 1; omega,?_⟩
     ·unfold JO
      rw [if_neg (show ¬ qb.JM (qb.mk false 0 0 t)=true from fun h=>by cases h)]
      exact ⟨rfl,rfl,h1⟩
     ·unfold zV
      rw [if_neg (show ¬ qb.JM (qb.mk false 0 0 t)=true from fun h=>by cases h)]
      show c::b.take k=0::vA t
      rw [h3]
      congr 1
      rw [← UInt8.ofNat_toNat (x:=c),h0]; rfl
   ·rename_i h0
    cases hf:rdN 0 0 b with
    | none=>rw [hf] at h; cases h
    | some q=>
     obtain ⟨f,k⟩:=q
     rw [hf,Option.bind_some] at h
     cases hl:rdN 0 0 (b.drop k) with
     | none=>rw [show ((f,k):Nat×Nat).2=k from rfl,hl] at h; cases h
     | some q2=>
      obtain ⟨l,j⟩:=q2
      rw [show ((f,k):Nat×Nat).2=k from rfl,hl,Option.bind_some] at h
      split at h
      ·rename_i hle
       have hle:f≤200∧l≤200:=hle
       obtain ⟨_,h2,h3⟩:=Qw.forth b f k hf
       obtain ⟨_,h4,h5⟩:=Qw.forth (b.drop k) l j hl
       rw [List.length_drop] at h4
       obtain ⟨rfl,rfl⟩:=Prod.mk.inj (Option.some.inj h)
       refine ⟨?_,by show 1 + k + j≤b.length + 1; omega,?_⟩
       ·unfold JO
        rw [if_pos (show qb.JM (qb.mk true (f:Int) (l:Int) [])=true from rfl)]
        exact ⟨by show (0:Int)≤(f:Int); omega,by show (f:Int)≤200; omega,by show (0:Int)≤(l:Int); omega,by show (l:Int)≤200; omega,rfl⟩
       ·unfold zV
        rw [if_pos (show qb.JM (qb.mk true (f:Int) (l:Int) [])=true from rfl)]
        show (c::b).take (1 + k + j)=1::(zw f++zw l)
        rw [show 1 + k + j=(k + j) + 1 by omega,List.take_succ_cons,List.take_add,h3,h5]
        congr 1
        rw [← UInt8.ofNat_toNat (x:=c),show c.toNat=1 by omega]; rfl
      ·cases h
section
variable {α:Type}
def rdM (g:List UInt8→Option (α×Nat)):Nat→List UInt8→Option (List α×Nat)
 | 0,_=>some ([],0)
 | m + 1,b=>(g b).bind fun p=>(rdM g m (b.drop p.2)).map fun q=>(p.1::q.1,p.2 + q.2)
theorem Kb {V:α→Prop} {put:α→List UInt8} {g:List UInt8→Option (α×Nat)} (C:Cod V put g):∀ m,Cod (fun l:List α=>l.length=m∧∀ x∈l,V x) (fun l=>(l.map put).flatten) (rdM g m)
 | 0 => ⟨fun l r h => by
     rw [List.length_eq_zero_iff.1 h.1]; rfl,fun b l n h=>by
     obtain ⟨rfl,rfl⟩:=Prod.mk.inj (Option.some.inj h)
     exact ⟨⟨rfl,fun x hx=>absurd hx List.not_mem_nil⟩,Nat.zero_le _,rfl⟩⟩
 | m + 1 => ⟨fun l r h => by
     cases l with
     | nil=>cases h.1
     | cons x l=>
      show rdM g (m + 1) ((put x++(l.map put).flatten)++r)=_
      unfold rdM
      rw [List.append_assoc,C.back x _ (h.2 x (List.mem_cons_self ..)),Option.bind_some]
      show (rdM g m ((put x++((l.map put).flatten++r)).drop (put x).length)).map _=_
      rw [List.drop_left,(Kb C m).back l r ⟨by have:=h.1; rw [List.length_cons] at this; omega,fun y hy=>h.2 y (List.mem_cons_of_mem _ hy)⟩]
      show some (x::l,(put x).length + ((l.map put).flatten).length)=some (x::l,(put x++(l.map put).flatten).length)
      rw [List.length_append],fun b l n h=>by
     unfold rdM at h
     cases e:g b with
     | none=>rw [e] at h; cases h
     | some p=>
      obtain ⟨x,k⟩:=p
      rw [e,Option.bind_some] at h
      cases e2:rdM g m (b.drop k) with
      | none=>rw [show ((x,k):α×Nat).2=k from rfl,e2] at h; cases h
      | some q=>
       obtain ⟨t,j⟩:=q
       rw [show ((x,k):α×Nat).2=k from rfl,e2] at h
       obtain ⟨h1,h2,h3⟩:=C.forth b x k e
       obtain ⟨h4,h5,h6⟩:=(Kb C m).forth _ t j e2
       rw [List.length_drop] at h5
       obtain ⟨rfl,rfl⟩:=Prod.mk.inj (Option.some.inj h)
       refine ⟨⟨by show t.length + 1=m + 1; rw [h4.1],fun y hy=>?_⟩,by show k + j≤b.length; omega,?_⟩
       ·rcases List.mem_cons.1 hy with rfl | hy
        ·exact h1
        ·exact h4.2 y hy
       ·show b.take (k + j)=put x++(t.map put).flatten
        rw [List.take_add,h3,h6]⟩
end
def jq (l:List qb):List UInt8:=zw l.length++(l.map zV).flatten
def rdD (b:List UInt8):Option (List qb×Nat):=(rdN 0 0 b).bind fun p=>if p.1≤60 then (rdM rdP p.1 (b.drop p.2)).bind fun q=>if vl q.1=true then some (q.1,p.2 + q.2) else none else none
theorem Yv {l:List qb}:vl l=true↔(∀ p∈l,QV p=true)∧l.length≤60∧W_ l l.length≤200:=by
 unfold vl
 rw [Bool.and_eq_true,Bool.and_eq_true,decide_eq_true_iff,decide_eq_true_iff,JK,and_assoc]
 constructor
 ·rintro ⟨h,h2⟩
  refine ⟨fun p hp=>?_,h2⟩
  obtain ⟨i,hi,rfl⟩:=List.getElem_of_mem hp
  have:=h i hi
  rw [List.getD_eq_getElem?_getD,List.getElem?_eq_getElem hi] at this
  exact this
 ·rintro ⟨h,h2⟩
  refine ⟨fun j hj=>?_,h2⟩
  rw [List.getD_eq_getElem?_getD,List.getElem?_eq_getElem hj]
  exact h _ (List.getElem_mem hj)
theorem qbr:Cod (fun l:List qb=>vl l=true) jq rdD:=by
 refine ⟨fun l r h=>?_,fun b l n h=>?_⟩
 ·obtain ⟨h1,h2,_⟩:=Yv.1 h
  unfold rdD jq
  rw [List.append_assoc,Qw.back l.length _ (by show l.length < _; omega),Option.bind_some]
  show (if l.length≤60 then (rdM rdP l.length ((zw l.length++((l.map zV).flatten++r)).drop (zw l.length).length)).bind _ else none)=_
  rw [if_pos h2,List.drop_left,(Kb KZ l.length).back l r ⟨rfl,fun p hp=>qgu (h1 p hp)⟩,Option.bind_some]
  show (if vl l=true then some (l,(zw l.length).length + ((l.map zV).flatten).length) else none)=_
  rw [if_pos h,List.length_append]
 ·unfold rdD at h
  cases hr:rdN 0 0 b with
  | none=>rw [hr] at h; cases h
  | some p=>
   obtain ⟨x,u⟩:=p
   rw [hr,Option.bind_some] at h
   split at h
   ·cases hm:rdM rdP x (b.drop u) with
    | none=>rw [show ((x,u):Nat×Nat).1=x from rfl,show ((x,u):Nat×Nat).2=u from rfl,hm] at h; cases h
    | some q=>
     obtain ⟨t,k⟩:=q
     rw [show ((x,u):Nat×Nat).1=x from rfl,show ((x,u):Nat×Nat).2=u from rfl,hm,Option.bind_some] at h
     split at h
     ·rename_i hv
      obtain ⟨_,h2,h3⟩:=Qw.forth b x u hr
      obtain ⟨h4,h5,h6⟩:=(Kb KZ x).forth _ t k hm
      rw [List.length_drop] at h5
      obtain ⟨rfl,rfl⟩:=Prod.mk.inj (Option.some.inj h)
      refine ⟨hv,by show u + k≤b.length; omega,?_⟩
      show b.take (u + k)=jq t
      unfold jq
      rw [List.take_add,h3,h6,h4.1]
     ·cases h
   ·cases h
theorem qhE {p:qb} (h:JO p):(zV p).length≤211:=by
 unfold JO at h
 unfold zV
 split
 ·rename_i hc
  rw [if_pos hc] at h
  have h1:=(V5 (x:=p.jL.toNat) (by omega)).2
  have h2:=(V5 (x:=p.Len.toNat) (by omega)).2
  rw [List.length_cons,List.length_append]; omega
 ·rename_i hc
  rw [if_neg hc] at h
  have:=qd_ (s:=p.Lit) (by omega)
  rw [List.length_cons]; omega
theorem ql2 {l:List qb} (h:∀ p∈l,JO p):((l.map zV).flatten).length≤211 * l.length:=by
 induction l with
 | nil=>exact Nat.zero_le _
 | cons p l ih=>
  have h1:=qhE (h p (List.mem_cons_self ..))
  have h2:=ih fun q hq=>h q (List.mem_cons_of_mem _ hq)
  show (zV p++(l.map zV).flatten).length≤211 * (l.length + 1)
  rw [List.length_append]; omega
end Go.Rx
end
set_option maxRecDepth 100000
noncomputable section
namespace Go.Rx
open Go.Proofs
theorem qpq {n:Nat} (h:n≤1000000000000000):qv ((n:Nat):Int):=by unfold qv; omega
section
variable {N:Nat} [Vw N]
theorem qmD {s:List UInt8} (h:s.length≤1000000000):WQ N s=some (vA s):=by
 unfold WQ qai
 refine qo (show JA N (IntKind.u64.wrap ((s.length:Nat):Int))=some (zw s.length,(zw s.length).length) by rw [v5 (by omega)]; exact qm7 (by omega)) ?_
 have:=(V5 (x:=s.length) (by omega)).2
 exact qF ⟨rfl,by show ((zw s.length)++s).length * 1≤qP; rw [List.length_append]; unfold qP; omega⟩ <| qF rfl <| qy rfl
theorem qlz {x:Nat} (h:x < 18446744073709551616):Qm N (x:Int)=some (zw x):=by
 obtain ⟨K,hK⟩:=qpp h
 have h9:=hK.1
 rw [qpw hK]
 have e1:=qg0 (N:=N) hK.1 hK.2.2.1 hK.2.2.2
 have e2:=qoV (N:=N) (x:=x) (r:=K + 1) (by omega)
 have hrl:(List.replicate ((K + 1:Nat):Int).toNat (0:UInt8)).length=K + 1:=by simp
 have e3:W9 N (x:Int) ((K + 1:Nat):Int) (List.replicate ((K + 1:Nat):Int).toNat (0:UInt8)).length ((K + 1:Nat):Int) (List.replicate ((K + 1:Nat):Int).toNat (0:UInt8)) 0=some (cdn x (K + 1),((K + 1:Nat):Int),false):=by
  rw [hrl]; exact e2
 have c1:Km ((K + 1:Nat):Int) ((K + 1:Nat):Int) 1:=⟨rfl,by omega,by unfold qP; omega⟩
 have c2:qv (((K + 1:Nat):Int) - 1):=by unfold qv; omega
 have c3:(0:Int)≤((K + 1:Nat):Int) - 1∧((K + 1:Nat):Int) - 1 < (((List.replicate ((K + 1:Nat):Int).toNat (0:UInt8)).length:Nat):Int):=by rw [hrl]; omega
 have en:(((K + 1:Nat):Int) - 1).toNat=K:=by omega
 have hg:Y_ (cdn x (K + 1)) (List.replicate ((K + 1:Nat):Int).toNat (0:UInt8)).length (((K + 1:Nat):Int) - 1).toNat=some (hiB x 0):=by
  rw [hrl,en,qr6 (d:=0) (Xg x (K + 1)) (by rw [Xg]; omega),qjf]
 have c4:XD (cdn x (K + 1)).length (List.replicate ((K + 1:Nat):Int).toNat (0:UInt8)).length (((K + 1:Nat):Int) - 1).toNat:=by rw [hrl]; exact ⟨Xg _ _,by omega⟩
 have hb:UInt8.ofNat (jy .u8 (((hiB x 0).toNat:Nat):Int) 128).toNat=loB x:=by
  rw [qpa,Nat.pow_zero,Nat.div_one,qo7 _ (Nat.mod_lt _ (by omega)),Int.toNat_natCast]
  rfl
 have hs:(cdn x (K + 1)).set (((K + 1:Nat):Int) - 1).toNat (UInt8.ofNat (jy .u8 (((hiB x 0).toNat:Nat):Int) 128).toNat)=dn x K:=by rw [hb,en,qjo]
 unfold Qm YN
 refine qo e1 <| qF c1 <| qo e3 <| qF c2 <| qF c3 <| qo hg <| qF c3 <| qF c4 <| qF (qjs _ _) <| qF ?_ <| qy (congrArg some hs)
 show ((cdn x (K + 1)).set (((K + 1:Nat):Int) - 1).toNat (UInt8.ofNat (jy .u8 (((hiB x 0).toNat:Nat):Int) 128).toNat)).length=_
 rw [List.length_set,Xg,hrl]
def Jt (most:Nat) (b:List UInt8):List UInt8×Int×Bool:=match rdT most b with
 | some (s,n)=>(s,(n:Int),true)
 | none=>([],0,false)
theorem qmg {most:Nat} {b:List UInt8} (hm:most≤1000000000) (hb:b.length≤1000000000000):Xa N b (most:Int)=some (Jt most b):=by
 unfold Xa K8 Jt rdT
 refine qo (Yx (N:=N) (by omega)) ?_
 unfold qgr
 cases hr:rdN 0 0 b with
 | none=>exact qF ⟨Int.le_refl _,by show (0:Int)≤((b.length:Nat):Int); omega⟩ <| w_f rfl <| qy rfl
 | some p=>
  obtain ⟨x,u⟩:=p
  obtain ⟨u1,u2,u3⟩:=qa4 hr
  have hx:=(Qw.forth b x u hr).1
  have hx:x < 18446744073709551616:=hx
  rw [Option.bind_some]
  refine qF ⟨by show (0:Int)≤(u:Int); omega,by show (u:Int)≤_; omega⟩ <| w_t rfl <| w_t (decide_eq_true (by omega)) ?_
  have hl:(b.drop ((u:Nat):Int).toNat).length=b.length - u:=by rw [List.length_drop]; rfl
  have hw:IntKind.u64.wrap (if ((((b.drop ((u:Nat):Int).toNat).length:Nat):Int) < ((most:Nat):Int)) then (((b.drop ((u:Nat):Int).toNat).length:Nat):Int) else ((most:Nat):Int))=((min most (b.length - u):Nat):Int):=by
   rw [hl]
   split
   ·rw [v5 (by omega)]; omega
   ·rw [v5 (by omega)]; omega
  show (Tree.cond (decide (((x:Nat):Int)≤IntKind.u64.wrap (if ((((b.drop ((u:Nat):Int).toNat).length:Nat):Int) < ((most:Nat):Int)) then (((b.drop ((u:Nat):Int).toNat).length:Nat):Int) else ((most:Nat):Int)))) _ _).run some=_
  rw [hw]
  by_cases hc:x≤most∧x≤b.length - u
  ·rw [if_pos hc]
   have c1:qv ((x:Nat):Int):=by unfold qv; omega
   refine w_t (decide_eq_true (by omega)) <| qF c1 <| qF ⟨Int.le_refl _,by show (0:Int)≤(x:Int); omega,by show (x:Int)≤(((b.drop ((u:Nat):Int).toNat).length:Nat):Int); rw [hl]; omega⟩ <| qF c1 <| qF (show qv (((u:Nat):Int) + ((x:Nat):Int)) by unfold qv; omega) <| qy ?_
   rfl
  ·rw [if_neg hc]
   exact w_f (decide_eq_false (by omega)) <| qy rfl
theorem qu2 (s:qi):WX N s=some (if stB s=true then (zN s,true) else ([],false)):=by
 unfold WX K7
 refine qo (qgq s) ?_
 cases h:stB s with
 | false=>exact w_t rfl <| qy rfl
 | true=>
  have hb:=qik h
  have hx:=qgd h
  refine w_f rfl <| qF (by omega) <| qo (show JA N (uOr .u64 (Jr .u64 (IntKind.u64.wrap s.1) 3) (IntKind.u64.wrap s.2))=some (zN s,(zN s).length) by
   rw [qv7 h,show (8:Int) * s.1 + s.2=((Jv s:Nat):Int) by unfold Jv; omega,v5 hx]
   exact qm7 hx) <| qF rfl <| qy rfl
theorem qwL {x:Nat} (h:x < 18446744073709551616):V9 .u64 ((x:Nat):Int) 7=((x % 8:Nat):Int):=by
 refine (u64_and_nat x 7 h (by omega)).trans ?_
 rw [show (7:Nat)=2 ^ 3 - 1 from rfl,Nat.and_two_pow_sub_one_eq_mod]
def Qk (b:List UInt8):qi×Int×Bool:=match rdS b with
 | some (s,n)=>(s,(n:Int),true)
 | none=>(zSt,0,false)
theorem qvv {b:List UInt8} (hb:b.length≤1000000000000000):KP N b=some (Qk b):=by
 unfold KP qah Qk rdS
 refine qo (Yx (N:=N) hb) ?_
 unfold qgr
 cases hr:rdN 0 0 b with
 | none=>exact qF (by omega) <| qF (by decide) <| qF (by decide) <| w_t rfl <| qy rfl
 | some p=>
  obtain ⟨x,u⟩:=p
  have hx:x < 18446744073709551616:=(Qw.forth b x u hr).1
  have e1:Qf ((x:Nat):Int) 3=((x / 8:Nat):Int):=qbd x 3
  have e2:=qwL hx
  rw [Option.bind_some]
  refine qF (by omega) <| qF (show qv (Qf ((x:Nat):Int) 3) by rw [e1]; unfold qv; omega) <| qF (show qv (V9 .u64 ((x:Nat):Int) 7) by rw [e2]; unfold qv; omega) <| w_f rfl ?_
  show (Tree.bind (JV (Qf ((x:Nat):Int) 3,V9 .u64 ((x:Nat):Int) 7)) fun r2=>Tree.cond (!r2) (.ret ((0,0),0,false)) (.ret ((Qf ((x:Nat):Int) 3,V9 .u64 ((x:Nat):Int) 7),((u:Nat):Int),true))).run some=_
  rw [e1,e2]
  refine qo (qgq _) ?_
  cases stB (((x / 8:Nat):Int),((x % 8:Nat):Int)) with
  | false=>exact w_t rfl <| qy rfl
  | true=>exact w_f rfl <| qy rfl
theorem qvk {l : List qb} (hl : l.length ≤ 60) (hv : ∀ p ∈ l, JO p) {o : List UInt8} (ho : o.length ≤ 10) :
    Xt N l ((l.length:Nat):Int) o 0=some (o++(l.map zV).flatten,((l.length:Nat):Int),false):=by
 have hN:=big N
 have e0:Xt N l ((l.length:Nat):Int) o 0=zG (Zy N l ((l.length:Nat):Int)) some N (o++((l.take 0).map zV).flatten,((0:Nat):Int)):=by rw [List.take_zero,List.map_nil,List.flatten_nil,List.append_nil]; rfl
 refine e0.trans (WZ (σ:=Unit) (B:=Zy N l ((l.length:Nat):Int)) (g:=some) (at_:=fun k _=>(o++((l.take k).map zV).flatten,(k:Int))) (I:=fun _ _=>True) (f:=fun _ s=>s) (n:=l.length)
  (fin:=fun _=>(o++(l.map zV).flatten,((l.length:Nat):Int),false)) (fun k s hk _=>⟨?_,trivial⟩) (fun s _=>?_) N 0 () trivial (Nat.zero_le _) (by omega))
 ·have hm:l.getD k zP∈l:=by rw [List.getD_eq_getElem?_getD,List.getElem?_eq_getElem hk]; exact List.getElem_mem hk
  have hp:=hv _ hm
  have hlen:((l.take k).map zV).flatten.length≤211 * k:=by
   have:=ql2 (l:=l.take k) fun q hq=>hv q (List.mem_of_mem_take hq)
   rw [List.length_take,Nat.min_eq_left (Nat.le_of_lt hk)] at this
   exact this
  have hpl:=qhE hp
  have nxt:∀ a:List (List UInt8),a.flatten=zV (l.getD k zP)→o++((l.take (k + 1)).map zV).flatten=((o++((l.take k).map zV).flatten)::a).flatten:=fun a ha=>by
   rw [qbt (d:=zP) hk,List.map_append,List.flatten_append,List.flatten_cons,ha,List.append_assoc]; simp
  have conc:∀ a:List (List UInt8),a.length≤5→a.flatten=zV (l.getD k zP)→zg N ((o++((l.take k).map zV).flatten)::a)=some (o++((l.take (k + 1)).map zV).flatten):=fun a h5 ha=>by
   rw [nxt a ha]
   refine qjr (by rw [List.length_cons]; omega) ?_ (by rw [List.length_cons]; omega)
   rw [← qdd,List.flatten_cons,ha,List.length_append,List.length_append]; omega
  unfold Zy
  refine w_t (dec_lt hk) <| qo (XB (d:=zP) hk) ?_
  unfold JO at hp
  cases hc:(l.getD k zP).JM with
  | true=>
   rw [if_pos hc] at hp
   have e1:Qm N (IntKind.u64.wrap (l.getD k zP).jL)=some (zw (l.getD k zP).jL.toNat):=by
    obtain ⟨z,hz⟩:∃ z:Nat,(l.getD k zP).jL=(z:Int):=⟨(l.getD k zP).jL.toNat,by omega⟩
    rw [hz,v5 (by omega),qlz (by omega),Int.toNat_natCast]
   have e2:Qm N (IntKind.u64.wrap (l.getD k zP).Len)=some (zw (l.getD k zP).Len.toNat):=by
    obtain ⟨z,hz⟩:∃ z:Nat,(l.getD k zP).Len=(z:Int):=⟨(l.getD k zP).Len.toNat,by omega⟩
    rw [hz,v5 (by omega),qlz (by omega),Int.toNat_natCast]
   refine w_t rfl <| qo e1 <| qo e2 <| qo (conc [[UInt8.ofNat 1],zw (l.getD k zP).jL.toNat,zw (l.getD k zP).Len.toNat] (by simp) ?_) <| qF (Vn (by omega)) <| qy (by rw [Zc])
   unfold zV
   rw [if_pos hc]; simp
  | false=>
   rw [if_neg (by rw [hc]; simp)] at hp
   refine w_f rfl <| qo (qmD (by show (l.getD k zP).Lit.length≤_; omega)) <| qo (conc [[UInt8.ofNat 0],vA (l.getD k zP).Lit] (by simp) ?_) <| qF (Vn (by omega)) <| qy (by rw [Zc])
   unfold zV
   rw [if_neg (by rw [hc]; simp)]; simp
 ·unfold Zy
  exact w_f (vL (Nat.lt_irrefl _)) (qy (by rw [vL (Nat.lt_irrefl _),List.take_of_length_le (Nat.le_refl _)]))
theorem qvA {l:List qb} (hl:l.length < N) (hl2:l.length≤1000000000000000):W0 N l=some (if vl l=true then (jq l,true) else ([],false)):=by
 unfold W0 qaj
 refine qo (qds hl hl2) ?_
 cases h:vl l with
 | false=>exact w_t rfl <| qy rfl
 | true=>
  obtain ⟨h1,h2,_⟩:=Yv.1 h
  refine w_f rfl <| qo (show Qm N (IntKind.u64.wrap ((l.length:Nat):Int))=some (zw l.length) by rw [v5 (by omega)]; exact qlz (by omega)) <| qo (qvk h2 (fun p hp=>qgu (h1 p hp)) (V5 (by omega)).2) <| qy rfl
theorem qsd {b:List UInt8} (hb:b.length≤1000000000000):∃ r,VG N b=some r∧match rdP b with | some (p,n)=>r=(p,(n:Int),true) | none=>r.2.2=false:=by
 unfold VG Yb
 cases b with
 | nil=>exact ⟨_,w_t rfl <| qy rfl,rfl⟩
 | cons c b=>
  rw [qfP]
  rw [List.length_cons] at hb
  have hg:zn (c::b) 0=some c:=rfl
  have hd:decide ((((c::b).length:Nat):Int)=0)=false:=decide_eq_false (by rw [List.length_cons]; omega)
  have hc1:(0:Int)≤(1:Int)∧(1:Int)≤(((c::b).length:Nat):Int):=⟨by omega,by rw [List.length_cons]; omega⟩
  by_cases h1:1 < c.toNat
  ·rw [if_pos h1]
   exact ⟨_,w_f hd <| qo hg <| w_t (decide_eq_true (by omega)) <| qy rfl,rfl⟩
  rw [if_neg h1]
  have d1:decide ((1:Int) < ((c.toNat:Nat):Int))=false:=decide_eq_false (by omega)
  by_cases h0:c.toNat=0
  ·rw [if_pos h0]
   have rd:=qmg (N:=N) (most:=200) (b:=b) (by omega) (by omega)
   unfold Jt at rd
   cases ht:rdT 200 b with
   | none=>
    rw [ht] at rd
    exact ⟨_,w_f hd <| qo hg <| w_f d1 <| qo hg <| w_t (decide_eq_true (by omega)) <| qF hc1 <| qo rd <| qF (by decide) <| qy rfl,rfl⟩
   | some p=>
    obtain ⟨s,n⟩:=p
    rw [ht] at rd
    have:=((Wb (most:=200) (by omega)).forth b s n ht).2.1
    exact ⟨_,w_f hd <| qo hg <| w_f d1 <| qo hg <| w_t (decide_eq_true (by omega)) <| qF hc1 <| qo rd <| qF (Vn (by omega)) <| qy rfl,rfl⟩
  ·rw [if_neg h0]
   have rd:=Yx (N:=N) (b:=b) (by omega)
   unfold qgr at rd
   have d0:decide (((c.toNat:Nat):Int)=0)=false:=decide_eq_false (by omega)
   cases hf:rdN 0 0 b with
   | none=>
    rw [hf] at rd
    have rd2:=Yx (N:=N) (b:=b) (by omega)
    have hl:(0:Int)≤(1:Int) + 0∧(1:Int) + 0≤(((c::b).length:Nat):Int):=⟨by omega,by rw [List.length_cons]; omega⟩
    exact ⟨_,w_f hd <| qo hg <| w_f d1 <| qo hg <| w_f d0 <| qF hc1 <| qo rd <| qF (by decide) <| qF hl <| qo rd2 <| w_t rfl <| qy rfl,rfl⟩
   | some p=>
    obtain ⟨f,n⟩:=p
    rw [hf] at rd
    obtain ⟨_,n2,n3⟩:=qa4 hf
    have hf64:f < 18446744073709551616:=(Qw.forth b f n hf).1
    have rd2:=Yx (N:=N) (b:=b.drop n) (by rw [List.length_drop]; omega)
    have en:(c::b).drop (((1:Int) + ((n:Nat):Int)).toNat)=b.drop n:=by rw [show ((1:Int) + ((n:Nat):Int)).toNat=n + 1 by omega]; rfl
    rw [← en] at rd2
    have hl:(0:Int)≤(1:Int) + ((n:Nat):Int)∧(1:Int) + ((n:Nat):Int)≤(((c::b).length:Nat):Int):=⟨by omega,by rw [List.length_cons]; omega⟩
    have c64:qv ((1:Int) + ((n:Nat):Int)):=by unfold qv; omega
    rw [Option.bind_some]
    show ∃ r:qb×Int×Bool,_∧match ((rdN 0 0 (b.drop n)).bind fun q=>if f≤200∧q.1≤200 then some (qb.mk true (f:Int) (q.1:Int) [],1 + n + q.2) else none) with | some (p,n)=>r=(p,(n:Int),true) | none=>r.2.2=false
    rw [← en]
    unfold qgr at rd2
    cases h2:rdN 0 0 ((c::b).drop (((1:Int) + ((n:Nat):Int)).toNat)) with
    | none=>
     rw [h2] at rd2
     exact ⟨_,w_f hd <| qo hg <| w_f d1 <| qo hg <| w_f d0 <| qF hc1 <| qo rd <| qF c64 <| qF hl <| qo rd2 <| w_f rfl <| w_t rfl <| qy rfl,rfl⟩
    | some q=>
     obtain ⟨z,j⟩:=q
     rw [h2] at rd2
     obtain ⟨_,j2,j3⟩:=qa4 h2
     rw [en,List.length_drop] at j3
     rw [Option.bind_some]
     show ∃ r:qb×Int×Bool,_∧match (if f≤200∧z≤200 then some (qb.mk true (f:Int) (z:Int) [],1 + n + j) else none) with | some (p,n)=>r=(p,(n:Int),true) | none=>r.2.2=false
     by_cases hf2:f≤200
     ·by_cases hz2:z≤200
      ·rw [if_pos ⟨hf2,hz2⟩]
       refine ⟨(qb.mk true (f:Int) (z:Int) [],((1 + n + j:Nat):Int),true),w_f hd <| qo hg <| w_f d1 <| qo hg <| w_f d0 <| qF hc1 <| qo rd <| qF c64 <| qF hl <| qo rd2 <| w_f rfl <| w_f rfl <| w_f (decide_eq_false (by show ¬ (200:Int) < (f:Int); omega)) <| w_f (decide_eq_false (by show ¬ (200:Int) < (z:Int); omega)) <| qF (qpq (n:=f) (by omega)) <| qF (qpq (n:=z) (by omega)) <| qF c64 <| qF (show qv ((1:Int) + ((n:Nat):Int) + ((j:Nat):Int)) by unfold qv; omega) <| qy ?_,rfl⟩
       show some (qb.mk true (f:Int) (z:Int) [],(1:Int) + ((n:Nat):Int) + ((j:Nat):Int),true)=_
       rw [show (1:Int) + ((n:Nat):Int) + ((j:Nat):Int)=((1 + n + j:Nat):Int) by omega]
      ·rw [if_neg (fun h=>hz2 h.2)]
       exact ⟨_,w_f hd <| qo hg <| w_f d1 <| qo hg <| w_f d0 <| qF hc1 <| qo rd <| qF c64 <| qF hl <| qo rd2 <| w_f rfl <| w_f rfl <| w_f (decide_eq_false (by show ¬ (200:Int) < (f:Int); omega)) <| w_t (decide_eq_true (by show (200:Int) < (z:Int); omega)) <| qy rfl,rfl⟩
     ·rw [if_neg (fun h=>hf2 h.1)]
      exact ⟨_,w_f hd <| qo hg <| w_f d1 <| qo hg <| w_f d0 <| qF hc1 <| qo rd <| qF c64 <| qF hl <| qo rd2 <| w_f rfl <| w_f rfl <| w_t (decide_eq_true (by show (200:Int) < (f:Int); omega)) <| qy rfl,rfl⟩
end
end Go.Rx
end
set_option maxRecDepth 100000
noncomputable section
namespace Go.Rx
open Go.Proofs
def qwQ (y:vG):Option (List qb×Int):=match y with
 | .inl _=>none
 | .inr z=>some (z.1,z.2.1)
def Ql (b:List UInt8):List qb×Int×Bool:=match rdD b with
 | some (l,n)=>(l,(n:Int),true)
 | none=>([],0,false)
abbrev RdS:=List UInt8×Bool
def sk (s:RdS) (n:Nat) (is:Bool):RdS×List UInt8:=if s.2=false∧is=true∧n≤s.1.length then ((s.1.drop n,false),s.1.take n) else ((s.1,true),List.replicate n 0)
def XQ (p:List UInt8):Nat:=(p.getD 0 0).toNat
theorem qdo (s:RdS) (n:Nat) (is:Bool):(sk s n is).2.length=n:=by
 unfold sk
 split
 ·rename_i h; rw [List.length_take]; exact Nat.min_eq_left h.2.2
 ·simp
theorem Wz (s:RdS) (n:Nat) (is:Bool):(sk s n is).1.1.length≤s.1.length:=by
 unfold sk
 split
 ·rw [List.length_drop]; omega
 ·exact Nat.le_refl _
section
variable {N:Nat} [Vw N]
theorem qu4 {b:List UInt8} (hb:b.length≤1000000000000) {m u:Nat} (hm:m≤60) (hu:u≤b.length):∃ y,YU N b (m:Int) [] (u:Int) 0=some y∧qwQ y=(rdM rdP m (b.drop u)).map fun p=>(p.1,((u + p.2:Nat):Int)):=by
 refine qbl (B:=ZB N b (m:Int)) (g:=some) (I:=fun v=>∃ (j k:Nat) (l:List qb),v=(l,(k:Int),(j:Int))∧j≤m∧l.length=j∧k≤b.length∧(rdM rdP (m - j) (b.drop k)).map (fun p=>(l++p.1,((k + p.2:Nat):Int)))=(rdM rdP m (b.drop u)).map fun p=>(p.1,((u + p.2:Nat):Int))) (fun v=>m - v.2.2.toNat) ?_ N _
  ⟨0,u,[],rfl,Nat.zero_le _,rfl,hu,rfl⟩ (by have:=big N; simp; omega)
 rintro v ⟨j,k,l,rfl,hj,hl,hk,hr⟩
 by_cases h:j < m
 ·obtain ⟨m',hm'⟩:∃ m',m - j=m' + 1:=⟨m - j - 1,by omega⟩
  rw [hm'] at hr
  obtain ⟨r,er,hp⟩:=qsd (N:=N) (b:=b.drop k) (by rw [List.length_drop]; omega)
  have er:VG N (b.drop ((k:Nat):Int).toNat)=some r:=er
  have c1:(0:Int)≤(k:Int)∧(k:Int)≤((b.length:Nat):Int):=by omega
  cases hq:rdP (b.drop k) with
  | none=>
   rw [hq] at hp
   right
   have e:rdM rdP (m' + 1) (b.drop k)=none:=by unfold rdM; rw [hq]; rfl
   rw [e] at hr
   exact ⟨_,_,by unfold ZB; exact w_t (dec_lt h) <| qF c1 <| qo er <| w_t (by rw [hp]; rfl) <| qy rfl,by rfl,by rw [← hr]; rfl⟩
  | some q=>
   obtain ⟨p,n⟩:=q
   rw [hq] at hp
   have hp:r=(p,(n:Int),true):=hp
   subst hp
   have hn:=(KZ.forth _ p n hq).2.1
   rw [List.length_drop] at hn
   left
   have e:rdM rdP (m' + 1) (b.drop k)=(rdM rdP m' ((b.drop k).drop n)).map fun q=>(p::q.1,n + q.2):=by
    show (rdP (b.drop k)).bind _=_
    rw [hq]; rfl
   rw [e,List.drop_drop] at hr
   have ej:Vx .u64 ((j:Nat):Int) 1=((j + 1:Nat):Int):=by
    show IntKind.u64.wrap (((j:Nat):Int) + 1)=_
    rw [Zc,v5 (by omega)]
   refine ⟨(l++[p],((k + n:Nat):Int),((j + 1:Nat):Int)),?_,⟨j + 1,k + n,l++[p],rfl,h,by rw [List.length_append,hl]; rfl,by omega,?_⟩,?_⟩
   ·unfold ZB
    refine w_t (dec_lt h) <| qF c1 <| qo er <| w_f rfl <| qF ⟨rfl,by rw [List.length_append,hl]; show (j + 1) * 40≤qP; unfold qP; omega⟩ <| qF (show qv (((k:Nat):Int) + ((n:Nat):Int)) by unfold qv; omega) <| qy ?_
    show some (Sum.inl (l++[p],((k:Nat):Int) + ((n:Nat):Int),Vx .u64 ((j:Nat):Int) 1))=_
    rw [ej,show ((k + n:Nat):Int)=((k:Nat):Int) + ((n:Nat):Int) from Int.natCast_add k n]
   ·rw [show m - (j + 1)=m' by omega,← hr,Option.map_map]
    congr 1
    funext q
    show (l++[p]++q.1,((k + n + q.2:Nat):Int))=(l++(p::q.1),((k + (n + q.2):Nat):Int))
    rw [List.append_assoc,Nat.add_assoc]; rfl
   ·show m - ((j + 1:Nat):Int).toNat < m - ((j:Nat):Int).toNat
    omega
 ·obtain rfl:j=m:=by omega
  right
  rw [Nat.sub_self] at hr
  exact ⟨_,_,by unfold ZB; exact w_f (vL (Nat.lt_irrefl _)) (qy rfl),by rfl,by rw [← hr]; show some (l,((k:Nat):Int))=some (l++[],((k + 0:Nat):Int)); rw [List.append_nil,Nat.add_zero]⟩
theorem qva {b:List UInt8} (hb:b.length≤1000000000000):WG N b=some (Ql b):=by
 have hN:=big N
 unfold WG K4 Ql rdD
 refine qo (Yx (N:=N) (by omega)) ?_
 unfold qgr
 cases hr:rdN 0 0 b with
 | none=>exact w_t rfl <| qy rfl
 | some p=>
  obtain ⟨m,u⟩:=p
  obtain ⟨_,_,u3⟩:=qa4 hr
  rw [Option.bind_some]
  by_cases hm:m≤60
  ·obtain ⟨y,ey,hy⟩:=qu4 (N:=N) hb hm u3
   show _=some (match (if m≤60 then (rdM rdP m (b.drop u)).bind fun q=>if vl q.1=true then some (q.1,u + q.2) else none else none) with | some (l,n)=>(l,(n:Int),true) | none=>([],0,false))
   rw [if_pos hm]
   refine w_f rfl <| w_f (decide_eq_false (by show ¬ (60:Int) < (m:Int); omega)) <| qo ((qj7 rfl).trans ey) ?_
   cases hq:rdM rdP m (b.drop u) with
   | none=>
    rw [hq] at hy
    cases y with
    | inl z=>exact w_l rfl <| qy rfl
    | inr z=>cases hy
   | some q=>
    obtain ⟨l,k⟩:=q
    rw [hq] at hy
    cases y with
    | inl z=>cases hy
    | inr z=>
     obtain ⟨z1,z2,z3⟩:=z
     have hz:(z1,z2)=(l,((u + k:Nat):Int)):=Option.some.inj hy
     obtain ⟨rfl,rfl⟩:=Prod.mk.inj hz
     have hlen:=((Kb KZ m).forth _ z1 k hq).1.1
     rw [Option.bind_some]
     refine w_r rfl <| qF rfl <| qo (qds (l:=z1) (by omega) (by omega)) ?_
     show _=some (match (if vl z1=true then some (z1,u + k) else none) with | some (l,n)=>(l,(n:Int),true) | none=>([],0,false))
     cases vl z1 with
     | false=>exact w_t rfl <| qy rfl
     | true=>exact w_f rfl <| qF rfl <| qy rfl
  ·show _=some (match (if m≤60 then (rdM rdP m (b.drop u)).bind fun q=>if vl q.1=true then some (q.1,u + q.2) else none else none) with | some (l,n)=>(l,(n:Int),true) | none=>([],0,false))
   rw [if_neg hm]
   exact w_f rfl <| w_t (decide_eq_true (by show (60:Int) < (m:Int); omega)) <| qy rfl
end
theorem qeL {s:RdS} (hs:s.1.length≤1000000000000) {n:Nat} (hn:n≤1000000000000) (is:Bool):zC s (n:Int) is=some (sk s n is):=by
 obtain ⟨b,bad⟩:=s
 have hs:b.length≤1000000000000:=hs
 have hm:Km ((n:Nat):Int) ((n:Nat):Int) 1:=⟨rfl,by omega,by unfold qP; omega⟩
 unfold zC V0 sk
 cases bad with
 | true=>
  rw [if_neg (fun h=>by cases h.1)]
  exact w_t rfl <| w_t rfl <| qF hm <| qF rfl <| qy rfl
 | false=>
  refine w_f rfl ?_
  cases is with
  | false=>
   rw [if_neg (fun h=>by cases h.2.1)]
   exact w_t rfl <| w_t rfl <| qF hm <| qF rfl <| qy rfl
  | true=>
   refine w_f rfl ?_
   by_cases h:b.length < n
   ·rw [if_neg (fun h'=>by have:n≤b.length:=h'.2.2; omega)]
    have e:decide ((((qe.b (b,false)).length:Nat):Int) < ((n:Nat):Int))=true:=decide_eq_true (by show ((b.length:Nat):Int) < _; omega)
    exact w_t e <| qF hm <| qF rfl <| qy (by rw [e]; rfl)
   ·rw [if_pos ⟨rfl,rfl,by show n≤b.length; omega⟩]
    have e:decide ((((qe.b (b,false)).length:Nat):Int) < ((n:Nat):Int))=false:=decide_eq_false (by show ¬ ((b.length:Nat):Int) < _; omega)
    refine w_f e <| qF ⟨Int.le_refl _,by omega,by show ((n:Nat):Int)≤((b.length:Nat):Int); omega⟩ <| qF ⟨by omega,by show ((n:Nat):Int)≤((b.length:Nat):Int); omega⟩ <| qy ?_
    rw [e]; rfl
theorem qna {s:RdS} (hs:s.1.length≤1000000000000):Qc s=some ((sk s 1 true).1,((XQ (sk s 1 true).2:Nat):Int)):=by
 unfold Qc XZ
 have h:=qdo s 1 true
 have hg:zn (sk s 1 true).2 (0:Int)=some ((sk s 1 true).2.getD 0 0):=XB (d:=(0:UInt8)) (k:=0) (by omega)
 have:=((sk s 1 true).2.getD 0 0).toNat_lt
 exact qo (qeL (n:=1) hs (by omega) true) <| qo hg <| qF (by unfold qv; omega) <| qy rfl
theorem quP {s:RdS} (hs:s.1.length≤1000000000000):Zu s=some ((sk s 16 true).1,Z2 16 (sk s 16 true).2):=by
 unfold Zu Wa
 have h:=qdo s 16 true
 exact qo (qeL (n:=16) hs (by omega) true) <| qF ⟨by omega,by omega⟩ <| qy rfl
theorem qjU {s:RdS} (hs:s.1.length≤1000000000000):jK s=some ((sk s 32 true).1,Z2 32 (sk s 32 true).2):=by
 unfold jK JP
 have h:=qdo s 32 true
 exact qo (qeL (n:=32) hs (by omega) true) <| qF ⟨by omega,by omega⟩ <| qy rfl
end Go.Rx
end
set_option maxRecDepth 100000
noncomputable section
namespace Go.Rx
open Go.Proofs
abbrev zp (a:Int):UInt8:=UInt8.ofNat a.toNat
def opT (o:qa):List UInt8:=if o.Kind=1 then zp o.No::vA o.V else if o.Kind=2 then zp o.No::(o.jL.toList++(zp o.je::o.D.toList)) else if o.Kind=3 then zp o.No::(jq o.P++o.D.toList) else []
def opW (o:qa):List UInt8:=zp o.Kind::(o.ID.toList++(zN o.S++opT o))
theorem qbf {o:qa}:opB o=true↔(0≤o.Kind∧o.Kind < 4)∧o=KO o∧o.S≠zSt∧stB o.S=true∧(0≤o.No∧o.No < 8)∧(0≤o.je∧o.je < 8)∧o.V.length≤200∧vl o.P=true:=by
 unfold opB qlM
 simp only [Bool.and_eq_true,Bool.not_eq_true',decide_eq_false_iff_not,decide_eq_true_iff]
 constructor
 ·rintro ⟨⟨⟨⟨⟨⟨⟨⟨h1,h2⟩,h3⟩,h4⟩,h5⟩,h6⟩,h7⟩,h8⟩,h9⟩
  exact ⟨by omega,h3,h4,h5,h6,h7,by omega,h9⟩
 ·rintro ⟨h1,h3,h4,h5,h6,h7,h8,h9⟩
  exact ⟨⟨⟨⟨⟨⟨⟨⟨by omega,by omega⟩,h3⟩,h4⟩,h5⟩,h6⟩,h7⟩,by omega⟩,h9⟩
theorem qfi {l:List qb} (h:vl l=true):(jq l).length≤12670:=by
 obtain ⟨h1,h2,_⟩:=Yv.1 h
 have h3:=ql2 (l:=l) fun p hp=>qgu (h1 p hp)
 have h4:=(V5 (x:=l.length) (by omega)).2
 unfold jq
 rw [List.length_append]; omega
theorem qhg {s:qi} (h:stB s=true):1≤(zN s).length∧(zN s).length≤10:=V5 (qgd h)
theorem qqd {a:Int} (h0:0≤a) (h1:a < 256):IntKind.u8.wrap a=a:=by
 have:IntKind.u8.wrap a=a % 256:=by simp [IntKind.wrap,IntKind.bits,IntKind.signed]
 rw [this]; omega
section
variable {N:Nat} [Vw N]
theorem qhl {a:List (List UInt8)} {r:List UInt8} (h5:a.length≤10) (h:a.flatten=r) (hr:r.length≤1000000):zg N a=some r:=by
 have:=big N
 rw [← h]
 exact qjr (by omega) (by rw [← qdd,h]; omega) (by omega)
theorem qvu {o:qa} (hl:(qa.P o).length < N) (hl2:(qa.P o).length≤1000000000000000):qhy N o=some (if opB o=true then (opW o,true) else ([],false)):=by
 unfold qhy qgD
 refine qo (qm4 hl hl2) ?_
 cases h:opB o with
 | false=>exact w_t rfl <| qy rfl
 | true=>
  obtain ⟨hk,_,_,hs,hn,hf,hv,hp⟩:=qbf.1 h
  have l1:=(qhg hs).2
  have eID:(o.ID:Vector UInt8 16).toList.length=16:=Vector.length_toList
  have eFr:(o.jL:Vector UInt8 16).toList.length=16:=Vector.length_toList
  have eD:(o.D:Vector UInt8 32).toList.length=32:=Vector.length_toList
  have kb:[UInt8.ofNat (IntKind.u8.wrap (qa.Kind o)).toNat]=[zp o.Kind]:=by rw [qqd hk.1 (by omega)]
  have nb:[UInt8.ofNat (IntKind.u8.wrap (qa.No o)).toNat]=[zp o.No]:=by rw [qqd hn.1 (by omega)]
  have fb:[UInt8.ofNat (IntKind.u8.wrap (qa.je o)).toNat]=[zp o.je]:=by rw [qqd hf.1 (by omega)]
  have s1:WX N (qa.S o)=some (zN o.S,true):=by rw [qu2,if_pos hs]
  refine w_f rfl <| qo s1 <| qF (V3 _) <| qo (x:=zp o.Kind::(o.ID.toList++zN o.S)) ?_ ?_
  ·rw [kb]
   exact qhl (by simp) (by simp) (by rw [List.length_cons,List.length_append]; omega)
  ·unfold opW opT
   refine zT rfl (fun h1=>?_) fun h1=>?_
   ·have lt:=qd_ (s:=o.V) (by omega)
    rw [if_pos (of_decide_eq_true h1)]
    refine qF (V3 _) <| qo (qmD (by show o.V.length≤_; omega)) <| qo (qhl (r:=zp o.Kind::(o.ID.toList++(zN o.S++zp o.No::vA o.V))) (by simp) ?_ ?_) <| qy rfl
    ·rw [nb]; simp
    ·simp only [List.length_cons,List.length_append]; omega
   rw [if_neg (of_decide_eq_false h1)]
   refine zT rfl (fun h2=>?_) fun h2=>?_
   ·rw [if_pos (of_decide_eq_true h2)]
    refine qF (V3 _) <| qF (V3 _) <| qo (qhl (r:=zp o.Kind::(o.ID.toList++(zN o.S++zp o.No::(o.jL.toList++zp o.je::o.D.toList)))) (by simp) ?_ ?_) <| qy rfl
    ·rw [nb,fb]; simp
    ·simp only [List.length_cons,List.length_append]; omega
   rw [if_neg (of_decide_eq_false h2)]
   refine zT rfl (fun h3=>?_) fun h3=>?_
   ·have lp:=qfi hp
    rw [if_pos (of_decide_eq_true h3)]
    refine qo (show W0 N (qa.P o)=some (jq o.P,true) by rw [qvA hl hl2,if_pos hp]) <| qF (V3 _) <| qo (qhl (r:=zp o.Kind::(o.ID.toList++(zN o.S++zp o.No::(jq o.P++o.D.toList)))) (by simp) ?_ ?_) <| qy rfl
    ·rw [nb]; simp
    ·simp only [List.length_cons,List.length_append]; omega
   rw [if_neg (of_decide_eq_false h3)]
   exact qy (by rw [List.append_nil]; rfl)
theorem qvc {o:qa} (h:opB o=true):18≤(opW o).length∧(opW o).length≤13000:=by
 obtain ⟨_,_,_,hs,_,_,hv,hp⟩:=qbf.1 h
 have l1:=qhg hs
 have eID:(o.ID:Vector UInt8 16).toList.length=16:=Vector.length_toList
 have eFr:(o.jL:Vector UInt8 16).toList.length=16:=Vector.length_toList
 have eD:(o.D:Vector UInt8 32).toList.length=32:=Vector.length_toList
 have lt:=qd_ (s:=o.V) (by omega)
 have lp:=qfi hp
 have:(opT o).length≤12800:=by
  unfold opT
  split
  ·rw [List.length_cons]; omega
  ·split
   ·simp only [List.length_cons,List.length_append]; omega
   ·split
    ·simp only [List.length_cons,List.length_append]; omega
    ·exact Nat.zero_le _
 unfold opW
 simp only [List.length_cons,List.length_append]; omega
abbrev zO:qa:=qa.mk 0 zI zSt 0 [] [] zI 0 zD
def Kf (b:List UInt8) (s:RdS) (o:qa):qa×Int×Bool:=if s.2=false∧opB o=true then (o,((b.length:Nat):Int) - ((s.1.length:Nat):Int),true) else (zO,0,false)
def qvY (N:Nat) (b:List UInt8) (s:RdS) (o:qa):Tree (qa×Int×Bool):=
 .cond (qe.bad s) (.ret (zO,0,false)) <| .bind (ZA N o) fun r=>.cond (!r) (.ret (zO,0,false)) <| .chk (qv (((b.length:Nat):Int) - (((qe.b s).length:Nat):Int))) <| .ret (o,((b.length:Nat):Int) - (((qe.b s).length:Nat):Int),true)
theorem qde {b:List UInt8} {s:RdS} {o:qa} (hb:b.length≤1000000000000) (hs:s.1.length≤b.length) (hl:(qa.P o).length < N) (hl2:(qa.P o).length≤1000000000000000):(qvY N b s o).run some=some (Kf b s o):=by
 obtain ⟨r,bad⟩:=s
 have hs:r.length≤b.length:=hs
 unfold qvY Kf
 cases bad with
 | true=>exact w_t rfl <| qy (by rw [if_neg (fun h=>by cases h.1)])
 | false=>
  refine w_f rfl <| qo (qm4 hl hl2) ?_
  cases h:opB o with
  | false=>exact w_t rfl <| qy (by rw [if_neg (fun h=>by cases h.2)])
  | true=>exact w_f rfl <| qF (show qv (((b.length:Nat):Int) - ((r.length:Nat):Int)) by unfold qv; omega) <| qy (by rw [if_pos ⟨rfl,rfl⟩]; rfl)
abbrev skI (s:RdS) (r:Int×Bool):RdS×List UInt8:=sk s r.1.toNat r.2
def qqf (b:List UInt8) (k:Int) (id:Vector UInt8 16) (S:qi) (no:Int) (s:RdS):qa×Int×Bool:=
 if k=1 then Kf b (skI s (Jt 200 s.1).2).1 (qa.mk k id S no (Jt 200 s.1).1 [] zI 0 zD)
 else if k=2 then Kf b (sk (sk (sk s 16 true).1 1 true).1 32 true).1 (qa.mk k id S no [] [] (Z2 16 (sk s 16 true).2) ((XQ (sk (sk s 16 true).1 1 true).2:Nat):Int) (Z2 32 (sk (sk (sk s 16 true).1 1 true).1 32 true).2))
 else if k=3 then Kf b (sk (skI s (Ql s.1).2).1 32 true).1 (qa.mk k id S no [] (Ql s.1).1 zI 0 (Z2 32 (sk (skI s (Ql s.1).2).1 32 true).2))
 else Kf b s (qa.mk k id S no [] [] zI 0 zD)
def ql7 (b:List UInt8) (k:Int) (id:Vector UInt8 16) (S:qi) (s:RdS):qa×Int×Bool:=
 if k=0 then Kf b s (qa.mk k id S 0 [] [] zI 0 zD) else qqf b k id S ((XQ (sk s 1 true).2:Nat):Int) (sk s 1 true).1
def opG (b:List UInt8):qa×Int×Bool:=
 ql7 b ((XQ (sk (b,false) 1 true).2:Nat):Int) (Z2 16 (sk (sk (b,false) 1 true).1 16 true).2) (Qk (sk (sk (b,false) 1 true).1 16 true).1.1).1 (skI (sk (sk (b,false) 1 true).1 16 true).1 (Qk (sk (sk (b,false) 1 true).1 16 true).1.1).2).1
theorem qgG {s:RdS} (hs:s.1.length≤1000000000000) {r:Int×Bool} (h0:0≤r.1) (hn:r.1≤1000000000000):zC s r.1 r.2=some (skI s r):=by
 obtain ⟨n,is⟩:=r
 obtain ⟨m,rfl⟩:∃ m:Nat,n=(m:Int):=⟨n.toNat,by have:0≤n:=h0; omega⟩
 have hn:(m:Int)≤1000000000000:=hn
 exact qeL hs (by omega) is
theorem qvC (b:List UInt8):0≤(Qk b).2.1∧(Qk b).2.1≤((b.length:Nat):Int):=by
 unfold Qk
 cases h:rdS b with
 | none=>exact ⟨Int.le_refl _,by show (0:Int)≤_; omega⟩
 | some p=>have:=(qdV.forth b p.1 p.2 h).2.1; exact ⟨by show (0:Int)≤(p.2:Int); omega,by show (p.2:Int)≤_; omega⟩
theorem qu0 (b:List UInt8):0≤(Jt 200 b).2.1∧(Jt 200 b).2.1≤((b.length:Nat):Int):=by
 unfold Jt
 cases h:rdT 200 b with
 | none=>exact ⟨Int.le_refl _,by show (0:Int)≤_; omega⟩
 | some p=>have:=((Wb (most:=200) (by omega)).forth b p.1 p.2 h).2.1; exact ⟨by show (0:Int)≤(p.2:Int); omega,by show (p.2:Int)≤_; omega⟩
theorem qvs (b:List UInt8):(0≤(Ql b).2.1∧(Ql b).2.1≤((b.length:Nat):Int))∧(Ql b).1.length≤60:=by
 unfold Ql
 cases h:rdD b with
 | none=>exact ⟨⟨Int.le_refl _,by show (0:Int)≤_; omega⟩,Nat.zero_le _⟩
 | some p=>
  have:=qbr.forth b p.1 p.2 h
  have h2:=(Yv.1 this.1).2.1
  exact ⟨⟨by show (0:Int)≤(p.2:Int); omega,by show (p.2:Int)≤_; omega⟩,h2⟩
theorem qu3 {b:List UInt8} (hb:b.length≤1000000000000):qd3 N b=some (opG b):=by
 have hN:=big N
 have h1:=Wz (b,false) 1 true
 have h1:(sk (b,false) 1 true).1.1.length≤b.length:=h1
 have h2:=Wz (sk (b,false) 1 true).1 16 true
 unfold qd3 qgb opG
 refine qo (qna (s:=(b,false)) hb) <| qo (quP (s:=(sk (b,false) 1 true).1) (by omega)) ?_
 generalize hs2:(sk (sk (b,false) 1 true).1 16 true).1=s2 at h2
 generalize Z2 16 (sk (sk (b,false) 1 true).1 16 true).2=id
 generalize ((XQ (sk (b,false) 1 true).2:Nat):Int)=k
 have g3:=qvC s2.1
 have h4:(skI s2 (Qk s2.1).2).1.1.length≤s2.1.length:=Wz _ _ _
 refine qo (qvv (N:=N) (b:=s2.1) (by omega)) <| qo (qgG (s:=s2) (r:=(Qk s2.1).2) (by omega) g3.1 (by omega)) ?_
 generalize (skI s2 (Qk s2.1).2).1=s4 at h4
 generalize (Qk s2.1).1=S
 unfold ql7
 refine zT (c:=!decide (k=0)) rfl (fun h0=>?_) fun h0=>?_
 ·rw [Bool.not_eq_true'] at h0
  rw [if_neg (of_decide_eq_false h0)]
  have h5:=Wz s4 1 true
  refine qo (qna (s:=s4) (by omega)) ?_
  generalize (sk s4 1 true).1=s5 at h5
  generalize ((XQ (sk s4 1 true).2:Nat):Int)=no
  unfold qqf
  refine zT rfl (fun hk=>?_) fun hk=>?_
  ·rw [if_pos (of_decide_eq_true hk)]
   have g:=qu0 s5.1
   have h6:(skI s5 (Jt 200 s5.1).2).1.1.length≤s5.1.length:=Wz _ _ _
   exact qo (qmg (N:=N) (most:=200) (b:=s5.1) (by omega) (by omega)) <| qo (qgG (s:=s5) (r:=(Jt 200 s5.1).2) (by omega) g.1 (by omega)) <| qde hb (by omega) (by show 0 < N; omega) (Nat.zero_le _)
  rw [if_neg (of_decide_eq_false hk)]
  refine zT rfl (fun hk=>?_) fun hk=>?_
  ·rw [if_pos (of_decide_eq_true hk)]
   have h6:=Wz s5 16 true
   have h7:=Wz (sk s5 16 true).1 1 true
   have h8:=Wz (sk (sk s5 16 true).1 1 true).1 32 true
   exact qo (quP (s:=s5) (by omega)) <| qo (qna (s:=(sk s5 16 true).1) (by omega)) <| qo (qjU (s:=(sk (sk s5 16 true).1 1 true).1) (by omega)) <| qde (s:=(sk (sk (sk s5 16 true).1 1 true).1 32 true).1) hb (by omega) (by show 0 < N; omega) (Nat.zero_le _)
  rw [if_neg (of_decide_eq_false hk)]
  refine zT rfl (fun hk=>?_) fun hk=>?_
  ·rw [if_pos (of_decide_eq_true hk)]
   have g:=qvs s5.1
   have h6:(skI s5 (Ql s5.1).2).1.1.length≤s5.1.length:=Wz _ _ _
   have h7:=Wz (skI s5 (Ql s5.1).2).1 32 true
   exact qo (qva (N:=N) (b:=s5.1) (by omega)) <| qo (qgG (s:=s5) (r:=(Ql s5.1).2) (by omega) g.1.1 (by omega)) <| qo (qjU (s:=(skI s5 (Ql s5.1).2).1) (by omega)) <| qde (s:=(sk (skI s5 (Ql s5.1).2).1 32 true).1) hb (by omega) (by show (Ql s5.1).1.length < N; omega) (by show (Ql s5.1).1.length≤_; omega)
  rw [if_neg (of_decide_eq_false hk)]
  exact qde hb (by omega) (by show 0 < N; omega) (Nat.zero_le _)
 ·rw [Bool.not_eq_false'] at h0
  have h0:=of_decide_eq_true h0
  rw [if_pos h0]
  exact w_f (decide_eq_false (by omega)) <| w_f (decide_eq_false (by omega)) <| w_f (decide_eq_false (by omega)) <| qde hb (by omega) (by show 0 < N; omega) (Nat.zero_le _)
end
end Go.Rx
end
set_option maxRecDepth 100000
noncomputable section
namespace Go.Rx
open Go.Proofs
theorem qjH {n:Nat} {p:List UInt8} (h:p.length=n):(Z2 n p).toList=p:=by
 apply List.ext_getElem
 ·rw [Vector.length_toList,h]
 ·intro i h1 h2
  rw [Vector.getElem_toList]
  unfold Z2
  rw [Vector.getElem_ofFn,List.getD_eq_getElem?_getD,List.getElem?_eq_getElem h2]; rfl
theorem KK {n:Nat} (v:Vector UInt8 n):Z2 n v.toList=v:=by
 apply Vector.toList_inj.1
 exact qjH Vector.length_toList
theorem Yy {a:Int} (h0:0≤a) (h1:a < 256):((XQ [zp a]:Nat):Int)=a:=by
 show (((UInt8.ofNat a.toNat).toNat:Nat):Int)=a
 rw [UInt8.toNat_ofNat_of_lt' (show a.toNat < UInt8.size by unfold UInt8.size; omega)]
 omega
theorem qvT {p:List UInt8} (h:p.length=1):p=[zp ((XQ p:Nat):Int)]:=by
 match p,h with
 | [c],_=>show [c]=[UInt8.ofNat ((c.toNat:Nat):Int).toNat]; rw [Int.toNat_natCast,UInt8.ofNat_toNat]
theorem Wr {p r:List UInt8} {n:Nat} (h:p.length=n):sk (p++r,false) n true=((r,false),p):=by
 subst h
 unfold sk
 rw [if_pos ⟨rfl,rfl,by show p.length≤(p++r).length; rw [List.length_append]; omega⟩]
 show (((p++r).drop p.length,false),(p++r).take p.length)=_
 rw [List.drop_left,List.take_left]
theorem qaX {s:RdS} {n:Nat} {is:Bool} (h:(sk s n is).1.2=false):s.2=false∧is=true∧n≤s.1.length∧(sk s n is).2=s.1.take n∧s.1=(sk s n is).2++(sk s n is).1.1:=by
 unfold sk at h ⊢
 split
 ·rename_i hc
  exact ⟨hc.1,hc.2.1,hc.2.2,rfl,(List.take_append_drop _ _).symm⟩
 ·rename_i hc
  rw [if_neg hc] at h; cases h
theorem qim {s:RdS} (h:(sk s 1 true).1.2=false):s.2=false∧s.1=zp ((XQ (sk s 1 true).2:Nat):Int)::(sk s 1 true).1.1:=by
 obtain ⟨h1,_,_,_,h2⟩:=qaX h
 refine ⟨h1,?_⟩
 rw [qvT (qdo s 1 true)] at h2
 exact h2
theorem qqa {s:RdS} {n:Nat} (h:(sk s n true).1.2=false):s.2=false∧s.1=(Z2 n (sk s n true).2).toList++(sk s n true).1.1:=by
 obtain ⟨h1,_,_,_,h2⟩:=qaX h
 exact ⟨h1,by rw [qjH (qdo s n true)]; exact h2⟩
theorem qwS {s:RdS} (h:(skI s (Qk s.1).2).1.2=false):s.2=false∧s.1=zN (Qk s.1).1++(skI s (Qk s.1).2).1.1:=by
 obtain ⟨h1,h2,_,h3,h4⟩:=qaX h
 refine ⟨h1,?_⟩
 have:zN (Qk s.1).1=(skI s (Qk s.1).2).2:=by
  rw [h3]
  unfold Qk at h2 ⊢
  cases e:rdS s.1 with
  | none=>rw [e] at h2; cases h2
  | some p=>exact (qdV.forth s.1 p.1 p.2 e).2.2.symm
 rw [this]; exact h4
theorem qwO {s:RdS} (h:(skI s (Jt 200 s.1).2).1.2=false):s.2=false∧s.1=vA (Jt 200 s.1).1++(skI s (Jt 200 s.1).2).1.1:=by
 obtain ⟨h1,h2,_,h3,h4⟩:=qaX h
 refine ⟨h1,?_⟩
 have:vA (Jt 200 s.1).1=(skI s (Jt 200 s.1).2).2:=by
  rw [h3]
  unfold Jt at h2 ⊢
  cases e:rdT 200 s.1 with
  | none=>rw [e] at h2; cases h2
  | some p=>exact ((Wb (most:=200) (by omega)).forth s.1 p.1 p.2 e).2.2.symm
 rw [this]; exact h4
theorem qwK {s:RdS} (h:(skI s (Ql s.1).2).1.2=false):s.2=false∧s.1=jq (Ql s.1).1++(skI s (Ql s.1).2).1.1:=by
 obtain ⟨h1,h2,_,h3,h4⟩:=qaX h
 refine ⟨h1,?_⟩
 have:jq (Ql s.1).1=(skI s (Ql s.1).2).2:=by
  rw [h3]
  unfold Ql at h2 ⊢
  cases e:rdD s.1 with
  | none=>rw [e] at h2; cases h2
  | some p=>exact (qbr.forth s.1 p.1 p.2 e).2.2.symm
 rw [this]; exact h4
theorem qaQ {b r:List UInt8} {o:qa} (h:opB o=true) (hb:b=opW o++r):Kf b (r,false) o=(o,(((opW o).length:Nat):Int),true):=by
 unfold Kf
 rw [if_pos ⟨rfl,h⟩,hb,List.length_append]
 refine Prod.ext rfl (Prod.ext ?_ rfl)
 show (((opW o).length + r.length:Nat):Int) - ((r.length:Nat):Int)=(((opW o).length:Nat):Int)
 omega
theorem qww {o:qa} (h:o.Kind=0):opT o=[]:=by
 unfold opT
 rw [if_neg (by omega),if_neg (by omega),if_neg (by omega)]
theorem quU {o:qa} (h:o.Kind=1):opT o=zp o.No::vA o.V:=if_pos h
theorem quW {o:qa} (h:o.Kind=2):opT o=zp o.No::(o.jL.toList++(zp o.je::o.D.toList)):=by
 unfold opT
 rw [if_neg (by omega),if_pos h]
theorem quQ {o:qa} (h:o.Kind=3):opT o=zp o.No::(jq o.P++o.D.toList):=by
 unfold opT
 rw [if_neg (by omega),if_neg (by omega),if_pos h]
theorem qvi {o:qa} (h:opB o=true) (r:List UInt8):opG (opW o++r)=(o,(((opW o).length:Nat):Int),true):=by
 obtain ⟨hk,ho,_,hs,hn,hf,hv,hp⟩:=qbf.1 h
 have e1:sk (opW o++r,false) 1 true=((o.ID.toList++(zN o.S++(opT o++r)),false),[zp o.Kind]):=by
  rw [show opW o++r=[zp o.Kind]++(o.ID.toList++(zN o.S++(opT o++r))) by unfold opW; simp]
  exact Wr rfl
 have e2:sk (o.ID.toList++(zN o.S++(opT o++r)),false) 16 true=((zN o.S++(opT o++r),false),o.ID.toList):=Wr Vector.length_toList
 have e3:Qk (zN o.S++(opT o++r))=(o.S,(((zN o.S).length:Nat):Int),true):=by
  unfold Qk
  rw [qdV.back o.S _ hs]
 have e4:skI (zN o.S++(opT o++r),false) ((((zN o.S).length:Nat):Int),true)=((opT o++r,false),zN o.S):=Wr rfl
 have e5:opG (opW o++r)=ql7 (opW o++r) o.Kind o.ID o.S (opT o++r,false):=by
  unfold opG
  rw [e1]
  dsimp only
  rw [e2]
  dsimp only
  rw [e3]
  dsimp only
  rw [e4,Yy hk.1 (by omega),KK]
 rw [e5]
 unfold ql7
 by_cases h0:o.Kind=0
 ·have hT : opT o = [] := by
     unfold opT
     rw [if_neg (by omega),if_neg (by omega),if_neg (by omega)]
  have hO:qa.mk o.Kind o.ID o.S 0 [] [] zI 0 zD=o:=by
   have:=ho
   unfold KO at this
   rw [if_neg (by omega),if_neg (by omega),if_neg (by omega)] at this
   exact this.symm
  rw [if_pos h0,hT,hO,List.nil_append]
  exact qaQ h rfl
 rw [if_neg h0]
 have one:∀ t,opT o=zp o.No::t→sk (opT o++r,false) 1 true=((t++r,false),[zp o.No]):=fun t ht=>by
  rw [ht,show zp o.No::t++r=[zp o.No]++(t++r) from rfl]
  exact Wr rfl
 unfold qqf
 by_cases h1:o.Kind=1
 ·have hO : qa.mk o.Kind o.ID o.S o.No o.V [] zI 0 zD = o := by
     have:=ho
     unfold KO at this
     rw [if_pos h1] at this
     exact this.symm
  have e6:Jt 200 (vA o.V++r)=(o.V,(((vA o.V).length:Nat):Int),true):=by
   unfold Jt
   rw [(Wb (most:=200) (by omega)).back o.V r hv]
  have e7:skI (vA o.V++r,false) ((((vA o.V).length:Nat):Int),true)=((r,false),vA o.V):=Wr rfl
  rw [if_pos h1,one (vA o.V) (quU h1)]
  dsimp only
  rw [e6]
  dsimp only
  rw [e7,Yy hn.1 (by omega)]
  dsimp only
  rw [hO]
  exact qaQ h rfl
 rw [if_neg h1]
 by_cases h2:o.Kind=2
 ·have hO : qa.mk o.Kind o.ID o.S o.No [] [] o.jL o.je o.D = o := by
     have:=ho
     unfold KO at this
     rw [if_neg h1,if_pos h2] at this
     exact this.symm
  have e6:sk (o.jL.toList++(zp o.je::o.D.toList)++r,false) 16 true=(([zp o.je]++(o.D.toList++r),false),o.jL.toList):=by
   rw [List.append_assoc]; exact Wr Vector.length_toList
  have e7:sk ([zp o.je]++(o.D.toList++r),false) 1 true=((o.D.toList++r,false),[zp o.je]):=Wr rfl
  have e8:sk (o.D.toList++r,false) 32 true=((r,false),o.D.toList):=Wr Vector.length_toList
  rw [if_pos h2,one (o.jL.toList++(zp o.je::o.D.toList)) (quW h2)]
  dsimp only
  rw [e6]
  dsimp only
  rw [e7]
  dsimp only
  rw [e8,Yy hn.1 (by omega),Yy hf.1 (by omega)]
  dsimp only
  rw [KK,KK,hO]
  exact qaQ h rfl
 rw [if_neg h2]
 have h3:o.Kind=3:=by omega
 have hO:qa.mk o.Kind o.ID o.S o.No [] o.P zI 0 o.D=o:=by
  have:=ho
  unfold KO at this
  rw [if_neg h1,if_neg h2,if_pos h3] at this
  exact this.symm
 have e6:Ql (jq o.P++o.D.toList++r)=(o.P,(((jq o.P).length:Nat):Int),true):=by
  unfold Ql
  rw [List.append_assoc,qbr.back o.P _ hp]
 have e7:skI (jq o.P++o.D.toList++r,false) ((((jq o.P).length:Nat):Int),true)=((o.D.toList++r,false),jq o.P):=by
  rw [List.append_assoc]; exact Wr rfl
 have e8:sk (o.D.toList++r,false) 32 true=((r,false),o.D.toList):=Wr Vector.length_toList
 rw [if_pos h3,one (jq o.P++o.D.toList) (quQ h3)]
 dsimp only
 rw [e6]
 dsimp only
 rw [e7]
 dsimp only
 rw [e8,Yy hn.1 (by omega)]
 dsimp only
 rw [KK,hO]
 exact qaQ h rfl
def quY (b:List UInt8) (x:qa×Int×Bool):Prop:=x=(zO,0,false)∨∃ o r,x=(o,(((opW o).length:Nat):Int),true)∧opB o=true∧b=opW o++r
theorem qa7 {b:List UInt8} {s:RdS} {o:qa} (h:s.2=false→opB o=true→b=opW o++s.1):quY b (Kf b s o):=by
 by_cases hc:s.2=false∧opB o=true
 ·right
  have hb:=h hc.1 hc.2
  obtain ⟨r,bad⟩:=s
  obtain rfl:bad=false:=hc.1
  exact ⟨o,r,qaQ hc.2 hb,hc.2,hb⟩
 ·left
  unfold Kf
  rw [if_neg hc]
theorem qr4 (b:List UInt8):quY b (opG b):=by
 unfold opG
 have front : (skI (sk (sk (b, false) 1 true).1 16 true).1 (Qk (sk (sk (b, false) 1 true).1 16 true).1.1).2).1.2 = false →
     b=zp ((XQ (sk (b,false) 1 true).2:Nat):Int)::((Z2 16 (sk (sk (b,false) 1 true).1 16 true).2).toList++(zN (Qk (sk (sk (b,false) 1 true).1 16 true).1.1).1++(skI (sk (sk (b,false) 1 true).1 16 true).1 (Qk (sk (sk (b,false) 1 true).1 16 true).1.1).2).1.1)):=fun h=>by
  obtain ⟨h1,h2⟩:=qwS h
  obtain ⟨h3,h4⟩:=qqa h1
  obtain ⟨_,h5⟩:=qim h3
  rw [h2] at h4
  rw [h4] at h5
  exact h5
 generalize ((XQ (sk (b,false) 1 true).2:Nat):Int)=k at front
 generalize Z2 16 (sk (sk (b,false) 1 true).1 16 true).2=id at front
 generalize (Qk (sk (sk (b,false) 1 true).1 16 true).1.1).1=S at front
 generalize (skI (sk (sk (b,false) 1 true).1 16 true).1 (Qk (sk (sk (b,false) 1 true).1 16 true).1.1).2).1=s4 at front
 have whole:∀ (o:qa) (r:List UInt8),s4.2=false→o.Kind=k→o.ID=id→o.S=S→s4.1=opT o++r→b=opW o++r:=fun o r h0 h1 h2 h3 h4=>by
  rw [front h0,h4]
  unfold opW
  rw [h1,h2,h3]; simp
 unfold ql7
 split
 ·rename_i h0
  exact qa7 fun hs _=>whole _ _ hs rfl rfl rfl (by rw [qww (show qa.Kind (qa.mk k id S _ _ _ _ _ _)=0 from h0)]; rfl)
 rename_i h0
 unfold qqf
 split
 ·rename_i h1
  exact qa7 fun hs _=>by
   obtain ⟨t1,t2⟩:=qwO hs
   obtain ⟨t3,t4⟩:=qim t1
   refine whole _ _ t3 rfl rfl rfl ?_
   rw [quU (show qa.Kind (qa.mk k id S _ _ _ _ _ _)=1 from h1),t4,List.cons_append]
   exact congrArg _ t2
 split
 ·rename_i h1 h2
  exact qa7 fun hs _=>by
   obtain ⟨t1,t2⟩:=qqa hs
   obtain ⟨t3,t4⟩:=qim t1
   obtain ⟨t5,t6⟩:=qqa t3
   obtain ⟨t7,t8⟩:=qim t5
   refine whole _ _ t7 rfl rfl rfl ?_
   rw [quW (show qa.Kind (qa.mk k id S _ _ _ _ _ _)=2 from h2),t8,List.cons_append]
   refine congrArg _ (t6.trans ?_)
   rw [List.append_assoc,List.cons_append]
   refine congrArg _ (t4.trans ?_)
   exact congrArg _ t2
 split
 ·rename_i h1 h2 h3
  exact qa7 fun hs _=>by
   obtain ⟨t1,t2⟩:=qqa hs
   obtain ⟨t3,t4⟩:=qwK t1
   obtain ⟨t5,t6⟩:=qim t3
   refine whole _ _ t5 rfl rfl rfl ?_
   rw [quQ (show qa.Kind (qa.mk k id S _ _ _ _ _ _)=3 from h3),t6,List.cons_append]
   refine congrArg _ (t4.trans ?_)
   rw [List.append_assoc]
   exact congrArg _ t2
 ·rename_i h1 h2 h3
  exact qa7 fun _ ho=>by
   have:=(qbf.1 ho).1
   have hk:0≤k∧k < 4:=this
   omega
def opR (b:List UInt8):Option (qa×Nat):=if (opG b).2.2=true then some ((opG b).1,(opG b).2.1.toNat) else none
theorem qwu:Cod (fun o:qa=>opB o=true) opW opR:=by
 refine ⟨fun o r h=>?_,fun b o n h=>?_⟩
 ·unfold opR
  rw [qvi h r]; rfl
 ·unfold opR at h
  rcases qr4 b with e | ⟨o',r,e,ho,hb⟩
  ·rw [e] at h; cases h
  ·rw [e] at h
   obtain ⟨rfl,rfl⟩:=Prod.mk.inj (Option.some.inj h)
   refine ⟨ho,?_,?_⟩
   ·rw [hb,List.length_append]; show (((opW o').length:Nat):Int).toNat≤_; omega
   ·show b.take (opW o').length=opW o'
    rw [hb,List.take_left]
theorem qvV (b:List UInt8):opG b=match opR b with | some (o,n)=>(o,(n:Int),true) | none=>(zO,0,false):=by
 unfold opR
 rcases qr4 b with e | ⟨o',r,e,_,_⟩
 ·rw [e]; rfl
 ·rw [e]; rfl
end Go.Rx
end
set_option maxRecDepth 100000
noncomputable section
namespace Go.Rx
open Go.Proofs
open Go.Lib (compareBytes)
end Go.Rx
end
set_option maxRecDepth 100000
noncomputable section
namespace Go.Rx
open Go.Proofs
end Go.Rx
end
set_option maxRecDepth 100000
noncomputable section
namespace Go.Rx
open Go.Proofs
end Go.Rx
end
set_option maxRecDepth 100000
noncomputable section
namespace Go.Rx
open Go.Proofs
open Go.Lib (compareBytes)
end Go.Rx
end
set_option maxRecDepth 100000
noncomputable section
namespace Go.Rx
open Go.Proofs
open Go.Lib (compareBytes)
end Go.Rx
end
set_option maxRecDepth 100000
noncomputable section
namespace Go.Rx
open Go.Proofs
open Go.Lib (compareBytes)
end Go.Rx
end
set_option maxRecDepth 100000
noncomputable section
namespace Go.Rx
open Go.Proofs
end Go.Rx
end
set_option maxRecDepth 100000
noncomputable section
namespace Go.Rx
open Go.Proofs
end Go.Rx
end
set_option maxRecDepth 100000
noncomputable section
namespace Go.Rx
open Go.Proofs
end Go.Rx
end
set_option maxRecDepth 100000
noncomputable section
namespace Go.Rx
open Go.Proofs
end Go.Rx
end
set_option maxRecDepth 100000
noncomputable section
namespace Go.Rx
open Go.Proofs
end Go.Rx
end
set_option maxRecDepth 100000
noncomputable section
namespace Go.Rx
open Go.Proofs
end Go.Rx
end
set_option maxRecDepth 100000
noncomputable section
namespace Go.Rx
open Go.Proofs
end Go.Rx
end
set_option maxRecDepth 100000
noncomputable section
namespace Go.Rx
open Go.Proofs
end Go.Rx
end
set_option maxRecDepth 100000
noncomputable section
namespace Go.Rx
open Go.Proofs
end Go.Rx
end
set_option maxRecDepth 100000
noncomputable section
namespace Go.Rx
open Go.Proofs
section
variable {N:Nat} [Vw N]
theorem qta (o:qa):∃ x,jJ N o=some x∧(x=true→(qa.P o).length≤80∧(qa.V o).length≤300∧∀ k,k < (qa.P o).length→((qa.P o).getD k zP).Lit.length≤300):=by
 have hN:=big N
 by_cases h1:(qa.P o).length≤80
 ·by_cases h2:(qa.V o).length≤300
  ·have hl : Js N o 0 = some (if V2 (fun k => decide (((qa.P o).getD k zP).Lit.length ≤ 300)) (qa.P o).length then .inr (((qa.P o).length : Nat), false) else .inl ()) := by
      refine (qjR (B:=Qa N o) (g:=some) (q:=fun k=>decide (((qa.P o).getD k zP).Lit.length≤300)) (n:=(qa.P o).length) (hit:=()) (fun k hk=>?_) ?_ (by omega))
      ·unfold Qa
       refine w_t (dec_lt hk) <| qo (XB (d:=zP) hk) ?_
       by_cases h:((qa.P o).getD k zP).Lit.length≤300
       ·rw [decide_eq_true h]
        exact w_f (decide_eq_false (by show ¬ (300:Int) < ((((qa.P o).getD k zP).Lit.length:Nat):Int); omega)) <| qF (Vn (by omega)) <| qy (by rw [Zc]; rfl)
       ·rw [decide_eq_false h]
        exact w_t (decide_eq_true (by show (300:Int) < ((((qa.P o).getD k zP).Lit.length:Nat):Int); omega)) <| qy rfl
      ·unfold Qa
       exact w_f (vL (Nat.lt_irrefl _)) (qy (by rw [vL (Nat.lt_irrefl _)]))
   refine ⟨V2 (fun k=>decide (((qa.P o).getD k zP).Lit.length≤300)) (qa.P o).length,?_,fun h=>⟨h1,h2,fun k hk=>of_decide_eq_true (JK.1 h k hk)⟩⟩
   unfold jJ vX
   refine w_f (decide_eq_false (by omega)) <| w_f (decide_eq_false (by omega)) <| qo hl ?_
   cases V2 (fun k=>decide (((qa.P o).getD k zP).Lit.length≤300)) (qa.P o).length<;>rfl
  ·refine ⟨false,?_,fun h=>by cases h⟩
   unfold jJ vX
   exact w_f (decide_eq_false (by omega)) <| w_t (decide_eq_true (by omega)) <| qy rfl
 ·refine ⟨false,?_,fun h=>by cases h⟩
  unfold jJ vX
  exact w_t (decide_eq_true (by omega)) <| qy rfl
theorem qtF (o:qa):∃ x,jJ N o=some x:=by
 obtain ⟨x,h,_⟩:=qta (N:=N) o
 exact ⟨x,h⟩
end
end Go.Rx
end
set_option maxRecDepth 100000
noncomputable section
namespace Go.Rx
open Go.Proofs
section
variable {N:Nat} [Vw N]
theorem qsN (o:qa) (at_:Int) (hl:(qa.P o).length < N) (hl2:(qa.P o).length≤1000000000000000):jT N o at_=some true:=by
 obtain ⟨y,ey⟩:=qtF (N:=N) o
 unfold jT Z3
 refine qo (show qma=some true from rfl) <| qo ey <| qo (qvu hl hl2) <| w_f rfl ?_
 cases y with
 | false=>rfl
 | true=>
 refine w_f rfl ?_
 cases ho:opB o with
 | false=>rw [if_neg (by simp)]; rfl
 | true=>
  rw [if_pos rfl]
  have hlen:=qvc ho
  have hk:=(qbf.1 ho).1
  refine w_f rfl <| zT rfl (fun _=>rfl) fun h1=>zT rfl (fun _=>rfl) fun h2=>?_
  have h1:=of_decide_eq_false h1
  have h2:¬ (((opW o).length:Nat):Int)≤at_:=of_decide_eq_false h2
  have hg:qd3 N (((opW o).take at_.toNat).drop 0)=some (zO,0,false):=by
   rw [List.drop_zero,qu3 (by rw [List.length_take]; omega),qvV,qwu.cut ho (by omega)]
  refine qF ⟨Int.le_refl _,by omega,by show at_≤(((opW o).length:Nat):Int); omega⟩ <| qo hg <| w_t rfl <| w_t rfl ?_
  have h0:zn (opW o) (0:Int)=some (zp o.Kind):=rfl
  have hb:(((zp o.Kind).toNat:Nat):Int)=o.Kind:=Yy hk.1 (by omega)
  refine qo h0 <| qF (show qv (((zp o.Kind).toNat:Nat):Int) by rw [hb]; unfold qv; omega) <| w_t (decide_eq_true hb) <| qy (congrArg some (decide_eq_true ?_))
  show (18:Int)≤(((opW o).length:Nat):Int)
  omega
end
theorem qwG (o:qa) (k:Int) (h:(qa.P o).length≤1000000000000000):∃ N:Nat,jT N o k=some true:=by
 have:Vw (100000 + (qa.P o).length):=Vw.of (by omega)
 exact ⟨100000 + (qa.P o).length,qsN o k (by omega) h⟩
end Go.Rx
end
