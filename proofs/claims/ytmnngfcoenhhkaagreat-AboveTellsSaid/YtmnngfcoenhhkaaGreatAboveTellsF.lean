/- A part of the proof of AboveTells: the law returns true for every input, and its arguments read as before. No condition. -/
import Derived.Test.YtmnngfcoenhhkaaGreatProg
import Derived.Test.YtmnngfcoenhhkaaGreatComE
set_option linter.unusedSimpArgs false
set_option linter.unusedVariables false
set_option linter.unusedSectionVars false
noncomputable section
namespace Go.Rx
theorem qb2 {α R:Type} (n:α→Option R):∀ t:Tree α,t.run n=(t.run some).bind n
 | .ret a=>rfl
 | .no=>rfl
 | .cond b s t=>by
  simp only [Tree.run]
  cases b
  ·exact qb2 n t
  ·exact qb2 n s
 | @Tree.chk _ p d t=>by
  simp only [Tree.run,chk]
  split
  ·exact qb2 n t
  ·rfl
 | .bind o k=>by
  simp only [Tree.run]
  cases o with
  | none=>rfl
  | some x=>exact qb2 n (k x)
 | .opt o s k=>by
  simp only [Tree.run]
  cases o with
  | none=>exact qb2 n s
  | some x=>exact qb2 n (k x)
 | .sum x f g=>by
  cases x with
  | inl a=>exact qb2 n (f a)
  | inr b=>exact qb2 n (g b)
section r
variable {α R:Type} {n:α→Option R}
theorem zc {a:α}:(Tree.ret a).run n=n a:=rfl
theorem qL {b:Bool} {s t:Tree α}:(Tree.cond b s t).run n=bif b then s.run n else t.run n:=rfl
theorem qS {p:Prop} [Decidable p] {t:Tree α}:(Tree.chk p t).run n=chk p (t.run n):=rfl
theorem run_bind {β:Type} {o:Option β} {k:β→Tree α}:(Tree.bind o k).run n=o.bind fun x=>(k x).run n:=rfl
theorem qTQ {β γ:Type} {x:γ} {f:β→Tree α} {g:γ→Tree α}:(Tree.sum (.inr x) f g).run n=(g x).run n:=rfl
end r
theorem Zq {V W Y:Type} {B:V→Tree (V⊕W)} {g:W→Option Y} {v v':V} (h:(B v).run some=some (.inl v')) (N:Nat):qQ B g (N + 1) v=qQ B g N v':=by
 simp only [qQ]
 rw [qb2,h]; rfl
theorem zu {V W Y:Type} {B:V→Tree (V⊕W)} {g:W→Option Y} {v:V} {x:W} (h:(B v).run some=some (.inr x)) (N:Nat):qQ B g (N + 1) v=g x:=by
 simp only [qQ]
 rw [qb2,h]; rfl
theorem qj4 {V W Y : Type} {B : V → Tree (V ⊕ W)} {g : W → Option Y} {I : V → Prop} {Q : Y → Prop} (m : V → Nat)
    (h:∀ v,I v→(∃ v',(B v).run some=some (.inl v')∧I v'∧m v' < m v)∨∃ x y,(B v).run some=some (.inr x)∧g x=some y∧Q y) :
    ∀ (N:Nat) (v:V),I v→m v < N→∃ y,qQ B g N v=some y∧Q y
 | 0,v,_,hm=>by omega
 | N + 1,v,hi,hm=>by
  rcases h v hi with ⟨v',h1,h2,h3⟩ | ⟨x,y,h1,h2,h3⟩
  ·rw [Zq h1]
   exact qj4 m h N v' h2 (by omega)
  ·rw [zu h1]
   exact ⟨y,h2,h3⟩
theorem qdR {W Y : Type} {B : Int → Tree (Int ⊕ W)} {g : W → Option Y} {p : Nat → Bool} {n : Nat} {hit : Nat → W} {fin : W}
    (h1:∀ k,k < n→(B (k:Int)).run some=some (if p k then .inr (hit k) else .inl ((k + 1:Nat):Int))) (h2:(B (n:Int)).run some=some (.inr fin)) :
    ∀ (N k:Nat),k≤n→n < N + k→qQ B g N (k:Int)=g (match Zh p (n - k) k with | some j=>hit j | none=>fin)
 | 0,k,hk,hN=>by omega
 | N + 1,k,hk,hN=>by
  by_cases e:k=n
  ·subst e
   rw [zu h2,Nat.sub_self]; rfl
  ·obtain ⟨m,hm⟩:∃ m,n - k=m + 1:=⟨n - k - 1,by omega⟩
   have h3:=h1 k (by omega)
   rw [hm]
   unfold Zh
   cases hp:p k with
   | true=>
    rw [hp,if_pos rfl] at h3
    rw [zu h3,if_pos rfl]
   | false=>
    rw [hp,if_neg (by simp)] at h3
    rw [Zq h3,qdR h1 h2 N (k + 1) (by omega) (by omega),if_neg (by simp),show n - (k + 1)=m by omega]
def zY {σ:Type} (f:Nat→σ→σ):Nat→Nat→σ→σ
 | 0,_,s=>s
 | m + 1,k,s=>zY f m (k + 1) (f k s)
theorem jd {σ W Y : Type} {V : Type} {B : V → Tree (V ⊕ W)} {g : W → Option Y} {at_ : Nat → σ → V} {I : Nat → σ → Prop} {f : Nat → σ → σ} {n : Nat} {fin : σ → W}
    (h1:∀ k s,k < n→I k s→(B (at_ k s)).run some=some (.inl (at_ (k + 1) (f k s)))∧I (k + 1) (f k s)) (h2:∀ s,I n s→(B (at_ n s)).run some=some (.inr (fin s))) :
    ∀ (N k:Nat) (s:σ),I k s→k≤n→n < N + k→qQ B g N (at_ k s)=g (fin (zY f (n - k) k s))
 | 0,k,s,_,hk,hN=>by omega
 | N + 1,k,s,hi,hk,hN=>by
  by_cases e:k=n
  ·subst e
   rw [zu (h2 s hi),Nat.sub_self]; rfl
  ·obtain ⟨m,hm⟩:∃ m,n - k=m + 1:=⟨n - k - 1,by omega⟩
   obtain ⟨h3,h4⟩:=h1 k s (by omega) hi
   rw [Zq h3,jd h1 h2 N (k + 1) _ h4 (by omega) (by omega),hm,show n - (k + 1)=m by omega]
   rfl
theorem qU2 {α:Type} {l:List α} {k:Nat} (h:k < l.length):jy l l.length k=some l[k]:=by
 unfold jy; rw [if_pos rfl,List.getElem?_eq_getElem h]
theorem qOX {α:Type} {l:List α} {k n:Nat} {d:α} (hn:l.length=n) (h:k < l.length):jy l n k=some (l.getD k d):=by
 unfold jy; rw [if_pos hn,List.getElem?_eq_getElem h]; simp [List.getD,List.getElem?_eq_getElem h]
theorem qi {α:Type} {p:Prop} [Decidable p] {x:Option α} (h:p):chk p x=x:=if_pos h
theorem qyU {Z:Type} (o:Option Z):zV [] o=o:=rfl
theorem zl {Z:Type} {a b:Nat} {ps:List (Nat×Nat)} {o:Option Z} (h:a=b):zV ((a,b)::ps) o=zV ps o:=if_pos h
end Go.Rx
end
noncomputable section
namespace Go.Rx
def qh:Ty:=.ag [.i .i64,.i .i64]
abbrev qc:=Int×Int
def qc.N (x:qc):Int:=x.1
def qc.Rep (x:qc):Int:=x.2
def qc.mk (x0:Int) (x1:Int):qc:=(x0,x1)
instance qc.dec:DecidableEq qc:=Wp qh
def qq:Ty:=.ag [qh,.s]
abbrev qe:=qc×List UInt8
def qe.S (x:qe):qc:=x.1
def qe.V (x:qe):List UInt8:=x.2
def qe.mk (x0:qc) (x1:List UInt8):qe:=(x0,x1)
instance qe.dec:DecidableEq qe:=Wp qq
def qB:Ty:=.ag [.i .i64,qq]
abbrev qd:=Int×qe
def qd.No (x:qd):Int:=x.1
def qd.C (x:qd):qe:=x.2
def qd.mk (x0:Int) (x1:qe):qd:=(x0,x1)
instance qd.dec:DecidableEq qd:=Wp qB
def qf:Ty:=.ag [.ba 16,qh,.sl 4 qB]
abbrev qa:=Vector UInt8 16×qc×List qd
def qa.ID (x:qa):Vector UInt8 16:=x.1
def qa.qz (x:qa):qc:=x.2.1
def qa.F (x:qa):List qd:=x.2.2
def qa.mk (x0:Vector UInt8 16) (x1:qc) (x2:List qd):qa:=(x0,x1,x2)
instance qa.dec:DecidableEq qa:=Wp qf
def qj:Ty:=.ag [.sl 19 qf]
abbrev qb:=List qa
def qb.R (x:qb):List qa:=x
def qb.mk (x0:List qa):qb:=(x0)
instance qb.dec:DecidableEq qb:=Wp qj
def VB:Ty:=.ag [.i .u32,.ba 32]
abbrev zy:=Int×Vector UInt8 32
def zy.vZ (x:zy):Int:=x.1
def zy.qWo (x:zy):Vector UInt8 32:=x.2
def zy.mk (x0:Int) (x1:Vector UInt8 32):zy:=(x0,x1)
instance zy.dec:DecidableEq zy:=Wp VB
def qX:Ty:=.ag [.i .i64,qh,.i .i64,.ba 32,.sl 33 VB]
abbrev qm:=Int×qc×Int×Vector UInt8 32×List zy
def qm.No (x:qm):Int:=x.1
def qm.S (x:qm):qc:=x.2.1
def qm.Len (x:qm):Int:=x.2.2.1
def qm.D (x:qm):Vector UInt8 32:=x.2.2.2.1
def qm.B (x:qm):List zy:=x.2.2.2.2
def qm.mk (x0:Int) (x1:qc) (x2:Int) (x3:Vector UInt8 32) (x4:List zy):qm:=(x0,x1,x2,x3,x4)
instance qm.dec:DecidableEq qm:=Wp qX
def qZ:Ty:=.ag [.ba 16,qh,.sl 37 qX]
abbrev qn:=Vector UInt8 16×qc×List qm
def qn.ID (x:qn):Vector UInt8 16:=x.1
def qn.qz (x:qn):qc:=x.2.1
def qn.F (x:qn):List qm:=x.2.2
def qn.mk (x0:Vector UInt8 16) (x1:qc) (x2:List qm):qn:=(x0,x1,x2)
instance qn.dec:DecidableEq qn:=Wp qZ
def qo:Ty:=.ag [.ba 32,.sl 19 qZ]
abbrev qg:=Vector UInt8 32×List qn
def qg.qWP (x:qg):Vector UInt8 32:=x.1
def qg.L (x:qg):List qn:=x.2
def qg.mk (x0:Vector UInt8 32) (x1:List qn):qg:=(x0,x1)
instance qg.dec:DecidableEq qg:=Wp qo
end Go.Rx
end
set_option maxRecDepth 100000
noncomputable section
namespace Go.Rx
open Go.Proofs
theorem qk:Tryz.prog.follows .mixedOrders=true:=by kernel_rfl
noncomputable instance qWW:CT:=⟨ctF Tryz.prog⟩
def qPw:Ent:=qWr 128
theorem qVx:zf Tryz.prog qPw:=qVv (fn:=Tryz.f128) (by kernel_rfl) (by kernel_rfl) (by kernel_rfl) (by kernel_rfl) (by kernel_rfl)
noncomputable def qPV:Code:=Tryz.f111.body.getD .skip
theorem qw8:FnF Tryz.prog 111 Tryz.f111 qPV:=⟨qk,by kernel_rfl,by kernel_rfl,by kernel_rfl⟩
def qHj:TH:={ live:=[(0,[0]),(1,[0,4]),(2,[2]),(3,[2])],vecs:=[5],esc:=true }
def qHl (N:Nat):List Ent:=[]
theorem qEr (N:Nat):qU Tryz.prog (qHl N):=trivial
def qvn (a0:List UInt8) (z:Unit):TV×THp:=(.v 100050 (((([]:List UInt8))++a0).length),[(100050,.vec false 1 .bl ((([]:List UInt8))++a0:List UInt8))])
def qlr (a0:List UInt8):Tree (Unit):=
 .chk (List.isEmpty a0=false) <|
 .chk (zU ((([]:List UInt8)).length) 0 (((([]:List UInt8))++a0).length) 1) <|
 .ret ()
def qqL (a0:List UInt8):Option (Unit):=(qlr a0).run some
def qHW:List (Nat×qw):=[]
theorem qD3:qaJ Tryz.prog ⟨111,[],[.x .bl],[],[]⟩ [.bl] (fun x=>qlr x.1) (fun x=>qvn x.1):=
 Yr (H:=qHj) (L:=qJ (qHW)) 0 qw8 (qEr 0) (qt (by kernel_rfl) trivial) (rg0 (by kernel_rfl)) fun x=>by kernel_rfl
def qC4:TH:={ live:=[(0,[0]),(1,[0,4]),(2,[2]),(3,[2])],vecs:=[5],esc:=true }
def qC3 (N:Nat):List Ent:=[]
theorem qAo (N:Nat):qU Tryz.prog (qC3 N):=trivial
def qEQ (z:Unit):TV×THp:=(.v 100050 0,[(100050,.vec false 1 .bl ([]:List UInt8))])
def qo9:Tree (Unit):=
 .chk (0=0) <|
 .ret ()
def qHx:Option (Unit):=(qo9).run some
def qEb:List (Nat×qw):=[]
theorem qAH:qaJ Tryz.prog ⟨111,[],[.k (.es 0)],[],[]⟩ [] (fun x=>qo9) (fun _=>qEQ):=
 Yr (H:=qC4) (L:=qJ (qEb)) 0 qw8 (qAo 0) (qt (by kernel_rfl) trivial) (rg0 (by kernel_rfl)) fun x=>by kernel_rfl
def qEf:TH:={ live:=[(0,[0]),(1,[0,4]),(2,[2]),(3,[2])],vecs:=[5],esc:=true }
def qEq (N:Nat):List Ent:=[]
theorem qz7 (N:Nat):qU Tryz.prog (qEq N):=trivial
def qDg (z:Unit):TV×THp:=(.nils,[])
def qoQ:Tree (Unit):=
 .ret ()
def qHJ:Option (Unit):=(qoQ).run some
def qDi:List (Nat×qw):=[]
theorem qz_:qaJ Tryz.prog ⟨111,[],[.k (.es 1)],[],[]⟩ [] (fun x=>qoQ) (fun _=>qDg):=
 Yr (H:=qEf) (L:=qJ (qDi)) 0 qw8 (qz7 0) (qt (by kernel_rfl) trivial) (rg0 (by kernel_rfl)) fun x=>by kernel_rfl
def qoG (z:Unit):Unit:=()
def qC_ (z:Unit):Unit:=()
def K9 (a0:List UInt8):Option (Unit):=
 bif a0.isEmpty then
  (qHx).bind fun z0=>(qHJ).bind fun z1=>chk (qoG z0=qC_ z1) (some (qoG z0))
 else qqL a0
def qr9:Ent:=smF ⟨111,[],[.x .bl],[],[]⟩ [.bl] (Unit) (fun x=>K9 x.1) cs1 fun x=>qvn x.1
theorem qD_:zf Tryz.prog (qr9):=qkV fun x z h l=>by
 obtain ⟨a0,_⟩:=x
 replace h:K9 a0=some z:=h
 unfold K9 at h
 rcases qks h with ⟨e,h2⟩ | ⟨_,h2⟩<;>clear h
 ·have e:=List.isEmpty_iff.1 e
  subst e
  obtain ⟨z0,c0,h2⟩:=bind_some h2
  obtain ⟨z1,c1,h2⟩:=bind_some h2
  obtain ⟨hE,h2⟩:=qjU h2
  obtain rfl:=Option.some.inj h2
  refine qkB (t:=.bl) (x:=[]) rfl (TV.ers []) (TV.ers []) (by exact qAH (()) _ c0 l) ?_
  rw [hE]
  exact (qL5 (n:=100050) (sz:=1) (x:=qG .bl ([]:List UInt8)) rfl (by kernel_rfl) (by kernel_rfl) (qz_ (()) _ c1 l))
 ·exact qD3 (a0,()) z h2 l
noncomputable def qQn:Code:=Tryz.f112.body.getD .skip
theorem qPH:FnF Tryz.prog 112 Tryz.f112 qQn:=⟨qk,by kernel_rfl,by kernel_rfl,by kernel_rfl⟩
def qK7:TH:={ live:=[(0,[0]),(1,[0])] }
def qKS (N:Nat):List Ent:=[]
theorem qHb (N:Nat):qU Tryz.prog (qKS N):=trivial
def qKU (z:Unit):TV×THp:=(.tv (.wa 8) ((((((((((Vector.replicate 8 0)).setIfInBounds 0 ((UInt32.ofNat 1779033703))).setIfInBounds 1 ((UInt32.ofNat 3144134277))).setIfInBounds 2 ((UInt32.ofNat 1013904242))).setIfInBounds 3 ((UInt32.ofNat 2773480762))).setIfInBounds 4 ((UInt32.ofNat 1359893119))).setIfInBounds 5 ((UInt32.ofNat 2600822924))).setIfInBounds 6 ((UInt32.ofNat 528734635))).setIfInBounds 7 ((UInt32.ofNat 1541459225)):Vector UInt32 8),[])
def qAZ:Tree (Unit):=
 .chk (0 < 8) <|
 .chk (1 < 8) <|
 .chk (2 < 8) <|
 .chk (3 < 8) <|
 .chk (4 < 8) <|
 .chk (5 < 8) <|
 .chk (6 < 8) <|
 .chk (7 < 8) <|
 .ret ()
def qw5:Option (Unit):=(qAZ).run some
def qKZ:List (Nat×qw):=[]
def qAR:Ent:=smF ⟨112,[],[],[],[]⟩ [] (Unit) (fun x=>qw5) cs1 fun _=>qKU
theorem qJ6:zf Tryz.prog (qAR):=
 zd (H:=qK7) (L:=qJ (qKZ)) (ts:=[]) (T:=fun x=>qAZ) 0 qPH (qHb 0) (qt (by kernel_rfl) trivial) (rg0 (by kernel_rfl)) fun x=>by kernel_rfl
noncomputable def qPL:Code:=Tryz.f113.body.getD .skip
theorem qQi:FnF Tryz.prog 113 Tryz.f113 qPL:=⟨qk,by kernel_rfl,by kernel_rfl,by kernel_rfl⟩
def qLd:TH:={ live:=[(0,[0]),(1,[0])] }
def qLh (N:Nat):List Ent:=[]
theorem qHR (N:Nat):qU Tryz.prog (qLh N):=trivial
def qLx (z:Unit):TV×THp:=(.tv (.wa 64) ((((((((((((((((((((((((((((((((((((((((((((((((((((((((((((((((((Vector.replicate 64 0)).setIfInBounds 0 ((UInt32.ofNat 1116352408))).setIfInBounds 1 ((UInt32.ofNat 1899447441))).setIfInBounds 2 ((UInt32.ofNat 3049323471))).setIfInBounds 3 ((UInt32.ofNat 3921009573))).setIfInBounds 4 ((UInt32.ofNat 961987163))).setIfInBounds 5 ((UInt32.ofNat 1508970993))).setIfInBounds 6 ((UInt32.ofNat 2453635748))).setIfInBounds 7 ((UInt32.ofNat 2870763221))).setIfInBounds 8 ((UInt32.ofNat 3624381080))).setIfInBounds 9 ((UInt32.ofNat 310598401))).setIfInBounds 10 ((UInt32.ofNat 607225278))).setIfInBounds 11 ((UInt32.ofNat 1426881987))).setIfInBounds 12 ((UInt32.ofNat 1925078388))).setIfInBounds 13 ((UInt32.ofNat 2162078206))).setIfInBounds 14 ((UInt32.ofNat 2614888103))).setIfInBounds 15 ((UInt32.ofNat 3248222580))).setIfInBounds 16 ((UInt32.ofNat 3835390401))).setIfInBounds 17 ((UInt32.ofNat 4022224774))).setIfInBounds 18 ((UInt32.ofNat 264347078))).setIfInBounds 19 ((UInt32.ofNat 604807628))).setIfInBounds 20 ((UInt32.ofNat 770255983))).setIfInBounds 21 ((UInt32.ofNat 1249150122))).setIfInBounds 22 ((UInt32.ofNat 1555081692))).setIfInBounds 23 ((UInt32.ofNat 1996064986))).setIfInBounds 24 ((UInt32.ofNat 2554220882))).setIfInBounds 25 ((UInt32.ofNat 2821834349))).setIfInBounds 26 ((UInt32.ofNat 2952996808))).setIfInBounds 27 ((UInt32.ofNat 3210313671))).setIfInBounds 28 ((UInt32.ofNat 3336571891))).setIfInBounds 29 ((UInt32.ofNat 3584528711))).setIfInBounds 30 ((UInt32.ofNat 113926993))).setIfInBounds 31 ((UInt32.ofNat 338241895))).setIfInBounds 32 ((UInt32.ofNat 666307205))).setIfInBounds 33 ((UInt32.ofNat 773529912))).setIfInBounds 34 ((UInt32.ofNat 1294757372))).setIfInBounds 35 ((UInt32.ofNat 1396182291))).setIfInBounds 36 ((UInt32.ofNat 1695183700))).setIfInBounds 37 ((UInt32.ofNat 1986661051))).setIfInBounds 38 ((UInt32.ofNat 2177026350))).setIfInBounds 39 ((UInt32.ofNat 2456956037))).setIfInBounds 40 ((UInt32.ofNat 2730485921))).setIfInBounds 41 ((UInt32.ofNat 2820302411))).setIfInBounds 42 ((UInt32.ofNat 3259730800))).setIfInBounds 43 ((UInt32.ofNat 3345764771))).setIfInBounds 44 ((UInt32.ofNat 3516065817))).setIfInBounds 45 ((UInt32.ofNat 3600352804))).setIfInBounds 46 ((UInt32.ofNat 4094571909))).setIfInBounds 47 ((UInt32.ofNat 275423344))).setIfInBounds 48 ((UInt32.ofNat 430227734))).setIfInBounds 49 ((UInt32.ofNat 506948616))).setIfInBounds 50 ((UInt32.ofNat 659060556))).setIfInBounds 51 ((UInt32.ofNat 883997877))).setIfInBounds 52 ((UInt32.ofNat 958139571))).setIfInBounds 53 ((UInt32.ofNat 1322822218))).setIfInBounds 54 ((UInt32.ofNat 1537002063))).setIfInBounds 55 ((UInt32.ofNat 1747873779))).setIfInBounds 56 ((UInt32.ofNat 1955562222))).setIfInBounds 57 ((UInt32.ofNat 2024104815))).setIfInBounds 58 ((UInt32.ofNat 2227730452))).setIfInBounds 59 ((UInt32.ofNat 2361852424))).setIfInBounds 60 ((UInt32.ofNat 2428436474))).setIfInBounds 61 ((UInt32.ofNat 2756734187))).setIfInBounds 62 ((UInt32.ofNat 3204031479))).setIfInBounds 63 ((UInt32.ofNat 3329325298)):Vector UInt32 64),[])
def qA4:Tree (Unit):=
 .chk (0 < 64) <|
 .chk (1 < 64) <|
 .chk (2 < 64) <|
 .chk (3 < 64) <|
 .chk (4 < 64) <|
 .chk (5 < 64) <|
 .chk (6 < 64) <|
 .chk (7 < 64) <|
 .chk (8 < 64) <|
 .chk (9 < 64) <|
 .chk (10 < 64) <|
 .chk (11 < 64) <|
 .chk (12 < 64) <|
 .chk (13 < 64) <|
 .chk (14 < 64) <|
 .chk (15 < 64) <|
 .chk (16 < 64) <|
 .chk (17 < 64) <|
 .chk (18 < 64) <|
 .chk (19 < 64) <|
 .chk (20 < 64) <|
 .chk (21 < 64) <|
 .chk (22 < 64) <|
 .chk (23 < 64) <|
 .chk (24 < 64) <|
 .chk (25 < 64) <|
 .chk (26 < 64) <|
 .chk (27 < 64) <|
 .chk (28 < 64) <|
 .chk (29 < 64) <|
 .chk (30 < 64) <|
 .chk (31 < 64) <|
 .chk (32 < 64) <|
 .chk (33 < 64) <|
 .chk (34 < 64) <|
 .chk (35 < 64) <|
 .chk (36 < 64) <|
 .chk (37 < 64) <|
 .chk (38 < 64) <|
 .chk (39 < 64) <|
 .chk (40 < 64) <|
 .chk (41 < 64) <|
 .chk (42 < 64) <|
 .chk (43 < 64) <|
 .chk (44 < 64) <|
 .chk (45 < 64) <|
 .chk (46 < 64) <|
 .chk (47 < 64) <|
 .chk (48 < 64) <|
 .chk (49 < 64) <|
 .chk (50 < 64) <|
 .chk (51 < 64) <|
 .chk (52 < 64) <|
 .chk (53 < 64) <|
 .chk (54 < 64) <|
 .chk (55 < 64) <|
 .chk (56 < 64) <|
 .chk (57 < 64) <|
 .chk (58 < 64) <|
 .chk (59 < 64) <|
 .chk (60 < 64) <|
 .chk (61 < 64) <|
 .chk (62 < 64) <|
 .chk (63 < 64) <|
 .ret ()
def qxo:Option (Unit):=(qA4).run some
def qLE:List (Nat×qw):=[]
def qAV:Ent:=smF ⟨113,[],[],[],[]⟩ [] (Unit) (fun x=>qxo) cs1 fun _=>qLx
theorem qIB:zf Tryz.prog (qAV):=
 zd (H:=qLd) (L:=qJ (qLE)) (ts:=[]) (T:=fun x=>qA4) 0 qQi (qHR 0) (qt (by kernel_rfl) trivial) (rg0 (by kernel_rfl)) fun x=>by kernel_rfl
noncomputable def qQo:Code:=Tryz.f145.body.getD .skip
theorem qPW:FnF Tryz.prog 145 Tryz.f145 qQo:=⟨qk,by kernel_rfl,by kernel_rfl,by kernel_rfl⟩
def qmZ:TH:={ live:=[(0,[0,1]),(1,[0,5]),(2,[4])] }
def qnH (N:Nat):List Ent:=[]
theorem qll (N:Nat):qU Tryz.prog (qnH N):=trivial
def qm_ (z:Int):TV×THp:=(.tv (.i .u32) z,[])
def Ym (a0:Int) (a1:Int):Tree (Int):=
 .chk (0≤(KC .u64 (IntKind.u64.wrap a1) 31)) <|
 let w1:Int:=qBt .u32 a0 (min (KC .u64 (IntKind.u64.wrap a1) 31).toNat 32)
 let w2:Int:=qpY .u64 ((32:Int)) (KC .u64 (IntKind.u64.wrap a1) 31)
 .chk (0≤w2) <|
 .ret (uOr .u32 w1 (Jk a0 (min w2.toNat 32)))
def Ky (a0:Int) (a1:Int):Option (Int):=(Ym a0 a1).run some
def qnt:List (Nat×qw):=[]
def qdu:Ent:=smF ⟨145,[],[.x (.i .u32),.x (.i .i64)],[],[]⟩ [(.i .u32),(.i .i64)] (Int) (fun x=>Ky x.1 x.2.1) cs1 fun _=>qm_
theorem qmr:zf Tryz.prog (qdu):=
 zd (H:=qmZ) (L:=qJ (qnt)) (ts:=[(.i .u32),(.i .i64)]) (T:=fun x=>Ym x.1 x.2.1) 0 qPW (qll 0) (qt (by kernel_rfl) trivial) (rg0 (by kernel_rfl)) fun x=>by kernel_rfl
noncomputable def qQm:Code:=Tryz.f136.body.getD .skip
theorem qQY:FnF Tryz.prog 136 Tryz.f136 qQm:=⟨qk,by kernel_rfl,by kernel_rfl,by kernel_rfl⟩
def qKO:TH:={ live:=[(0,[0,1]),(1,[4])] }
def qLR (N:Nat):List Ent:=[qdu]
theorem qHd (N:Nat):qU Tryz.prog (qLR N):=⟨qmr,trivial⟩
def qKV (z:Int):TV×THp:=(.tv (.i .u32) z,[])
def qpH (a0:Int) (a1:Int):Tree (Int):=
 .chk (qp (0 - a1)) <|
 .bind (Ky a0 (0 - a1)) fun r1=>
 .ret r1
def jx (a0:Int) (a1:Int):Option (Int):=(qpH a0 a1).run some
def qLm:List (Nat×qw):=[]
def qqC:Ent:=smF ⟨136,[],[.x (.i .u32),.x (.i .i64)],[],[]⟩ [(.i .u32),(.i .i64)] (Int) (fun x=>jx x.1 x.2.1) cs1 fun _=>qKV
theorem qyh:zf Tryz.prog (qqC):=
 zd (H:=qKO) (L:=qJ (qLm)) (ts:=[(.i .u32),(.i .i64)]) (T:=fun x=>qpH x.1 x.2.1) 0 qQY (qHd 0) (qt (by kernel_rfl) trivial) (rg0 (by kernel_rfl)) fun x=>by kernel_rfl
noncomputable def qyC:Code:=Tryz.f135.body.getD .skip
theorem qO8:FnF Tryz.prog 135 Tryz.f135 qyC:=⟨qk,by kernel_rfl,by kernel_rfl,by kernel_rfl⟩
def qjP:TH:={ live:=[(0,[0,2]),(1,[0,2,3]),(2,[0,2,3,7]),(3,[0,2,3,7,8]),(4,[0,2,3,4,7]),(5,[0,2,3,4,7,11]),(6,[0,2,3,7]),(7,[0,2,3,4,5,6,7]),(8,[0,2,3,7]),(9,[0,2,3,7]),(10,[2])] }
def qrM (N:Nat):List Ent:=[qqC]
theorem qni (N:Nat):qU Tryz.prog (qrM N):=⟨qyh,trivial⟩
abbrev KV:=Vector UInt32 64×List UInt8
abbrev Vy:=Vector UInt32 64×Int×Bool
def WR (f:KV) (y:Vy):Ex×TSt:=(.exit 0,⟨0,86,[],[(0,.tv .bl f.2),(2,.p 20 [] 0),(3,.p 30 [] 0),(7,xi y.2.1),(8,xb y.2.2)],[(20,.cell false (.tv (.wa 64) f.1)),(30,.cell false (.tv (.wa 64) (y.1:Vector UInt32 64)))],false,[]⟩)
def qAw (N:Nat):List (Nat×qw):=[]
abbrev WE:=Vector UInt32 64×Int
def ql2:SP:=⟨0,86,[],[(0,.x .bl),(2,.k (.p 20 [] 0)),(3,.k (.p 30 [] 0)),(7,.x (.i .i64))],[(20,.cell false (.x (.wa 64))),(30,.cell false (.x (.wa 64)))],false,[]⟩
def qzH (f:KV) (v:WE):TSt:=zq ql2 [dv (.wa 64) f.1,dv (.wa 64) v.1,dv .bl f.2,dv (.i .i64) v.2]
def Zn (N:Nat) (o_3:Vector UInt32 64) (s0_3:List UInt8) (v:WE):Tree (WE⊕Vy):=
 .cond (decide (v.2 < ((64:Int)))) (
 .cond (decide (v.2 < ((16:Int)))) (
 .chk (qp (((4:Int)) * v.2)) <|
 .bind (qM s0_3 (((4:Int)) * v.2)) fun e1=>
 let w2:Int:=IntKind.u32.wrap ((e1.toNat:Nat):Int)
 .chk (0≤(24:Int)) <|
 .chk (qp (((4:Int)) * v.2)) <|
 .chk (qp ((((4:Int)) * v.2) + 1)) <|
 .bind (qM s0_3 ((((4:Int)) * v.2) + 1)) fun e3=>
 let w4:Int:=IntKind.u32.wrap ((e3.toNat:Nat):Int)
 .chk (0≤(16:Int)) <|
 let w5:Int:=uOr .u32 (qBt .u32 w2 24) (qBt .u32 w4 16)
 .chk (qp (((4:Int)) * v.2)) <|
 .chk (qp ((((4:Int)) * v.2) + 2)) <|
 .bind (qM s0_3 ((((4:Int)) * v.2) + 2)) fun e6=>
 let w7:Int:=IntKind.u32.wrap ((e6.toNat:Nat):Int)
 .chk (0≤(8:Int)) <|
 .chk (qp (((4:Int)) * v.2)) <|
 .chk (qp ((((4:Int)) * v.2) + 3)) <|
 .bind (qM s0_3 ((((4:Int)) * v.2) + 3)) fun e8=>
 let w9:Int:=IntKind.u32.wrap ((e8.toNat:Nat):Int)
 let w10:Int:=uOr .u32 (uOr .u32 w5 (qBt .u32 w7 8)) w9
 .chk (0≤v.2∧v.2 < ((64:Nat):Int)) <|
 .chk (inW w10) <|
 .chk (v.2.toNat < 64) <|
 .chk (qp (v.2 + 1)) <|
 .ret (.inl (v.1.setIfInBounds v.2.toNat (UInt32.ofNat w10.toNat),v.2 + 1))) <|
 .chk (qp (v.2 - 15)) <|
 .chk (0≤(v.2 - 15)∧(v.2 - 15) < ((64:Nat):Int)) <|
 .chk ((v.2 - 15).toNat < 64) <|
 .chk (qp (v.2 - 2)) <|
 .chk (0≤(v.2 - 2)∧(v.2 - 2) < ((64:Nat):Int)) <|
 .chk ((v.2 - 2).toNat < 64) <|
 .chk (qp (v.2 - 16)) <|
 .chk (0≤(v.2 - 16)∧(v.2 - 16) < ((64:Nat):Int)) <|
 .chk ((v.2 - 16).toNat < 64) <|
 .chk (qp (v.2 - 7)) <|
 .chk (0≤(v.2 - 7)∧(v.2 - 7) < ((64:Nat):Int)) <|
 .chk ((v.2 - 7).toNat < 64) <|
 let w1:Int:=vg .u32 (((v.1.toList.getD ((v.2 - 16).toNat) 0).toNat:Nat):Int) (((v.1.toList.getD ((v.2 - 7).toNat) 0).toNat:Nat):Int)
 .bind (jx (((v.1.toList.getD ((v.2 - 15).toNat) 0).toNat:Nat):Int) 7) fun r2=>
 .bind (jx (((v.1.toList.getD ((v.2 - 15).toNat) 0).toNat:Nat):Int) 18) fun r3=>
 .chk (0≤(3:Int)) <|
 let w4:Int:=Jk (((v.1.toList.getD ((v.2 - 15).toNat) 0).toNat:Nat):Int) 3
 let w5:Int:=vg .u32 w1 (V8 .u32 (V8 .u32 r2 r3) w4)
 .bind (jx (((v.1.toList.getD ((v.2 - 2).toNat) 0).toNat:Nat):Int) 17) fun r6=>
 .bind (jx (((v.1.toList.getD ((v.2 - 2).toNat) 0).toNat:Nat):Int) 19) fun r7=>
 .chk (0≤(10:Int)) <|
 let w8:Int:=Jk (((v.1.toList.getD ((v.2 - 2).toNat) 0).toNat:Nat):Int) 10
 let w9:Int:=vg .u32 w5 (V8 .u32 (V8 .u32 r6 r7) w8)
 .chk (0≤v.2∧v.2 < ((64:Nat):Int)) <|
 .chk (inW w9) <|
 .chk (v.2.toNat < 64) <|
 .chk (qp (v.2 + 1)) <|
 .ret (.inl (v.1.setIfInBounds v.2.toNat (UInt32.ofNat w9.toNat),v.2 + 1))) <|
 .ret (.inr (v.1,v.2,decide (v.2 < ((64:Int)))))
def qlV (N n:Nat) (f:KV) (v:WE):Option Vy:=qQ (Zn N f.1 f.2) some n v
theorem qAz (N:Nat) (f:KV) (n:Nat) (v:WE) (y:Vy) (h:qlV N n f v=some y):LG Tryz.prog qjP 135 (qE qyC 3) (qzH f v) (WR f y):=
 zj qk (E:=qrM N) (L:=qJ (qAw N)) (st:=WR f) (g:=some) (R:=WR f) (qni N) (qt (by kernel_rfl) trivial) (rg0 (by kernel_rfl)) (fun v=>by kernel_rfl) (qP (st:=WR f) fun y=>by rfl) n v y h
def qiT (N:Nat) (o_3:Vector UInt32 64) (s0_3:List UInt8) (o_3_2:Vector UInt32 64) (s7_3:Int):Option Vy:=qlV N N (o_3,s0_3) (o_3_2,s7_3)
def qlS (N:Nat):qw:=smL ql2 [(.wa 64),(.wa 64),.bl,(.i .i64)] Vy (fun x=>qiT N x.1 x.2.2.1 x.2.1 x.2.2.2.1) cs1 fun x=>WR (x.1,x.2.2.1)
theorem qxJ (N:Nat):zZ Tryz.prog qjP 135 (qE qyC 3) (qlS N):=zp fun x z h=>qAz N (x.1,x.2.2.1) N (x.2.1,x.2.2.2.1) z h
def qFz (z:Vector UInt32 64):TV×THp:=(.tv (.wa 64) z,[])
def qjM (N:Nat) (a0:List UInt8):Tree (Vector UInt32 64):=
 .bind (qiT N ((Vector.replicate 64 0)) a0 ((Vector.replicate 64 0)) 0) fun z1=>
 .ret z1.1
def qix (N:Nat) (a0:List UInt8):Option (Vector UInt32 64):=(qjM N a0).run some
def qFP (N:Nat):List (Nat×qw):=[(3,qlS N)]
def qsx (N:Nat):Ent:=smF ⟨135,[],[.x .bl],[],[]⟩ [.bl] (Vector UInt32 64) (fun x=>qix N x.1) cs1 fun _=>qFz
theorem qEV (N:Nat):zf Tryz.prog (qsx N):=
 zd (H:=qjP) (L:=qJ (qFP N)) (ts:=[.bl]) (T:=fun x=>qjM N x.1) 0 qO8 (qni N) (qt (by kernel_rfl) ⟨qxJ N,trivial⟩) (rg0 (by kernel_rfl)) fun x=>by kernel_rfl
noncomputable def qk1:Code:=Tryz.f114.body.getD .skip
theorem qQr:FnF Tryz.prog 114 Tryz.f114 qk1:=⟨qk,by kernel_rfl,by kernel_rfl,by kernel_rfl⟩
def Yn:TH:={ live:=[(0,[0,2,6]),(1,[0,2,6,7]),(2,[0,2,6,7,19]),(3,[0,2,6,7,19,20]),(4,[0,2,6,7,8,19]),(5,[0,2,6,7,8,9,10,19]),(6,[0,2,6,7,9,11,19]),(7,[0,2,6,7,11,12,19]),(8,[0,2,6,7,11,12,19]),(9,[0,2,6,7,11,19]),(10,[0,2,6,7,19]),(11,[0,2,6,7,19]),(12,[0,7,95]),(13,[0,7,95,96]),(14,[0,7,13,95]),(15,[0,7,95]),(16,[0,7,95])] }
def qgC (N:Nat):List Ent:=[qsx N,qqC]
theorem qdS (N:Nat):qU Tryz.prog (qgC N):=⟨qEV N,qyh,trivial⟩
abbrev Yv:=Vector UInt32 8×Vector UInt32 64×Vector UInt32 64
abbrev ZA:=Vector UInt32 8×Int×Bool
def VW (f:Yv) (y:ZA):Ex×TSt:=(.exit 0,⟨1,110,[50,60],[(0,.p 50 [] 0),(2,.p 60 [] 0),(6,.p 100060 [] 0),(7,.p 100070 [] 0),(19,xi y.2.1),(20,xb y.2.2)],[(50,.cell false (.tv (.wa 8) f.1)),(60,.cell false (.tv (.wa 64) f.2.1)),(100060,.cell false (.tv (.wa 64) f.2.2)),(100070,.cell false (.tv (.wa 8) (y.1:Vector UInt32 8)))],false,[]⟩)
def qvJ (N:Nat):List (Nat×qw):=[]
abbrev V0:=Vector UInt32 8×Int
def qjb:SP:=⟨1,110,[50,60],[(0,.k (.p 50 [] 0)),(2,.k (.p 60 [] 0)),(6,.k (.p 100060 [] 0)),(7,.k (.p 100070 [] 0)),(19,.x (.i .i64))],[(50,.cell false (.x (.wa 8))),(60,.cell false (.x (.wa 64))),(100060,.cell false (.x (.wa 64))),(100070,.cell false (.x (.wa 8)))],false,[]⟩
def qvu (f:Yv) (v:V0):TSt:=zq qjb [dv (.wa 8) f.1,dv (.wa 64) f.2.1,dv (.wa 64) f.2.2,dv (.wa 8) v.1,dv (.i .i64) v.2]
def VX (N:Nat) (o_3:Vector UInt32 8) (o_3_2:Vector UInt32 64) (o_3_3:Vector UInt32 64) (v:V0):Tree (V0⊕ZA):=
 .cond (decide (v.2 < ((64:Int)))) (
 .chk (0≤(0:Int)∧(0:Int) < ((8:Nat):Int)) <|
 .chk (0 < 8) <|
 .chk (0≤(4:Int)∧(4:Int) < ((8:Nat):Int)) <|
 .chk (4 < 8) <|
 .chk (0≤(7:Int)∧(7:Int) < ((8:Nat):Int)) <|
 .chk (7 < 8) <|
 .bind (jx (((v.1.toList.getD 4 0).toNat:Nat):Int) 6) fun r1=>
 .bind (jx (((v.1.toList.getD 4 0).toNat:Nat):Int) 11) fun r2=>
 .bind (jx (((v.1.toList.getD 4 0).toNat:Nat):Int) 25) fun r3=>
 let w4:Int:=vg .u32 (((v.1.toList.getD 7 0).toNat:Nat):Int) (V8 .u32 (V8 .u32 r1 r2) r3)
 .chk (0≤(5:Int)∧(5:Int) < ((8:Nat):Int)) <|
 .chk (5 < 8) <|
 let w5:Int:=KC .u32 (((v.1.toList.getD 4 0).toNat:Nat):Int) (((v.1.toList.getD 5 0).toNat:Nat):Int)
 let w6:Int:=V8 .u32 (4294967295) (((v.1.toList.getD 4 0).toNat:Nat):Int)
 .chk (0≤(6:Int)∧(6:Int) < ((8:Nat):Int)) <|
 .chk (6 < 8) <|
 let w7:Int:=KC .u32 w6 (((v.1.toList.getD 6 0).toNat:Nat):Int)
 .chk (0≤v.2∧v.2 < ((64:Nat):Int)) <|
 .chk (v.2.toNat < 64) <|
 let w8:Int:=vg .u32 (vg .u32 w4 (V8 .u32 w5 w7)) (((o_3_2.toList.getD v.2.toNat 0).toNat:Nat):Int)
 .chk (0≤v.2∧v.2 < ((64:Nat):Int)) <|
 .chk (v.2.toNat < 64) <|
 let w9:Int:=vg .u32 w8 (((o_3_3.toList.getD v.2.toNat 0).toNat:Nat):Int)
 .bind (jx (((v.1.toList.getD 0 0).toNat:Nat):Int) 2) fun r10=>
 .bind (jx (((v.1.toList.getD 0 0).toNat:Nat):Int) 13) fun r11=>
 .bind (jx (((v.1.toList.getD 0 0).toNat:Nat):Int) 22) fun r12=>
 .chk (0≤(1:Int)∧(1:Int) < ((8:Nat):Int)) <|
 .chk (1 < 8) <|
 let w13:Int:=KC .u32 (((v.1.toList.getD 0 0).toNat:Nat):Int) (((v.1.toList.getD 1 0).toNat:Nat):Int)
 .chk (0≤(2:Int)∧(2:Int) < ((8:Nat):Int)) <|
 .chk (2 < 8) <|
 let w14:Int:=KC .u32 (((v.1.toList.getD 0 0).toNat:Nat):Int) (((v.1.toList.getD 2 0).toNat:Nat):Int)
 .chk (0≤(1:Int)∧(1:Int) < ((8:Nat):Int)) <|
 .chk (1 < 8) <|
 .chk (0≤(2:Int)∧(2:Int) < ((8:Nat):Int)) <|
 .chk (2 < 8) <|
 let w15:Int:=KC .u32 (((v.1.toList.getD 1 0).toNat:Nat):Int) (((v.1.toList.getD 2 0).toNat:Nat):Int)
 let w16:Int:=vg .u32 (V8 .u32 (V8 .u32 r10 r11) r12) (V8 .u32 (V8 .u32 w13 w14) w15)
 .chk (0≤(0:Int)∧(0:Int) < ((8:Nat):Int)) <|
 .chk (inW (vg .u32 w9 w16)) <|
 .chk (0 < 8) <|
 .chk (0≤(4:Int)∧(4:Int) < ((8:Nat):Int)) <|
 .chk (4 < 8) <|
 let w17:Int:=vg .u32 (((((qbH v.1 1 7).setIfInBounds 0 (UInt32.ofNat (vg .u32 w9 w16).toNat)).toList.getD 4 0).toNat:Nat):Int) w9
 .chk (0≤(4:Int)∧(4:Int) < ((8:Nat):Int)) <|
 .chk (inW w17) <|
 .chk (4 < 8) <|
 .chk (qp (v.2 + 1)) <|
 .ret (.inl (((qbH v.1 1 7).setIfInBounds 0 (UInt32.ofNat (vg .u32 w9 w16).toNat)).setIfInBounds 4 (UInt32.ofNat w17.toNat),v.2 + 1))) <|
 .ret (.inr (v.1,v.2,decide (v.2 < ((64:Int)))))
def qi2 (N n:Nat) (f:Yv) (v:V0):Option ZA:=qQ (VX N f.1 f.2.1 f.2.2) some n v
theorem qv1 (N:Nat) (f:Yv) (n:Nat) (v:V0) (y:ZA) (h:qi2 N n f v=some y):LG Tryz.prog Yn 114 (qE qk1 3) (qvu f v) (VW f y):=
 zj qk (E:=qgC N) (L:=qJ (qvJ N)) (st:=VW f) (g:=some) (R:=VW f) (qdS N) (qt (by kernel_rfl) trivial) (rg0 (by kernel_rfl)) (fun v=>by kernel_rfl) (qP (st:=VW f) fun y=>by rfl) n v y h
def qe2 (N:Nat) (o_3:Vector UInt32 8) (o_3_2:Vector UInt32 64) (o_3_3:Vector UInt32 64) (o_3_4:Vector UInt32 8) (s19_3:Int):Option ZA:=qi2 N N (o_3,o_3_2,o_3_3) (o_3_4,s19_3)
def qi4 (N:Nat):qw:=smL qjb [(.wa 8),(.wa 64),(.wa 64),(.wa 8),(.i .i64)] ZA (fun x=>qe2 N x.1 x.2.1 x.2.2.1 x.2.2.2.1 x.2.2.2.2.1) cs1 fun x=>VW (x.1,x.2.1,x.2.2.1)
theorem qt8 (N:Nat):zZ Tryz.prog Yn 114 (qE qk1 3) (qi4 N):=zp fun x z h=>qv1 N (x.1,x.2.1,x.2.2.1) N (x.2.2.2.1,x.2.2.2.2.1) z h
abbrev W2:=Vector UInt32 64×Vector UInt32 8
abbrev Q8:=Vector UInt32 8×Int×Bool
def J8 (f:W2) (y:Q8):Ex×TSt:=(.exit 2,⟨1,110,[50,60],[(0,.p 50 [] 0),(7,.p 100070 [] 0),(95,xi y.2.1),(96,xb y.2.2)],[(50,.cell false (.tv (.wa 8) (y.1:Vector UInt32 8))),(60,.cell false (.tv (.wa 64) f.1)),(100070,.cell false (.tv (.wa 8) f.2))],false,[]⟩)
def qsV (N:Nat):List (Nat×qw):=[]
abbrev Va:=Vector UInt32 8×Int
def qh2:SP:=⟨1,110,[50,60],[(0,.k (.p 50 [] 0)),(7,.k (.p 100070 [] 0)),(95,.x (.i .i64))],[(50,.cell false (.x (.wa 8))),(60,.cell false (.x (.wa 64))),(100070,.cell false (.x (.wa 8)))],false,[]⟩
def qtS (f:W2) (v:Va):TSt:=zq qh2 [dv (.wa 8) v.1,dv (.wa 64) f.1,dv (.wa 8) f.2,dv (.i .i64) v.2]
def WZ (N:Nat) (o_13_2:Vector UInt32 64) (o_13_3:Vector UInt32 8) (v:Va):Tree (Va⊕Q8):=
 .cond (decide (v.2 < ((8:Int)))) (
 .chk (0≤v.2∧v.2 < ((8:Nat):Int)) <|
 .chk (v.2.toNat < 8) <|
 .chk (0≤v.2∧v.2 < ((8:Nat):Int)) <|
 .chk (v.2.toNat < 8) <|
 let w1:Int:=vg .u32 (((v.1.toList.getD v.2.toNat 0).toNat:Nat):Int) (((o_13_3.toList.getD v.2.toNat 0).toNat:Nat):Int)
 .chk (0≤v.2∧v.2 < ((8:Nat):Int)) <|
 .chk (inW w1) <|
 .chk (v.2.toNat < 8) <|
 .chk (qp (v.2 + 1)) <|
 .ret (.inl (v.1.setIfInBounds v.2.toNat (UInt32.ofNat w1.toNat),v.2 + 1))) <|
 .ret (.inr (v.1,v.2,decide (v.2 < ((8:Int)))))
def qiA (N n:Nat) (f:W2) (v:Va):Option Q8:=qQ (WZ N f.1 f.2) some n v
theorem qt6 (N:Nat) (f:W2) (n:Nat) (v:Va) (y:Q8) (h:qiA N n f v=some y):LG Tryz.prog Yn 114 (qE qk1 13) (qtS f v) (J8 f y):=
 zj qk (E:=qgC N) (L:=qJ (qsV N)) (st:=J8 f) (g:=some) (R:=J8 f) (qdS N) (qt (by kernel_rfl) trivial) (rg0 (by kernel_rfl)) (fun v=>by kernel_rfl) (qP (st:=J8 f) fun y=>by rfl) n v y h
def qdv (N:Nat) (o_13_2:Vector UInt32 64) (o_13_3:Vector UInt32 8) (o_13:Vector UInt32 8) (s95_13:Int):Option Q8:=qiA N N (o_13_2,o_13_3) (o_13,s95_13)
def qhP (N:Nat):qw:=smL qh2 [(.wa 8),(.wa 64),(.wa 8),(.i .i64)] Q8 (fun x=>qdv N x.2.1 x.2.2.1 x.1 x.2.2.2.1) cs1 fun x=>J8 (x.2.1,x.2.2.1)
theorem qro (N:Nat):zZ Tryz.prog Yn 114 (qE qk1 13) (qhP N):=zp fun x z h=>qt6 N (x.2.1,x.2.2.1) N (x.1,x.2.2.2.1) z h
def qB2 (a1:Vector UInt32 64) (z:Vector UInt32 8):TV×THp:=(.tup [],[(50,.cell false (.tv (.wa 8) z)),(60,.cell false (.tv (.wa 64) a1))])
def qgB (N:Nat) (a0:Vector UInt32 8) (a1:Vector UInt32 64) (a2:List UInt8):Tree (Vector UInt32 8):=
 .bind (qix N a2) fun r1=>
 .bind (qe2 N a0 a1 r1 a0 0) fun z2=>
 .bind (qdv N a1 z2.1 a0 0) fun z3=>
 .ret z3.1
def qae (N:Nat) (a0:Vector UInt32 8) (a1:Vector UInt32 64) (a2:List UInt8):Option (Vector UInt32 8):=(qgB N a0 a1 a2).run some
def qBO (N:Nat):List (Nat×qw):=[(3,qi4 N),(13,qhP N)]
def qnE (N:Nat):Ent:=smF ⟨114,[],[.k (.p 50 [] 0),.x .bl,.k (.p 60 [] 0)],[],[(50,.cell false (.x (.wa 8))),(60,.cell false (.x (.wa 64)))]⟩ [(.wa 8),(.wa 64),.bl] (Vector UInt32 8) (fun x=>qae N x.1 x.2.1 x.2.2.1) cs1 fun x=>qB2 x.2.1
theorem qAl (N:Nat):zf Tryz.prog (qnE N):=
 zd (H:=Yn) (L:=qJ (qBO N)) (ts:=[(.wa 8),(.wa 64),.bl]) (T:=fun x=>qgB N x.1 x.2.1 x.2.2.1) 0 qQr (qdS N) (qt (by kernel_rfl) ⟨qt8 N,qro N,trivial⟩) (rg0 (by kernel_rfl)) fun x=>by kernel_rfl
noncomputable def Ku:Code:=Tryz.f85.body.getD .skip
theorem qTe:FnF Tryz.prog 85 Tryz.f85 Ku:=⟨qk,by kernel_rfl,by kernel_rfl,by kernel_rfl⟩
def W4:TH:={ live:=[(0,[0,2]),(1,[0,2,3]),(2,[0,2,3,16]),(3,[0,2,3]),(4,[0,2,3,20]),(5,[0,2,3,20,21]),(6,[0,2,3,4,20]),(7,[0,2,3,20]),(8,[0,2,3,20]),(9,[2,3,5,6]),(10,[2,3,5,6,40]),(11,[2,3,5,6]),(12,[2,3,5,6]),(13,[2,5,7]),(14,[2,5,7,46]),(15,[2,5,7,46,47]),(16,[2,5,7,8,46]),(17,[2,5,7,46]),(18,[2,5,7,46]),(19,[2])],fresh:=[10] }
def qhv (N:Nat):List Ent:=[qr9,qAR,qAV,qnE N]
theorem qb6 (N:Nat):qU Tryz.prog (qhv N):=⟨qD_,qJ6,qIB,qAl N,trivial⟩
abbrev qhX:=Vector UInt8 32×List UInt8
abbrev qad:=List UInt8×Bool
def qdG (f:qhX) (y:qad):Ex×TSt:=(.exit 0,⟨0,63,[],[(0,.tv .bl f.2),(2,.p 20 [] 0),(3,.v 100050 y.1.length),(16,xb y.2)],[(20,.cell false (.tv (.ba 32) f.1)),(100050,.vec false 1 .bl (y.1:List UInt8))],false,[]⟩)
def qJE (N:Nat):List (Nat×qw):=[]
abbrev qdo:=List UInt8
def qyl:SP:=⟨0,63,[],[(0,.x .bl),(2,.k (.p 20 [] 0)),(3,.vs 100050)],[(20,.cell false (.x (.ba 32))),(100050,.vec false 1)],false,[]⟩
def qJl (f:qhX) (v:qdo):TSt:=zq qyl [dv .bl v,dv (.ba 32) f.1,dv .bl f.2]
def qdb (N:Nat) (o_2_2:Vector UInt8 32) (s0_2:List UInt8) (v:qdo):Tree (qdo⊕qad):=
 .chk ((64:Int)≠0) <|
 .cond (!decide ((((v.length:Nat):Int).tmod 64)=56)) (
 .chk (zU v.length v.length ((v++[(UInt8.ofNat 0)]).length) 1) <|
 .ret (.inl (v++[(UInt8.ofNat 0)]))) <|
 .ret (.inr (v,!decide ((((v.length:Nat):Int).tmod 64)=56)))
def qw3 (N n:Nat) (f:qhX) (v:qdo):Option qad:=qQ (qdb N f.1 f.2) some n v
theorem qJV (N:Nat) (f:qhX) (n:Nat) (v:qdo) (y:qad) (h:qw3 N n f v=some y):LG Tryz.prog W4 85 (qE Ku 2) (qJl f v) (qdG f y):=
 zj qk (E:=qhv N) (L:=qJ (qJE N)) (st:=qdG f) (g:=some) (R:=qdG f) (qb6 N) (qt (by kernel_rfl) trivial) (rg0 (by kernel_rfl)) (fun v=>by kernel_rfl) (qP (st:=qdG f) fun y=>by rfl) n v y h
def ql9 (N:Nat) (o_2_2:Vector UInt8 32) (s0_2:List UInt8) (o_2:List UInt8):Option qad:=qw3 N N (o_2_2,s0_2) o_2
def qxI (N:Nat):qw:=smL qyl [.bl,(.ba 32),.bl] qad (fun x=>ql9 N x.2.1 x.2.2.1 x.1) cs1 fun x=>qdG (x.2.1,x.2.2.1)
theorem qHo (N:Nat):zZ Tryz.prog W4 85 (qE Ku 2) (qxI N):=zp fun x z h=>qJV N (x.2.1,x.2.2.1) N x.1 z h
abbrev qhN:=Vector UInt8 32×List UInt8
abbrev qab:=List UInt8×Int×Bool
def qdz (f:qhN) (y:qab):Ex×TSt:=(.exit 2,⟨0,63,[],[(0,.tv .bl f.2),(2,.p 20 [] 0),(3,.v 100050 y.1.length),(20,xi y.2.1),(21,xb y.2.2)],[(20,.cell false (.tv (.ba 32) f.1)),(100050,.vec false 1 .bl (y.1:List UInt8))],false,[]⟩)
def qIk (N:Nat):List (Nat×qw):=[]
abbrev qdj:=List UInt8×Int
def qwK:SP:=⟨0,63,[],[(0,.x .bl),(2,.k (.p 20 [] 0)),(3,.vs 100050),(20,.x (.i .i64))],[(20,.cell false (.x (.ba 32))),(100050,.vec false 1)],false,[]⟩
def qJp (f:qhN) (v:qdj):TSt:=zq qwK [dv .bl v.1,dv (.ba 32) f.1,dv .bl f.2,dv (.i .i64) v.2]
def qiv (N:Nat) (o_5_2:Vector UInt8 32) (s0_5:List UInt8) (v:qdj):Tree (qdj⊕qab):=
 .cond (decide (v.2 < ((8:Int)))) (
 let w1:Int:=IntKind.u64.wrap ((s0_5.length:Nat):Int)
 .chk (qp (((7:Int)) - v.2)) <|
 .chk (qp (((8:Int)) * (((7:Int)) - v.2))) <|
 .chk (0≤(((8:Int)) * (((7:Int)) - v.2))) <|
 let w2:Int:=Jk (qnB .u64 w1 8) (min (((8:Int)) * (((7:Int)) - v.2)).toNat 64)
 .chk (inB (IntKind.u8.wrap w2)) <|
 .chk (zU v.1.length v.1.length ((v.1++[UInt8.ofNat (IntKind.u8.wrap w2).toNat]).length) 1) <|
 .chk (qp (v.2 + 1)) <|
 .ret (.inl (v.1++[UInt8.ofNat (IntKind.u8.wrap w2).toNat],v.2 + 1))) <|
 .ret (.inr (v.1,v.2,decide (v.2 < ((8:Int)))))
def qxO (N n:Nat) (f:qhN) (v:qdj):Option qab:=qQ (qiv N f.1 f.2) some n v
theorem qKI (N:Nat) (f:qhN) (n:Nat) (v:qdj) (y:qab) (h:qxO N n f v=some y):LG Tryz.prog W4 85 (qE Ku 5) (qJp f v) (qdz f y):=
 zj qk (E:=qhv N) (L:=qJ (qIk N)) (st:=qdz f) (g:=some) (R:=qdz f) (qb6 N) (qt (by kernel_rfl) trivial) (rg0 (by kernel_rfl)) (fun v=>by kernel_rfl) (qP (st:=qdz f) fun y=>by rfl) n v y h
def qt7 (N:Nat) (o_5_2:Vector UInt8 32) (s0_5:List UInt8) (o_5:List UInt8) (s20_5:Int):Option qab:=qxO N N (o_5_2,s0_5) (o_5,s20_5)
def qxY (N:Nat):qw:=smL qwK [.bl,(.ba 32),.bl,(.i .i64)] qab (fun x=>qt7 N x.2.1 x.2.2.1 x.1 x.2.2.2.1) cs1 fun x=>qdz (x.2.1,x.2.2.1)
theorem qHS (N:Nat):zZ Tryz.prog W4 85 (qE Ku 5) (qxY N):=zp fun x z h=>qKI N (x.2.1,x.2.2.1) N (x.1,x.2.2.2.1) z h
abbrev Jg:=List UInt8×Vector UInt8 32×Vector UInt32 8×Vector UInt32 64
abbrev Q3:=Unit⊕(Vector UInt32 8×List UInt8×Bool)
def Je (f:Jg):Q3→Ex×TSt
 | .inl y=>(.exit 4,⟨0,63,[],[(2,.p 20 [] 0),(3,.v 100050 f.1.length),(5,.p 50 [] 0),(6,.p 60 [] 0),(40,xb (decide (((0:Int)) < ((f.1.length:Nat):Int))))],[(20,.cell false (.tv (.ba 32) f.2.1)),(50,.cell false (.tv (.wa 8) f.2.2.1)),(60,.cell false (.tv (.wa 64) f.2.2.2)),(100050,.vec false 1 .bl f.1)],false,[]⟩)
 | .inr y=>(.exit 4,⟨0,63,[],[(2,.p 20 [] 0),(3,.tv .bl (y.2.1:List UInt8)),(5,.p 50 [] 0),(6,.p 60 [] 0),(40,xb y.2.2)],[(20,.cell false (.tv (.ba 32) f.2.1)),(50,.cell false (.tv (.wa 8) (y.1:Vector UInt32 8))),(60,.cell false (.tv (.wa 64) f.2.2.2))],false,[]⟩)
def qvp (N:Nat):List (Nat×qw):=[]
abbrev Xb:=Vector UInt32 8×List UInt8
def qCi:SP:=⟨0,63,[],[(2,.k (.p 20 [] 0)),(3,.x .bl),(5,.k (.p 50 [] 0)),(6,.k (.p 60 [] 0))],[(20,.cell false (.x (.ba 32))),(50,.cell false (.x (.wa 8))),(60,.cell false (.x (.wa 64)))],false,[]⟩
def qmU (f:Jg) (v:Xb):TSt:=zq qCi [dv (.ba 32) f.2.1,dv (.wa 8) v.1,dv (.wa 64) f.2.2.2,dv .bl v.2]
def qbw (N:Nat) (o_10:List UInt8) (o_10_2:Vector UInt8 32) (o_10_3:Vector UInt32 8) (o_10_4:Vector UInt32 64) (v:Xb):Tree (Xb⊕Q3):=
 .cond (decide (((0:Int)) < ((v.2.length:Nat):Int))) (
 .chk (0≤(0:Int)∧(0:Int)≤(64:Int)∧(64:Int)≤((v.2.length:Nat):Int)) <|
 .bind (qae N v.1 o_10_4 ((v.2.take 64).drop 0)) fun r1=>
 .chk (0≤(64:Int)∧(64:Int)≤((v.2.length:Nat):Int)) <|
 .ret (.inl (r1,v.2.drop 64))) <|
 .ret (.inr (.inr ((v.1,v.2,decide (((0:Int)) < ((v.2.length:Nat):Int))))))
def qmO (N n:Nat) (f:Jg) (v:Xb):Option Q3:=qQ (qbw N f.1 f.2.1 f.2.2.1 f.2.2.2) some n v
theorem qCn (N:Nat) (f:Jg) (n:Nat) (v:Xb) (y:Q3) (h:qmO N n f v=some y):LG Tryz.prog W4 85 (qE Ku 10) (qmU f v) (Je f y):=
 zj qk (E:=qhv N) (L:=qJ (qvp N)) (st:=Je f) (g:=some) (R:=Je f) (qb6 N) (qt (by kernel_rfl) trivial) (rg0 (by kernel_rfl)) (fun v=>by kernel_rfl) (qP (st:=Je f) fun y=>by rcases y with _ | _<;>rfl) n v y h
abbrev qbF:=Unit
def qvd:SP:=⟨0,63,[],[(2,.k (.p 20 [] 0)),(3,.vs 100050),(5,.k (.p 50 [] 0)),(6,.k (.p 60 [] 0))],[(20,.cell false (.x (.ba 32))),(50,.cell false (.x (.wa 8))),(60,.cell false (.x (.wa 64))),(100050,.vec false 1)],false,[]⟩
def qHF (f:Jg) (v:qbF):TSt:=zq qvd [dv .bl f.1,dv (.ba 32) f.2.1,dv (.wa 8) f.2.2.1,dv (.wa 64) f.2.2.2]
abbrev qlz:=Xb⊕Q3
def qgh (N:Nat) (o_10:List UInt8) (o_10_2:Vector UInt8 32) (o_10_3:Vector UInt32 8) (o_10_4:Vector UInt32 64) (v:qbF):Tree (qbF⊕qlz):=
 .cond (decide (((0:Int)) < ((o_10.length:Nat):Int))) (
 .chk (0≤(0:Int)∧(0:Int)≤(64:Int)∧(64:Int)≤((o_10.length:Nat):Int)) <|
 .chk (o_10.length=o_10.length) <|
 .bind (qae N o_10_3 o_10_4 ((o_10.take 64).drop 0)) fun r1=>
 .chk (0≤(64:Int)∧(64:Int)≤((o_10.length:Nat):Int)) <|
 .chk (o_10.length=o_10.length) <|
 .ret (.inr (.inl (r1,o_10.drop 64)))) <|
 .ret (.inr (.inr ((.inl ()))))
def qly (N n:Nat) (f:Jg):qlz→Option Q3
 | .inl w=>qmO N n f w
 | .inr w=>some w
def qHX (f:Jg):qlz→Ex×TSt
 | .inl w=>(.normal,qmU f w)
 | .inr w=>Je f w
def qvj (N n:Nat) (f:Jg) (v:qbF):Option Q3:=qQ (qgh N f.1 f.2.1 f.2.2.1 f.2.2.2) (qly N n f) n v
theorem qHI (N:Nat) (f:Jg) (n:Nat) (v:qbF) (y:Q3) (h:qvj N n f v=some y):LG Tryz.prog W4 85 (qE Ku 10) (qHF f v) (Je f y):=
 zj qk (E:=qhv N) (L:=qJ (qvp N)) (st:=qHX f) (g:=(qly N n f)) (R:=Je f) (qb6 N) (qt (by kernel_rfl) trivial) (rg0 (by kernel_rfl)) (fun v=>by kernel_rfl) (fun w y h=>by
 rcases w with w | w
 ·exact qCn N f n w y h
 ·exact qP (st:=Je f) (fun y=>by rcases y with _ | _<;>rfl) w y h
) n v y h
def qga (N:Nat) (o_10:List UInt8) (o_10_2:Vector UInt8 32) (o_10_3:Vector UInt32 8) (o_10_4:Vector UInt32 64):Option Q3:=qvj N N (o_10,o_10_2,o_10_3,o_10_4) ()
def qvb (N:Nat):qw:=smL qvd [.bl,(.ba 32),(.wa 8),(.wa 64)] Q3 (fun x=>qga N x.1 x.2.1 x.2.2.1 x.2.2.2.1) (csS cs1) fun x=>Je (x.1,x.2.1,x.2.2.1,x.2.2.2.1)
theorem qFK (N:Nat):zZ Tryz.prog W4 85 (qE Ku 10) (qvb N):=zp fun x z h=>qHI N (x.1,x.2.1,x.2.2.1,x.2.2.2.1) N () z h
abbrev qgs:=Vector UInt8 32×Vector UInt32 8
abbrev YL:=Vector UInt8 32×Int×Bool
def qbW (f:qgs) (y:YL):Ex×TSt:=(.exit 6,⟨0,63,[],[(2,.p 20 [] 0),(5,.p 50 [] 0),(7,.p 70 [] 0),(46,xi y.2.1),(47,xb y.2.2)],[(20,.cell false (.tv (.ba 32) f.1)),(50,.cell false (.tv (.wa 8) f.2)),(70,.cell false (.tv (.ba 32) (y.1:Vector UInt8 32)))],false,[]⟩)
def qHa (N:Nat):List (Nat×qw):=[]
abbrev qbL:=Vector UInt8 32×Int
def qvh:SP:=⟨0,63,[],[(2,.k (.p 20 [] 0)),(5,.k (.p 50 [] 0)),(7,.k (.p 70 [] 0)),(46,.x (.i .i64))],[(20,.cell false (.x (.ba 32))),(50,.cell false (.x (.wa 8))),(70,.cell false (.x (.ba 32)))],false,[]⟩
def qHc (f:qgs) (v:qbL):TSt:=zq qvh [dv (.ba 32) f.1,dv (.wa 8) f.2,dv (.ba 32) v.1,dv (.i .i64) v.2]
def qgn (N:Nat) (o_15:Vector UInt8 32) (o_15_2:Vector UInt32 8) (v:qbL):Tree (qbL⊕YL):=
 .cond (decide (v.2 < ((32:Int)))) (
 .chk ((4:Int)≠0) <|
 .chk (qp (v.2.tdiv 4)) <|
 .chk (0≤(v.2.tdiv 4)∧(v.2.tdiv 4) < ((8:Nat):Int)) <|
 .chk ((v.2.tdiv 4).toNat < 8) <|
 .chk ((4:Int)≠0) <|
 .chk (qp (((8:Int)) * (v.2.tmod 4))) <|
 .chk (qp (((24:Int)) - (((8:Int)) * (v.2.tmod 4)))) <|
 .chk (0≤(((24:Int)) - (((8:Int)) * (v.2.tmod 4)))) <|
 let w1:Int:=Jk (((o_15_2.toList.getD ((v.2.tdiv 4).toNat) 0).toNat:Nat):Int) (min (((24:Int)) - (((8:Int)) * (v.2.tmod 4))).toNat 32)
 .chk (0≤v.2∧v.2 < ((32:Nat):Int)) <|
 .chk (inB (IntKind.u8.wrap w1)) <|
 .chk (v.2.toNat < 32) <|
 .chk (qp (v.2 + 1)) <|
 .ret (.inl (v.1.setIfInBounds v.2.toNat (UInt8.ofNat (IntKind.u8.wrap w1).toNat),v.2 + 1))) <|
 .ret (.inr (v.1,v.2,decide (v.2 < ((32:Int)))))
def qu9 (N n:Nat) (f:qgs) (v:qbL):Option YL:=qQ (qgn N f.1 f.2) some n v
theorem qHL (N:Nat) (f:qgs) (n:Nat) (v:qbL) (y:YL) (h:qu9 N n f v=some y):LG Tryz.prog W4 85 (qE Ku 15) (qHc f v) (qbW f y):=
 zj qk (E:=qhv N) (L:=qJ (qHa N)) (st:=qbW f) (g:=some) (R:=qbW f) (qb6 N) (qt (by kernel_rfl) trivial) (rg0 (by kernel_rfl)) (fun v=>by kernel_rfl) (qP (st:=qbW f) fun y=>by rfl) n v y h
def qkb (N:Nat) (o_15:Vector UInt8 32) (o_15_2:Vector UInt32 8) (o_15_3:Vector UInt8 32) (s46_15:Int):Option YL:=qu9 N N (o_15,o_15_2) (o_15_3,s46_15)
def qu5 (N:Nat):qw:=smL qvh [(.ba 32),(.wa 8),(.ba 32),(.i .i64)] YL (fun x=>qkb N x.1 x.2.1 x.2.2.1 x.2.2.2.1) cs1 fun x=>qbW (x.1,x.2.1)
theorem qFU (N:Nat):zZ Tryz.prog W4 85 (qE Ku 15) (qu5 N):=zp fun x z h=>qHL N (x.1,x.2.1) N (x.2.2.1,x.2.2.2.1) z h
def qyP (z:Vector UInt8 32):TV×THp:=(.tv (.ba 32) z,[])
def qxf (N:Nat) (a0:List UInt8):Tree (Vector UInt8 32):=
 .bind (K9 a0) fun r1=>
 .chk (zU (((([]:List UInt8))++a0).length) (((([]:List UInt8))++a0).length) ((((([]:List UInt8))++a0)++[(UInt8.ofNat 128)]).length) 1) <|
 .bind (zV [((((([]:List UInt8))++a0)++[(UInt8.ofNat 128)]).length,(((([]:List UInt8))++a0)++[(UInt8.ofNat 128)]).length)] (ql9 N ((Vector.replicate 32 0)) a0 (((([]:List UInt8))++a0)++[(UInt8.ofNat 128)]))) fun z2=>
 .bind (zV [(z2.1.length,z2.1.length)] (qt7 N ((Vector.replicate 32 0)) a0 z2.1 0)) fun z3=>
 .bind (qw5) fun r4=>
 .bind (qxo) fun r5=>
 .bind (zV [(z3.1.length,z3.1.length)] (qga N z3.1 ((Vector.replicate 32 0)) ((((((((((Vector.replicate 8 0)).setIfInBounds 0 ((UInt32.ofNat 1779033703))).setIfInBounds 1 ((UInt32.ofNat 3144134277))).setIfInBounds 2 ((UInt32.ofNat 1013904242))).setIfInBounds 3 ((UInt32.ofNat 2773480762))).setIfInBounds 4 ((UInt32.ofNat 1359893119))).setIfInBounds 5 ((UInt32.ofNat 2600822924))).setIfInBounds 6 ((UInt32.ofNat 528734635))).setIfInBounds 7 ((UInt32.ofNat 1541459225))) ((((((((((((((((((((((((((((((((((((((((((((((((((((((((((((((((((Vector.replicate 64 0)).setIfInBounds 0 ((UInt32.ofNat 1116352408))).setIfInBounds 1 ((UInt32.ofNat 1899447441))).setIfInBounds 2 ((UInt32.ofNat 3049323471))).setIfInBounds 3 ((UInt32.ofNat 3921009573))).setIfInBounds 4 ((UInt32.ofNat 961987163))).setIfInBounds 5 ((UInt32.ofNat 1508970993))).setIfInBounds 6 ((UInt32.ofNat 2453635748))).setIfInBounds 7 ((UInt32.ofNat 2870763221))).setIfInBounds 8 ((UInt32.ofNat 3624381080))).setIfInBounds 9 ((UInt32.ofNat 310598401))).setIfInBounds 10 ((UInt32.ofNat 607225278))).setIfInBounds 11 ((UInt32.ofNat 1426881987))).setIfInBounds 12 ((UInt32.ofNat 1925078388))).setIfInBounds 13 ((UInt32.ofNat 2162078206))).setIfInBounds 14 ((UInt32.ofNat 2614888103))).setIfInBounds 15 ((UInt32.ofNat 3248222580))).setIfInBounds 16 ((UInt32.ofNat 3835390401))).setIfInBounds 17 ((UInt32.ofNat 4022224774))).setIfInBounds 18 ((UInt32.ofNat 264347078))).setIfInBounds 19 ((UInt32.ofNat 604807628))).setIfInBounds 20 ((UInt32.ofNat 770255983))).setIfInBounds 21 ((UInt32.ofNat 1249150122))).setIfInBounds 22 ((UInt32.ofNat 1555081692))).setIfInBounds 23 ((UInt32.ofNat 1996064986))).setIfInBounds 24 ((UInt32.ofNat 2554220882))).setIfInBounds 25 ((UInt32.ofNat 2821834349))).setIfInBounds 26 ((UInt32.ofNat 2952996808))).setIfInBounds 27 ((UInt32.ofNat 3210313671))).setIfInBounds 28 ((UInt32.ofNat 3336571891))).setIfInBounds 29 ((UInt32.ofNat 3584528711))).setIfInBounds 30 ((UInt32.ofNat 113926993))).setIfInBounds 31 ((UInt32.ofNat 338241895))).setIfInBounds 32 ((UInt32.ofNat 666307205))).setIfInBounds 33 ((UInt32.ofNat 773529912))).setIfInBounds 34 ((UInt32.ofNat 1294757372))).setIfInBounds 35 ((UInt32.ofNat 1396182291))).setIfInBounds 36 ((UInt32.ofNat 1695183700))).setIfInBounds 37 ((UInt32.ofNat 1986661051))).setIfInBounds 38 ((UInt32.ofNat 2177026350))).setIfInBounds 39 ((UInt32.ofNat 2456956037))).setIfInBounds 40 ((UInt32.ofNat 2730485921))).setIfInBounds 41 ((UInt32.ofNat 2820302411))).setIfInBounds 42 ((UInt32.ofNat 3259730800))).setIfInBounds 43 ((UInt32.ofNat 3345764771))).setIfInBounds 44 ((UInt32.ofNat 3516065817))).setIfInBounds 45 ((UInt32.ofNat 3600352804))).setIfInBounds 46 ((UInt32.ofNat 4094571909))).setIfInBounds 47 ((UInt32.ofNat 275423344))).setIfInBounds 48 ((UInt32.ofNat 430227734))).setIfInBounds 49 ((UInt32.ofNat 506948616))).setIfInBounds 50 ((UInt32.ofNat 659060556))).setIfInBounds 51 ((UInt32.ofNat 883997877))).setIfInBounds 52 ((UInt32.ofNat 958139571))).setIfInBounds 53 ((UInt32.ofNat 1322822218))).setIfInBounds 54 ((UInt32.ofNat 1537002063))).setIfInBounds 55 ((UInt32.ofNat 1747873779))).setIfInBounds 56 ((UInt32.ofNat 1955562222))).setIfInBounds 57 ((UInt32.ofNat 2024104815))).setIfInBounds 58 ((UInt32.ofNat 2227730452))).setIfInBounds 59 ((UInt32.ofNat 2361852424))).setIfInBounds 60 ((UInt32.ofNat 2428436474))).setIfInBounds 61 ((UInt32.ofNat 2756734187))).setIfInBounds 62 ((UInt32.ofNat 3204031479))).setIfInBounds 63 ((UInt32.ofNat 3329325298))))) fun z6=>
 .sum z6 (fun z7=>
 .bind (qkb N ((Vector.replicate 32 0)) ((((((((((Vector.replicate 8 0)).setIfInBounds 0 ((UInt32.ofNat 1779033703))).setIfInBounds 1 ((UInt32.ofNat 3144134277))).setIfInBounds 2 ((UInt32.ofNat 1013904242))).setIfInBounds 3 ((UInt32.ofNat 2773480762))).setIfInBounds 4 ((UInt32.ofNat 1359893119))).setIfInBounds 5 ((UInt32.ofNat 2600822924))).setIfInBounds 6 ((UInt32.ofNat 528734635))).setIfInBounds 7 ((UInt32.ofNat 1541459225))) ((Vector.replicate 32 0)) 0) fun z8=>
 .ret z8.1) fun z7=>
 .bind (qkb N ((Vector.replicate 32 0)) z7.1 ((Vector.replicate 32 0)) 0) fun z8=>
 .ret z8.1
def qhm (N:Nat) (a0:List UInt8):Option (Vector UInt8 32):=(qxf N a0).run some
def qQt (N:Nat):List (Nat×qw):=[(2,qxI N),(5,qxY N),(10,qvb N),(15,qu5 N)]
def qGO (N:Nat):Ent:=smF ⟨85,[],[.x .bl],[],[]⟩ [.bl] (Vector UInt8 32) (fun x=>qhm N x.1) cs1 fun _=>qyP
theorem qK1 (N:Nat):qaJ Tryz.prog ⟨85,[],[.x .bl],[],[]⟩ [.bl] (fun x=>qxf N x.1) (fun _=>qyP):=
 Yr (H:=W4) (L:=qJ (qQt N)) 0 qTe (qb6 N) (qt (by kernel_rfl) ⟨qHo N,qHS N,qFK N,qFU N,trivial⟩) (rg0 (by kernel_rfl)) fun x=>by kernel_rfl
theorem qCZ (N:Nat):zf Tryz.prog (qGO N):=qkV (qK1 N)
end Go.Rx
end
set_option maxRecDepth 100000
noncomputable section
namespace Go.Rx
open Go.Proofs
def dg0:Vector UInt8 32:=#v[110,52,11,156,255,179,122,152,156,165,68,230,187,120,10,44,120,144,29,63,179,55,56,118,133,17,163,6,23,175,160,29]
theorem qWG:qhm 300 [0]=some dg0:=by kernel_rfl
def dg1:Vector UInt8 32:=#v[45,113,22,66,183,38,176,68,1,98,124,169,251,172,50,245,200,83,15,177,144,60,196,219,2,37,135,23,146,26,72,129]
theorem qWB:qhm 300 [120]=some dg1:=by kernel_rfl
def dg2:Vector UInt8 32:=#v[217,234,19,0,182,245,117,92,168,138,178,15,28,158,218,100,105,227,235,245,218,173,131,66,21,81,99,85,79,134,92,199]
theorem qWF:qhm 300 [1,7,0,0,0,0,0,0,0,0,0,0,0,0,0,0,0,0,1,2,9,1,120]=some dg2:=by kernel_rfl
def qWi:List (List UInt8×Vector UInt8 32):=[([0],dg0),([120],dg1),([1,7,0,0,0,0,0,0,0,0,0,0,0,0,0,0,0,0,1,2,9,1,120],dg2)]
theorem qVr:qNr (qhm 300) qWi:=⟨qWG,qWB,qWF,trivial⟩
def qJA:Ent:=smF ⟨85,[],[.x .bl],[],[]⟩ [.bl] (Vector UInt8 32) (fun x=>qJu qWi x.1) cs1 fun _=>qyP
theorem qUZ:zf Tryz.prog qJA:=qVR (qCZ 300) fun x z h=>qMK qVr x.1 z h
end Go.Rx
end
set_option maxRecDepth 100000
noncomputable section
namespace Go.Rx
open Go.Proofs
def qUU:List (Nat×TH):=[(9,{ live:=[(1,[1]),(2,[1,3]),(3,[1,3,5]),(4,[1,3,5,7]),(5,[1,3,5,7,46]),(6,[0]),(7,[1,3,5,7,8,9]),(8,[0])],dec:=[34,39,57,62,74],rd:=[(1,[1]),(2,[3]),(3,[5]),(7,[8])] }),
 (13,{ live:=[(0,[2,3,4]),(1,[2,3,4,6]),(2,[2,3,4,6,39]),(3,[4,5]),(4,[2,4,47,48,49]),(5,[2,4,47,48,49,50]),(6,[2,4,8,47,48,49]),(7,[2,4,8,47,48,49,54]),(8,[2,4,9,10,47,48,49]),(9,[2,4,9,10,47,48,49,64]),(10,[4,5]),(11,[2,4,47,48,49]),(12,[2,4,47,48,49]),(13,[4,5])],dec:=[19,23,29,34],rd:=[(1,[6]),(6,[8]),(8,[9])] }),
 (16,{ live:=[(0,[2,3]),(1,[2,3,14]),(2,[4]),(3,[2,3,5]),(4,[5,17]),(5,[5,6]),(6,[5,6,21]),(8,[4])],dec:=[10],fresh:=[17],rd:=[(5,[6])] }),
 (20,{ live:=[(0,[3,4,5,6]),(1,[3,4,9]),(2,[8])],rd:=[(1,[9])] }),
 (21,{ live:=[(0,[1,2]),(1,[1,2,13]),(2,[2,3]),(3,[1,2,4]),(4,[2,4,19,20,21]),(5,[2,4,19,20,21,22]),(6,[2,4,6,19,20,21]),(7,[2,4,6,7,19,20,21]),(8,[2,4,7,19,20,21,31,32,33]),(9,[2,4,7,19,20,21,31,32,33,34]),(10,[2,4,7,9,19,20,21,31,32,33]),(11,[2,4,7,9,10,19,20,21,31,32,33]),(12,[2,4,7,19,20,21,31,32,33]),(13,[2,4,7,19,20,21,31,32,33]),(14,[2,4,19,20,21]),(15,[2,4,19,20,21]),(16,[2,3])],rd:=[(6,[6]),(10,[9])] }),
 (22,{ live:=[(0,[2,3,4]),(1,[2,3,4,22]),(2,[4,5]),(3,[2,3,4,6]),(4,[2,3,4,6,7]),(5,[4,6,7,30,31,32]),(6,[4,6,7,30,31,32,33]),(7,[4,6,7,9,30,31,32]),(8,[4,6,7,9,10,11,30,31,32]),(9,[4,6,7,9,10,30,31,32,44]),(10,[4,6,7,9,30,31,32]),(11,[4,6,7,30,31,32]),(12,[4,6,7,30,31,32]),(13,[4,6,7,30,31,32]),(14,[4,6,7,67]),(15,[4,5]),(16,[4,6,7]),(17,[4,6,7,12]),(18,[4,6,12,71,72,73]),(19,[4,6,12,71,72,73,74]),(20,[4,6,12,14,71,72,73]),(21,[4,6,12,71,72,73]),(22,[4,6,12,71,72,73]),(23,[4,5])],dec:=[18],rd:=[(7,[9]),(8,[10]),(20,[14])] }),
 (24,{ live:=[(0,[2,3]),(1,[4])] }),
 (25,{ live:=[(0,[1]),(1,[1,6,7,8]),(2,[1,6,7,8,9]),(3,[1,3,4,6,7,8]),(4,[1,6,7,8,32]),(5,[2]),(6,[1,6,7,8]),(7,[2])],dec:=[16,19],rd:=[(3,[4])] }),
 (26,{ live:=[(0,[2,3,4]),(1,[2,4,6]),(2,[2,4,6,12]),(3,[4,5]),(4,[4,5])] }),
 (28,{ live:=[(0,[2,3]),(1,[4])],dec:=[8] }),
 (32,{ live:=[(0,[3,5,6,7,9,10]),(1,[3,5,6,7,9,10,27]),(2,[10,11]),(3,[10,11])],dec:=[15,19,23] }),
 (33,{ live:=[(0,[1]),(1,[2])],dec:=[7] }),
 (34,{ live:=[(0,[1]),(1,[2])],dec:=[6,10,15,20] }),
 (35,{ live:=[(0,[1]),(1,[1,21]),(2,[2]),(3,[1,23,24,25]),(4,[1,23,24,25,26]),(5,[1,3,4,23,24,25]),(6,[1,4,5,23,24,25]),(7,[1,23,24,25,74]),(8,[2]),(9,[1,23,24,25]),(10,[2])],dec:=[10,15,32,37,40,55,60,66],rd:=[(5,[4])] }),
 (40,{ live:=[(0,[1]),(1,[1,6,7,8]),(2,[1,6,7,8,9]),(3,[1,3,4,6,7,8]),(4,[1,6,7,8,32]),(5,[2]),(6,[1,6,7,8]),(7,[2])],dec:=[16,19],rd:=[(3,[4])] }),
 (41,{ live:=[(0,[2,3]),(1,[4])],esc:=true }),
 (49,{ live:=[(0,[3,4,5]),(1,[3,4,7]),(2,[3,4,7,12]),(3,[6]),(4,[3,4,7,19]),(5,[6]),(6,[3,4,7,22]),(7,[6]),(8,[6])] }),
 (50,{ live:=[(0,[1,2]),(1,[2,3]),(2,[2])] }),
 (51,{ live:=[(0,[0,2]),(1,[2])] }),
 (52,{ live:=[(0,[0]),(1,[0,6]),(2,[2]),(3,[0,3]),(4,[0,3,9]),(5,[0,3]),(6,[0,3]),(7,[2])] }),
 (53,{ live:=[(0,[0]),(1,[0,3]),(2,[0,3,9,10,11]),(3,[0,3,9,10,11,12]),(4,[0,3,5,9,10,11]),(5,[0,3,9,10,11]),(6,[0,3,9,10,11,20]),(7,[0,3,9,10,11]),(8,[0,3,9,10,11]),(9,[0,6]),(10,[6,25,26,27]),(11,[6,25,26,27,28]),(12,[6,8,25,26,27]),(13,[6,25,26,27]),(14,[6,25,26,27]),(15,[2])],raw:=[87],fresh:=[24] }),
 (54,{ live:=[(0,[1,2]),(1,[1,2]),(2,[2])] }),
 (55,{ live:=[(0,[2,3,4]),(1,[2,3,4,23]),(2,[4,5]),(3,[2,3,4,6]),(4,[2,3,4,6]),(5,[2,3,4,6]),(6,[4,6,7]),(7,[4,7,43]),(8,[7,8]),(10,[4,5])],dec:=[12,17],fresh:=[43],rd:=[(8,[8])] }),
 (56,{ live:=[(0,[0,1,4])] }),
 (57,{ live:=[(0,[2,3]),(1,[4])] }),
 (58,{ live:=[(0,[0,1,2]),(1,[0,1,2,14]),(2,[6]),(3,[1,2,15,16,17]),(4,[1,2,15,16,17,18]),(5,[1,2,7,8,15,16,17]),(6,[1,2,8,9,15,16,17]),(7,[1,2,15,16,17,30]),(8,[6]),(9,[1,2,15,16,17]),(10,[6])],rd:=[(5,[8]),(6,[9])] }),
 (59,{ live:=[(0,[2,3]),(1,[4])],dec:=[10,17] }),
 (60,{ live:=[(0,[2,3]),(1,[4])],dec:=[8] }),
 (61,{ live:=[(0,[0,1]),(1,[0,1,7,8]),(2,[0,1,7,8,9]),(3,[0,1,5,7,8]),(4,[0,1,5,7,8,16]),(5,[4]),(6,[0,1,7,8]),(7,[4])] }),
 (62,{ live:=[(0,[1,2]),(1,[3])] }),
 (63,{ live:=[(0,[1,2]),(1,[1,2]),(2,[1,2,10,11]),(3,[1,2,10,11,12]),(4,[1,2,3,10,11]),(5,[1,2,10,11]),(6,[1,2,10,11]),(7,[2])],fresh:=[6] }),
 (64,{ live:=[(0,[0,1]),(1,[0,1,7,8]),(2,[0,1,7,8,9]),(3,[0,1,5,7,8]),(4,[0,1,5,7,8,16]),(5,[4]),(6,[0,1,7,8]),(7,[4])] }),
 (66,{ live:=[(0,[0]),(1,[0,3]),(2,[3,6,7,8]),(3,[3,6,7,8,9]),(4,[3,5,6,7,8]),(5,[3,5,6,7,8,14]),(6,[2]),(7,[3,6,7,8]),(8,[2])] }),
 (67,{ live:=[(0,[0,1]),(1,[0,1,5]),(2,[0,1,5,6]),(3,[0,1,6,11]),(4,[12]),(5,[4]),(6,[4]),(7,[0,1,13]),(8,[4]),(9,[0,1,16]),(10,[4]),(11,[19]),(12,[4]),(13,[4])] }),
 (72,{ live:=[(0,[1,2,3,6]),(1,[2,3,6,8,9]),(2,[2,3,6,8,9,18]),(3,[6,7]),(4,[6,7])],rd:=[(1,[8])] }),
 (73,{ live:=[(0,[1,2,3,4,5]),(1,[5])] }),
 (74,{ live:=[(0,[1]),(1,[2])],dec:=[7,12] }),
 (78,{ live:=[(0,[1]),(1,[1,6,7,8]),(2,[1,6,7,8,9]),(3,[1,3,4,6,7,8]),(4,[1,6,7,8,33]),(5,[2]),(6,[1,6,7,8]),(7,[2])],dec:=[18,21,38,43],rd:=[(3,[4])] }),
 (79,{ live:=[(0,[0,2,12,13,14]),(1,[0,2,12,13,14,15]),(2,[0,2,5,12,13,14]),(3,[0,2,5,6,12,13,14]),(4,[0,2,5,6,8,12,13,14]),(5,[0,2,5,6,8,12,13,14,32]),(6,[0,2,5,6,8,12,13,14]),(7,[0,2,6,8,12,13,14,37,38,39]),(8,[0,2,6,8,12,13,14,37,38,39,40]),(9,[0,2,6,8,10,12,13,14,37,38,39]),(10,[0,2,6,8,10,12,13,14,37,38,39,48]),(11,[0,2,6,8,12,13,14,37,38,39]),(12,[0,2,6,8,12,13,14,37,38,39]),(13,[0,2,12,13,14,59]),(14,[0,2,12,13,14])],fresh:=[58],rd:=[(2,[5]),(3,[6]),(9,[10])] }),
 (82,{ live:=[(0,[1,2]),(1,[3])] }),
 (83,{ live:=[(0,[2,3]),(1,[4])],dec:=[8] }),
 (84,{ live:=[(0,[1]),(1,[1,15]),(2,[2,3]),(3,[1,4]),(4,[4,22,23,24]),(5,[4,22,23,24,25]),(6,[4,6,22,23,24]),(7,[4,6,7,22,23,24]),(8,[4,6,22,23,24]),(9,[4,22,23,24,47,48,49]),(10,[4,22,23,24,47,48,49,50]),(11,[4,10,22,23,24,47,48,49]),(12,[4,10,11,22,23,24,47,48,49]),(13,[4,22,23,24,47,48,49]),(14,[4,22,23,24,47,48,49]),(15,[4,22,23,24]),(16,[2,3])],fresh:=[20],esc:=true,rd:=[(6,[6]),(11,[10])] }),
 (85,{ live:=[(0,[0,2]),(1,[0,2,3]),(2,[0,2,3,16]),(3,[0,2,3]),(4,[0,2,3,20]),(5,[0,2,3,20,21]),(6,[0,2,3,4,20]),(7,[0,2,3,20]),(8,[0,2,3,20]),(9,[2,3,5,6]),(10,[2,3,5,6,40]),(11,[2,3,5,6]),(12,[2,3,5,6]),(13,[2,5,7]),(14,[2,5,7,46]),(15,[2,5,7,46,47]),(16,[2,5,7,8,46]),(17,[2,5,7,46]),(18,[2,5,7,46]),(19,[2])],fresh:=[10] }),
 (86,{ live:=[(0,[0,2]),(1,[2])] }),
 (87,{ live:=[(0,[0,1]),(1,[0,1,6]),(2,[0,1]),(3,[0,1]),(4,[0,1,16]),(5,[0]),(6,[4])],esc:=true,nil:=[(5,[⟨.sl 0,900000870,(.sl 19 (.ag [(.ba 16),(.ag [(.i .i64),(.i .i64)]),(.sl 4 (.ag [(.i .i64),(.ag [(.ag [(.i .i64),(.i .i64)]),.s])]))]))⟩])] }),
 (88,{ live:=[(0,[0]),(1,[0,4]),(2,[2]),(3,[2])],vecs:=[5],esc:=true }),
 (89,{ live:=[(0,[0,3]),(1,[0,9,10,11]),(2,[0,9,10,11,12]),(3,[0,5,9,10,11]),(4,[0,5,6,7,9,10,11]),(5,[0,5,6,9,10,11,22]),(6,[0,9,10,11]),(7,[0,9,10,11]),(8,[0,9,10,11])],rd:=[(3,[5]),(4,[6])] }),
 (90,{ live:=[(0,[2,3,4]),(1,[2,3,4,7]),(2,[4]),(3,[4])] }),
 (91,{ live:=[(0,[2,3]),(1,[4])],esc:=true }),
 (92,{ live:=[(0,[0,1,2,3,4,10]),(1,[0,1,2,3,4,10,11]),(2,[0,1,2,3,4,10,11,12]),(3,[0,1,2,3,4,10,11,12,25]),(5,[0,1,2,3,4,10,11,12,32]),(7,[0,1,2,3,4,10,11,12,39]),(8,[0,1,2,3,4,10,11,12]),(9,[0,1,2,3,4,10,11,12]),(10,[0,1,2,3,4,10,11,12,13,14]),(11,[0,1,2,3,4,10,11,12,13,14,56]),(12,[0,1,2,3,4,10,11,12,13]),(13,[0,1,2,3,4,10,11,12,13]),(14,[0,1,2,3,4,10,11,12,13,14]),(15,[0,1,2,3,4,10,11,12,13,75]),(16,[0,1,2,3,4,10,11,12,13,80]),(17,[0,1,2,3,4,10,11,12,13,97]),(18,[0,2,3,4,10,11,15]),(19,[0,1,2,3,4,10,11]),(20,[0,1,2,3,4,12,16,17]),(21,[0,1,2,3,4,11,12,16]),(22,[0,1,2,3,4,11,12,16,18,19]),(23,[0,1,2,3,4,11,16,18,19,20]),(24,[0,1,2,3,4,11,16,18,19,20,125]),(25,[0,1,2,3,4,10,11,16]),(26,[0,2,3,4,10,11,16]),(27,[0,1,2,3,4,10,11]),(28,[0,1,2,3,4,10,11,16]),(29,[0,1,3,4,10,11,16]),(30,[0,1,2,3,4,10,11])],dec:=[69,72,83] }),
 (93,{ live:=[(0,[0]),(1,[2]),(2,[2])] }),
 (94,{ live:=[(0,[0,1]),(1,[4])] }),
 (95,{ live:=[(0,[0,1]),(1,[0,1,10]),(2,[4]),(3,[0,1,12,13]),(4,[0,1,12,13,14]),(5,[0,1,5,12,13]),(6,[0,1,12,13,24]),(7,[4]),(8,[0,1,12,13]),(9,[4])] }),
 (96,{ live:=[(0,[0]),(1,[0,4]),(2,[2]),(3,[2])],vecs:=[5],esc:=true }),
 (97,{ live:=[(0,[0]),(1,[0,4]),(2,[2]),(3,[2])],vecs:=[5],esc:=true }),
 (98,{ live:=[(0,[0]),(1,[2])] }),
 (99,{ live:=[(0,[1,2,4]),(1,[1,2,4,6]),(2,[1,4,6,12]),(3,[1,4,6,12]),(4,[4,6,12]),(5,[4,5]),(6,[4,6,21]),(7,[4,5]),(8,[4,5])],rd:=[(1,[6])] }),
 (100,{ live:=[(0,[1,2]),(1,[1,2,3]),(2,[2,3,9,10,11]),(3,[2,3,9,10,11,12]),(4,[2,3,5,9,10,11]),(5,[2,3,5,9,10,11]),(6,[2,3,9,10,11,20,21,22]),(7,[2,3,9,10,11,20,21,22,23]),(8,[2,3,7,9,10,11,20,21,22]),(9,[2,3,9,10,11,20,21,22]),(10,[2,3,9,10,11,20,21,22]),(11,[2,3,9,10,11]),(12,[2])],rd:=[(4,[5]),(8,[7])] }),
 (103,{ live:=[(0,[2,3]),(1,[4])],dec:=[8,13,18,23,32,37] }),
 (108,{ live:=[(0,[0]),(1,[0,3]),(2,[0,3,4]),(3,[0,3,4,10,11]),(4,[0,3,4,10,11,12]),(5,[0,3,4,5,10,11]),(6,[0,3,4,10,11]),(7,[0,3,4,10,11]),(8,[4]),(9,[2])],esc:=true }),
 (109,{ live:=[(0,[1]),(1,[1,6]),(2,[2,3]),(3,[2,3])],fresh:=[15],esc:=true }),
 (110,{ live:=[(0,[1]),(1,[1,8]),(2,[2,3]),(3,[1,4]),(4,[2,3])],fresh:=[12],esc:=true }),
 (111,{ live:=[(0,[0]),(1,[0,4]),(2,[2]),(3,[2])],vecs:=[5],esc:=true }),
 (112,{ live:=[(0,[0]),(1,[0])] }),
 (113,{ live:=[(0,[0]),(1,[0])] }),
 (114,{ live:=[(0,[0,2,6]),(1,[0,2,6,7]),(2,[0,2,6,7,19]),(3,[0,2,6,7,19,20]),(4,[0,2,6,7,8,19]),(5,[0,2,6,7,8,9,10,19]),(6,[0,2,6,7,9,11,19]),(7,[0,2,6,7,11,12,19]),(8,[0,2,6,7,11,12,19]),(9,[0,2,6,7,11,19]),(10,[0,2,6,7,19]),(11,[0,2,6,7,19]),(12,[0,7,95]),(13,[0,7,95,96]),(14,[0,7,13,95]),(15,[0,7,95]),(16,[0,7,95])],rd:=[(0,[6])] }),
 (115,{ live:=[(0,[0]),(1,[0,3,4]),(2,[0,3,4,7,8]),(3,[0,3,4,7,8,9]),(4,[0,3,4,5,7,8]),(5,[0,3,4,7,8]),(6,[0,3,4,7,8]),(7,[0,3,4,7,8]),(8,[2])] }),
 (116,{ live:=[(0,[2,3,4]),(1,[2,3,4,7]),(2,[4]),(3,[4])] }),
 (117,{ live:=[(0,[0,1,2,7]),(1,[0,1,2,7,8]),(2,[0,1,2,4,7]),(3,[0,1,2,4,5,6,7]),(4,[0,1,2,7,30]),(5,[0,1,2,7])],dec:=[17,23],rd:=[(3,[5])] }),
 (118,{ live:=[(0,[0,1,2,3,8]),(1,[0,1,2,3,8,14]),(2,[0,1,2,3,8]),(3,[0,1,2,3,8,9]),(4,[0,1,2,3,8,9,34]),(5,[0,1,2,3,8,9]),(6,[0,1,2,3,8,9])],dec:=[21] }),
 (119,{ live:=[(0,[0,1,2,3,8]),(1,[0,1,2,3,8,9]),(2,[0,3,8,9,10]),(3,[0,3,8,9,10,11]),(4,[0,3,8,9,10,11,21]),(5,[0,3,8,9,10,11]),(6,[0,3,8,9,10,11]),(7,[0,3,8,9,12]),(8,[0,3,8,9,12,33]),(9,[0,3,8,9,12]),(10,[0,3,8,9,12]),(11,[0,3,8,9,12])] }),
 (120,{ live:=[(0,[0,1,8]),(1,[0,1,8,17]),(2,[0,1,8,9]),(3,[0,1,8,9,10]),(4,[0,1,8,9,10,11]),(5,[0,1,8,9,10,11,35]),(6,[0,1,8,9,10,11]),(7,[0,1,8,9,10,11,12]),(8,[0,1,8,9,10,11,12,45]),(9,[0,1,8,9,10,11,12]),(10,[0,1,8,9,10,11])] }),
 (121,{ live:=[(0,[0,1,2,3]),(1,[0,1,3,10]),(2,[0,1,3,10,11]),(3,[0,1,3,10,11,12]),(4,[0,1,3,10,11,12,13]),(5,[0,3,10,11,12,13,14]),(6,[0,3,10,11,12,13,14,34]),(7,[0,3,11,12,13,14,36]),(8,[0,3,11,12,13,14]),(9,[0,3,11,12,13,14]),(10,[0,3,11,12,13,14]),(11,[11,13]),(12,[13,55]),(13,[8,9]),(14,[13,55,57]),(15,[8,9]),(16,[13,60]),(17,[8,9])] }),
 (122,{ live:=[(0,[0,2,8]),(1,[0,8,9]),(2,[0,8,9,15]),(3,[0,8,9]),(4,[0,8,9]),(5,[0,8,9])] }),
 (123,{ live:=[(0,[0,1,2,3]),(1,[0,1,2,3,9]),(2,[0,1,2,3,9,10]),(3,[0,1,2,3,9,10,16]),(4,[0,1,2,3,9,10]),(5,[0,1,2,3,9,10,36]),(6,[0,1,2,3,9,10]),(7,[0,1,2,3,9,10,41]),(8,[8]),(9,[0,1,2,3,9,10,45]),(10,[8]),(11,[0,1,2,3,9,10]),(12,[0,1,2,3,9,10,65]),(13,[0,1,2,3,9,10,11]),(14,[0,1,2,3,9,10,11,69]),(15,[0,1,2,3,9,10,11]),(16,[0,1,2,3,9,10,11,84]),(17,[0,1,2,3,9,10,11]),(18,[0,1,2,3,9,10,104]),(19,[0,1,2,3,9,10,12]),(20,[0,1,2,3,9,10,12,109]),(21,[0,1,2,3,9,10,12]),(22,[0,1,2,3,9,10,12,124]),(23,[0,1,2,3,9,10,12]),(24,[8])],dec:=[22] }),
 (124,{ live:=[(0,[0,1,2,3,4]),(1,[0,1,2,4]),(2,[0,1,4,11,12]),(3,[0,1,4,11,12,47]),(4,[0,1,4,11,12]),(5,[0,1,4,11,12,65]),(6,[0,1,4,11,12]),(7,[0,1,4,11,12,70]),(8,[0,1,4,11,12]),(9,[0,1,4,11,12]),(10,[0,1,4,11,12]),(11,[10])],dec:=[34,53] }),
 (125,{ live:=[(0,[0,1,2,3,4]),(1,[0,1,2,4]),(2,[0,1,4,12,13]),(3,[0,1,4,12,13,47]),(4,[0,1,4,12,13]),(5,[0,1,4,12,13,66]),(6,[0,1,4,12,13]),(7,[0,1,4,12,13,71]),(8,[13]),(9,[10,11]),(10,[0,1,4,12,13]),(11,[0,1,4,12,13]),(12,[0,1,4,12,13]),(13,[0,1,4,12,13,120]),(14,[0,1,4,12,13]),(15,[0,1,4,12,13,139]),(16,[0,1,4,12,13]),(17,[0,1,4,12,13,144]),(18,[0,1,4,12,13]),(19,[0,1,4,12,13]),(20,[0,1,4,12,13]),(21,[13]),(22,[10,11])],dec:=[35,53,108,126] }),
 (126,{ live:=[(0,[0,2]),(1,[0,2,4]),(2,[0]),(3,[0,2]),(4,[0,2,8]),(5,[0,2]),(6,[0,2]),(7,[2])] }),
 (127,{ live:=[(0,[0,2]),(1,[0,2,4]),(2,[0]),(3,[0,2]),(4,[0,2,8]),(5,[0,2]),(6,[0,2]),(7,[0,2,14]),(8,[0,2]),(9,[0,2]),(10,[2])] }),
 (132,{ live:=[(0,[0]),(1,[0,4]),(2,[2]),(3,[2])] }),
 (133,{ live:=[(0,[0]),(1,[0,3]),(2,[0,3]),(3,[0,3,7]),(4,[0,3]),(5,[0,3]),(6,[2])] }),
 (134,{ live:=[(0,[0]),(1,[2])],fresh:=[6],esc:=true }),
 (135,{ live:=[(0,[0,2]),(1,[0,2,3]),(2,[0,2,3,7]),(3,[0,2,3,7,8]),(4,[0,2,3,4,7]),(5,[0,2,3,4,7,11]),(6,[0,2,3,7]),(7,[0,2,3,4,5,6,7]),(8,[0,2,3,7]),(9,[0,2,3,7]),(10,[2])] }),
 (136,{ live:=[(0,[0,1]),(1,[4])] }),
 (137,{ live:=[(0,[0,1]),(1,[4])] }),
 (138,{ live:=[(0,[2,3]),(1,[5]),(2,[13,14]),(3,[13,14,15]),(4,[7,13,14]),(5,[8,13,14]),(6,[8,13,14,20]),(7,[4]),(8,[13,14]),(9,[4])],rd:=[(1,[5])] }),
 (139,{ live:=[(0,[0,2,3,4,10]),(1,[0,2,3,4,10,11]),(2,[0,2,3,4,10,11,18]),(3,[0,2,3,4,10,11,40]),(4,[0,2,3,4,10,11]),(5,[0,2,3,4,10,11,58]),(6,[0,2,3,4,11]),(7,[0,2,3,4,10])],dec:=[23] }),
 (140,{ live:=[(0,[0]),(1,[2])] }),
 (141,{ live:=[(0,[0]),(1,[0]),(2,[0]),(3,[0]),(4,[2])] }),
 (142,{ live:=[(0,[0,1,2,3]),(1,[8])] }),
 (143,{ live:=[(0,[0,1,2,3,4,5]),(1,[0,1,2,3,4,5]),(2,[0,1,2,4,5]),(3,[2]),(4,[12])] }),
 (145,{ live:=[(0,[0,1]),(1,[0,5]),(2,[4])] }),
 (146,{ live:=[(0,[0,1]),(1,[2])] }),
 (147,{ live:=[(0,[2,3,4]),(1,[2,3,4,7]),(2,[6]),(3,[12]),(4,[6]),(5,[6])] }),
 (148,{ live:=[(0,[0,1]),(1,[2])] }),
 (149,{ live:=[(0,[2,3,4]),(1,[2,3,4,7]),(2,[6]),(3,[12]),(4,[6]),(5,[6])] }),
 (150,{ live:=[(0,[0,1]),(1,[2])] }),
 (151,{ live:=[(0,[0,1]),(1,[0,1,5]),(2,[0,1,5,6]),(3,[0,1,6,11]),(4,[12]),(5,[4]),(6,[4]),(7,[0,1,13]),(8,[4]),(9,[0,1,16]),(10,[4]),(11,[19]),(12,[4]),(13,[4])] }),
 (152,{ live:=[(0,[0,1,2,3,4]),(1,[1,2,3,22]),(2,[1,2]),(3,[10,11]),(4,[10,11])] }),
 (153,{ live:=[(0,[0]),(1,[2])] })]
def qUT (k:FuncId):TH:=(get qUU k).getD {}
theorem qUS:qxs Tryz.prog [16,55]:=⟨qIH (fn:=Tryz.f16) (c:=Tryz.f16.body.getD .skip) (by kernel_rfl) (by kernel_rfl) (by kernel_rfl),qIH (fn:=Tryz.f55) (c:=Tryz.f55.body.getD .skip) (by kernel_rfl) (by kernel_rfl) (by kernel_rfl),trivial⟩
def qOd:Option Bool:=some true
theorem qO_:qOc Tryz.prog qUT [16,55] [qJA] 400 30 9=some (.pv (.b true),[]):=by kernel_rfl
def qMQ:Ent:=smF ⟨9,[],[],[],[]⟩ [] Bool (fun _=>qOd) cs1 fun _ z=>(xb z,[])
theorem qT8:zf Tryz.prog qMQ:=qUE Tryz.prog (fun _=>rfl) qk (base:=[qJA]) ⟨qUZ,trivial⟩ qUS qO_
end Go.Rx
end
