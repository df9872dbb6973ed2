/- A part of the proof of AboveStamp: the law returns true for every input, and its arguments read as before. No condition. -/
import Derived.Test.YtmnngfcoenhhkaaGreatProg
import Derived.Laws.BitsAllLaws
import Derived.Test.YtmnngfcoenhhkaaGreatComE
set_option linter.unusedSimpArgs false
set_option linter.unusedVariables false
set_option linter.unusedSectionVars false
noncomputable section
namespace Go.Rx
theorem Vc {α R:Type} (n:α→Option R):∀ t:Tree α,t.run n=(t.run some).bind n
 | .ret a=>rfl
 | .no=>rfl
 | .cond b s t=>by
  simp only [Tree.run]
  cases b
  ·exact Vc n t
  ·exact Vc n s
 | @Tree.chk _ p d t=>by
  simp only [Tree.run,chk]
  split
  ·exact Vc n t
  ·rfl
 | .bind o k=>by
  simp only [Tree.run]
  cases o with
  | none=>rfl
  | some x=>exact Vc n (k x)
 | .opt o s k=>by
  simp only [Tree.run]
  cases o with
  | none=>exact Vc n s
  | some x=>exact Vc n (k x)
 | .sum x f g=>by
  cases x with
  | inl a=>exact Vc n (f a)
  | inr b=>exact Vc n (g b)
section r
variable {α R:Type} {n:α→Option R}
theorem qL {a:α}:(Tree.ret a).run n=n a:=rfl
theorem qB {b:Bool} {s t:Tree α}:(Tree.cond b s t).run n=bif b then s.run n else t.run n:=rfl
theorem qI {p:Prop} [Decidable p] {t:Tree α}:(Tree.chk p t).run n=chk p (t.run n):=rfl
theorem run_bind {β:Type} {o:Option β} {k:β→Tree α}:(Tree.bind o k).run n=o.bind fun x=>(k x).run n:=rfl
theorem qxc {β γ:Type} {x:β} {f:β→Tree α} {g:γ→Tree α}:(Tree.sum (.inl x) f g).run n=(f x).run n:=rfl
theorem qpC {β γ:Type} {x:γ} {f:β→Tree α} {g:γ→Tree α}:(Tree.sum (.inr x) f g).run n=(g x).run n:=rfl
end r
theorem Vy {V W Y:Type} {B:V→Tree (V⊕W)} {g:W→Option Y} {v v':V} (h:(B v).run some=some (.inl v')) (N:Nat):zi B g (N + 1) v=zi B g N v':=by
 simp only [zi]
 rw [Vc,h]; rfl
theorem QS {V W Y:Type} {B:V→Tree (V⊕W)} {g:W→Option Y} {v:V} {x:W} (h:(B v).run some=some (.inr x)) (N:Nat):zi B g (N + 1) v=g x:=by
 simp only [zi]
 rw [Vc,h]; rfl
theorem Wj {V W Y : Type} {B : V → Tree (V ⊕ W)} {g : W → Option Y} {I : V → Prop} {Q : Y → Prop} (m : V → Nat)
    (h:∀ v,I v→(∃ v',(B v).run some=some (.inl v')∧I v'∧m v' < m v)∨∃ x y,(B v).run some=some (.inr x)∧g x=some y∧Q y) :
    ∀ (N:Nat) (v:V),I v→m v < N→∃ y,zi B g N v=some y∧Q y
 | 0,v,_,hm=>by omega
 | N + 1,v,hi,hm=>by
  rcases h v hi with ⟨v',h1,h2,h3⟩ | ⟨x,y,h1,h2,h3⟩
  ·rw [Vy h1]
   exact Wj m h N v' h2 (by omega)
  ·rw [QS h1]
   exact ⟨y,h2,h3⟩
theorem Km {W Y : Type} {B : Int → Tree (Int ⊕ W)} {g : W → Option Y} {p : Nat → Bool} {n : Nat} {hit : Nat → W} {fin : W}
    (h1:∀ k,k < n→(B (k:Int)).run some=some (if p k then .inr (hit k) else .inl ((k + 1:Nat):Int))) (h2:(B (n:Int)).run some=some (.inr fin)) :
    ∀ (N k:Nat),k≤n→n < N + k→zi B g N (k:Int)=g (match Qn p (n - k) k with | some j=>hit j | none=>fin)
 | 0,k,hk,hN=>by omega
 | N + 1,k,hk,hN=>by
  by_cases e:k=n
  ·subst e
   rw [QS h2,Nat.sub_self]; rfl
  ·obtain ⟨m,hm⟩:∃ m,n - k=m + 1:=⟨n - k - 1,by omega⟩
   have h3:=h1 k (by omega)
   rw [hm]
   unfold Qn
   cases hp:p k with
   | true=>
    rw [hp,if_pos rfl] at h3
    rw [QS h3,if_pos rfl]
   | false=>
    rw [hp,if_neg (by simp)] at h3
    rw [Vy h3,Km h1 h2 N (k + 1) (by omega) (by omega),if_neg (by simp),show n - (k + 1)=m by omega]
def Zx {σ:Type} (f:Nat→σ→σ):Nat→Nat→σ→σ
 | 0,_,s=>s
 | m + 1,k,s=>Zx f m (k + 1) (f k s)
theorem ZA {σ W Y : Type} {V : Type} {B : V → Tree (V ⊕ W)} {g : W → Option Y} {at_ : Nat → σ → V} {I : Nat → σ → Prop} {f : Nat → σ → σ} {n : Nat} {fin : σ → W}
    (h1:∀ k s,k < n→I k s→(B (at_ k s)).run some=some (.inl (at_ (k + 1) (f k s)))∧I (k + 1) (f k s)) (h2:∀ s,I n s→(B (at_ n s)).run some=some (.inr (fin s))) :
    ∀ (N k:Nat) (s:σ),I k s→k≤n→n < N + k→zi B g N (at_ k s)=g (fin (Zx f (n - k) k s))
 | 0,k,s,_,hk,hN=>by omega
 | N + 1,k,s,hi,hk,hN=>by
  by_cases e:k=n
  ·subst e
   rw [QS (h2 s hi),Nat.sub_self]; rfl
  ·obtain ⟨m,hm⟩:∃ m,n - k=m + 1:=⟨n - k - 1,by omega⟩
   obtain ⟨h3,h4⟩:=h1 k s (by omega) hi
   rw [Vy h3,ZA h1 h2 N (k + 1) _ h4 (by omega) (by omega),hm,show n - (k + 1)=m by omega]
   rfl
theorem qzy {α:Type} {l:List α} {k n:Nat} {d:α} (hn:l.length=n) (h:k < l.length):K1 l n k=some (l.getD k d):=by
 unfold K1; rw [if_pos hn,List.getElem?_eq_getElem h]; simp [List.getD,List.getElem?_eq_getElem h]
theorem qa {α:Type} {p:Prop} [Decidable p] {x:Option α} (h:p):chk p x=x:=if_pos h
theorem qnz {Z:Type} (o:Option Z):vN [] o=o:=rfl
theorem Jf {Z:Type} {a b:Nat} {ps:List (Nat×Nat)} {o:Option Z} (h:a=b):vN ((a,b)::ps) o=vN ps o:=if_pos h
end Go.Rx
end
noncomputable section
namespace Go.Rx
def qJ:Ty:=.ag [.i .i64,.i .i64]
abbrev qd:=Int×Int
def qd.N (x:qd):Int:=x.1
def qd.Rep (x:qd):Int:=x.2
def qd.mk (x0:Int) (x1:Int):qd:=(x0,x1)
instance qd.dec:DecidableEq qd:=JA qJ
def zT:Ty:=.ag [qJ,.s]
abbrev qq:=qd×List UInt8
def qq.S (x:qq):qd:=x.1
def qq.V (x:qq):List UInt8:=x.2
def qq.mk (x0:qd) (x1:List UInt8):qq:=(x0,x1)
instance qq.dec:DecidableEq qq:=JA zT
def zN:Ty:=.ag [.i .i64,zT]
abbrev qk:=Int×qq
def qk.No (x:qk):Int:=x.1
def qk.C (x:qk):qq:=x.2
def qk.mk (x0:Int) (x1:qq):qk:=(x0,x1)
instance qk.dec:DecidableEq qk:=JA zN
def qW:Ty:=.ag [.ba 16,qJ,.sl 4 zN]
abbrev qf:=Vector UInt8 16×qd×List qk
def qf.ID (x:qf):Vector UInt8 16:=x.1
def qf.jh (x:qf):qd:=x.2.1
def qf.F (x:qf):List qk:=x.2.2
def qf.mk (x0:Vector UInt8 16) (x1:qd) (x2:List qk):qf:=(x0,x1,x2)
instance qf.dec:DecidableEq qf:=JA qW
def zg:Ty:=.ag [.sl 19 qW]
abbrev qo:=List qf
def qo.R (x:qo):List qf:=x
def qo.mk (x0:List qf):qo:=(x0)
instance qo.dec:DecidableEq qo:=JA zg
def js:Ty:=.ag [.i .u32,.ba 32]
abbrev qQ:=Int×Vector UInt8 32
def qQ.jy (x:qQ):Int:=x.1
def qQ.mk (x0:Int) (x1:Vector UInt8 32):qQ:=(x0,x1)
instance qQ.dec:DecidableEq qQ:=JA js
def qK:Ty:=.ag [.i .i64,qJ,.i .i64,.ba 32,.sl 33 js]
abbrev qe:=Int×qd×Int×Vector UInt8 32×List qQ
def qe.No (x:qe):Int:=x.1
def qe.S (x:qe):qd:=x.2.1
def qe.Len (x:qe):Int:=x.2.2.1
def qe.D (x:qe):Vector UInt8 32:=x.2.2.2.1
def qe.B (x:qe):List qQ:=x.2.2.2.2
def qe.mk (x0:Int) (x1:qd) (x2:Int) (x3:Vector UInt8 32) (x4:List qQ):qe:=(x0,x1,x2,x3,x4)
instance qe.dec:DecidableEq qe:=JA qK
def qT:Ty:=.ag [.ba 16,qJ,.sl 37 qK]
abbrev qi:=Vector UInt8 16×qd×List qe
def qi.ID (x:qi):Vector UInt8 16:=x.1
def qi.jh (x:qi):qd:=x.2.1
def qi.F (x:qi):List qe:=x.2.2
def qi.mk (x0:Vector UInt8 16) (x1:qd) (x2:List qe):qi:=(x0,x1,x2)
instance qi.dec:DecidableEq qi:=JA qT
def z9:Ty:=.ag [.ba 32,.sl 19 qT]
abbrev qM:=Vector UInt8 32×List qi
def qM.L (x:qM):List qi:=x.2
def qM.mk (x0:Vector UInt8 32) (x1:List qi):qM:=(x0,x1)
instance qM.dec:DecidableEq qM:=JA z9
end Go.Rx
end
set_option maxRecDepth 100000
noncomputable section
namespace Go.Rx
open Go.Proofs
theorem qu:Tryz.prog.follows .mixedOrders=true:=by kernel_rfl
noncomputable instance qAy:CT:=⟨ctF Tryz.prog⟩
def qve:Ent:=qz_ 128
theorem qy0:zn Tryz.prog qve:=qyN (fn:=Tryz.f128) (by kernel_rfl) (by kernel_rfl) (by kernel_rfl) (by kernel_rfl) (by kernel_rfl)
noncomputable def qvB:Code:=Tryz.f111.body.getD .skip
theorem qgm:FnF Tryz.prog 111 Tryz.f111 qvB:=⟨qu,by kernel_rfl,by kernel_rfl,by kernel_rfl⟩
def qnL:TH:={ live:=[(0,[0]),(1,[0,4]),(2,[2]),(3,[2])],vecs:=[5],esc:=true }
def qn5 (N:Nat):List Ent:=[]
theorem qj7 (N:Nat):q9 Tryz.prog (qn5 N):=trivial
def qe5 (a0:List UInt8) (z:Unit):TV×THp:=(.v 100050 (((([]:List UInt8))++a0).length),[(100050,.vec false 1 .bl ((([]:List UInt8))++a0:List UInt8))])
def KN (a0:List UInt8):Tree (Unit):=
 .chk (List.isEmpty a0=false) <|
 .chk (jI ((([]:List UInt8)).length) 0 (((([]:List UInt8))++a0).length) 1) <|
 .ret ()
def qcA (a0:List UInt8):Option (Unit):=(KN a0).run some
def qn2:List (Nat×qO):=[]
theorem qkQ:X1 Tryz.prog ⟨111,[],[.x .bl],[],[]⟩ [.bl] (fun x=>KN x.1) (fun x=>qe5 x.1):=
 JT (H:=qnL) (L:=qX (qn2)) 0 qgm (qj7 0) (qC (by kernel_rfl) trivial) (rg0 (by kernel_rfl)) fun x=>by kernel_rfl
def qlm:TH:={ live:=[(0,[0]),(1,[0,4]),(2,[2]),(3,[2])],vecs:=[5],esc:=true }
def qk_ (N:Nat):List Ent:=[]
theorem qhK (N:Nat):q9 Tryz.prog (qk_ N):=trivial
def qkK (z:Unit):TV×THp:=(.v 100050 0,[(100050,.vec false 1 .bl ([]:List UInt8))])
def qbP:Tree (Unit):=
 .chk (0=0) <|
 .ret ()
def qnT:Option (Unit):=(qbP).run some
def qld:List (Nat×qO):=[]
theorem qh9:X1 Tryz.prog ⟨111,[],[.k (.es 0)],[],[]⟩ [] (fun x=>qbP) (fun _=>qkK):=
 JT (H:=qlm) (L:=qX (qld)) 0 qgm (qhK 0) (qC (by kernel_rfl) trivial) (rg0 (by kernel_rfl)) fun x=>by kernel_rfl
def qkO:TH:={ live:=[(0,[0]),(1,[0,4]),(2,[2]),(3,[2])],vecs:=[5],esc:=true }
def qlo (N:Nat):List Ent:=[]
theorem qhJ (N:Nat):q9 Tryz.prog (qlo N):=trivial
def qlt (z:Unit):TV×THp:=(.nils,[])
def qbW:Tree (Unit):=
 .ret ()
def qn4:Option (Unit):=(qbW).run some
def qj_:List (Nat×qO):=[]
theorem qhV:X1 Tryz.prog ⟨111,[],[.k (.es 1)],[],[]⟩ [] (fun x=>qbW) (fun _=>qlt):=
 JT (H:=qkO) (L:=qX (qj_)) 0 qgm (qhJ 0) (qC (by kernel_rfl) trivial) (rg0 (by kernel_rfl)) fun x=>by kernel_rfl
def qb1 (z:Unit):Unit:=()
def qkn (z:Unit):Unit:=()
def ZW (a0:List UInt8):Option (Unit):=
 bif a0.isEmpty then
  (qnT).bind fun z0=>(qn4).bind fun z1=>chk (qb1 z0=qkn z1) (some (qb1 z0))
 else qcA a0
def qde:Ent:=smF ⟨111,[],[.x .bl],[],[]⟩ [.bl] (Unit) (fun x=>ZW x.1) cs1 fun x=>qe5 x.1
theorem qkJ:zn Tryz.prog (qde):=qbm fun x z h l=>by
 obtain ⟨a0,_⟩:=x
 replace h:ZW a0=some z:=h
 unfold ZW at h
 rcases qb7 h with ⟨e,h2⟩ | ⟨_,h2⟩<;>clear h
 ·have e:=List.isEmpty_iff.1 e
  subst e
  obtain ⟨z0,c0,h2⟩:=bind_some h2
  obtain ⟨z1,c1,h2⟩:=bind_some h2
  obtain ⟨hE,h2⟩:=qaS h2
  obtain rfl:=Option.some.inj h2
  refine qbI (t:=.bl) (x:=[]) rfl (TV.ers []) (TV.ers []) (by exact qh9 (()) _ c0 l) ?_
  rw [hE]
  exact (qsK (n:=100050) (sz:=1) (x:=qp .bl ([]:List UInt8)) rfl (by kernel_rfl) (by kernel_rfl) (qhV (()) _ c1 l))
 ·exact qkQ (a0,()) z h2 l
noncomputable def qvd:Code:=Tryz.f112.body.getD .skip
theorem quN:FnF Tryz.prog 112 Tryz.f112 qvd:=⟨qu,by kernel_rfl,by kernel_rfl,by kernel_rfl⟩
def qrK:TH:={ live:=[(0,[0]),(1,[0])] }
def qrj (N:Nat):List Ent:=[]
theorem qnV (N:Nat):q9 Tryz.prog (qrj N):=trivial
def qrD (z:Unit):TV×THp:=(.tv (.wa 8) ((((((((((Vector.replicate 8 0)).setIfInBounds 0 ((UInt32.ofNat 1779033703))).setIfInBounds 1 ((UInt32.ofNat 3144134277))).setIfInBounds 2 ((UInt32.ofNat 1013904242))).setIfInBounds 3 ((UInt32.ofNat 2773480762))).setIfInBounds 4 ((UInt32.ofNat 1359893119))).setIfInBounds 5 ((UInt32.ofNat 2600822924))).setIfInBounds 6 ((UInt32.ofNat 528734635))).setIfInBounds 7 ((UInt32.ofNat 1541459225)):Vector UInt32 8),[])
def qiv:Tree (Unit):=
 .chk (0 < 8) <|
 .chk (1 < 8) <|
 .chk (2 < 8) <|
 .chk (3 < 8) <|
 .chk (4 < 8) <|
 .chk (5 < 8) <|
 .chk (6 < 8) <|
 .chk (7 < 8) <|
 .ret ()
def qgf:Option (Unit):=(qiv).run some
def qq9:List (Nat×qO):=[]
def qiG:Ent:=smF ⟨112,[],[],[],[]⟩ [] (Unit) (fun x=>qgf) cs1 fun _=>qrD
theorem qp1:zn Tryz.prog (qiG):=
 zq (H:=qrK) (L:=qX (qq9)) (ts:=[]) (T:=fun x=>qiv) 0 quN (qnV 0) (qC (by kernel_rfl) trivial) (rg0 (by kernel_rfl)) fun x=>by kernel_rfl
noncomputable def qvt:Code:=Tryz.f113.body.getD .skip
theorem qvX:FnF Tryz.prog 113 Tryz.f113 qvt:=⟨qu,by kernel_rfl,by kernel_rfl,by kernel_rfl⟩
def qrO:TH:={ live:=[(0,[0]),(1,[0])] }
def qq4 (N:Nat):List Ent:=[]
theorem qnK (N:Nat):q9 Tryz.prog (qq4 N):=trivial
def qrn (z:Unit):TV×THp:=(.tv (.wa 64) ((((((((((((((((((((((((((((((((((((((((((((((((((((((((((((((((((Vector.replicate 64 0)).setIfInBounds 0 ((UInt32.ofNat 1116352408))).setIfInBounds 1 ((UInt32.ofNat 1899447441))).setIfInBounds 2 ((UInt32.ofNat 3049323471))).setIfInBounds 3 ((UInt32.ofNat 3921009573))).setIfInBounds 4 ((UInt32.ofNat 961987163))).setIfInBounds 5 ((UInt32.ofNat 1508970993))).setIfInBounds 6 ((UInt32.ofNat 2453635748))).setIfInBounds 7 ((UInt32.ofNat 2870763221))).setIfInBounds 8 ((UInt32.ofNat 3624381080))).setIfInBounds 9 ((UInt32.ofNat 310598401))).setIfInBounds 10 ((UInt32.ofNat 607225278))).setIfInBounds 11 ((UInt32.ofNat 1426881987))).setIfInBounds 12 ((UInt32.ofNat 1925078388))).setIfInBounds 13 ((UInt32.ofNat 2162078206))).setIfInBounds 14 ((UInt32.ofNat 2614888103))).setIfInBounds 15 ((UInt32.ofNat 3248222580))).setIfInBounds 16 ((UInt32.ofNat 3835390401))).setIfInBounds 17 ((UInt32.ofNat 4022224774))).setIfInBounds 18 ((UInt32.ofNat 264347078))).setIfInBounds 19 ((UInt32.ofNat 604807628))).setIfInBounds 20 ((UInt32.ofNat 770255983))).setIfInBounds 21 ((UInt32.ofNat 1249150122))).setIfInBounds 22 ((UInt32.ofNat 1555081692))).setIfInBounds 23 ((UInt32.ofNat 1996064986))).setIfInBounds 24 ((UInt32.ofNat 2554220882))).setIfInBounds 25 ((UInt32.ofNat 2821834349))).setIfInBounds 26 ((UInt32.ofNat 2952996808))).setIfInBounds 27 ((UInt32.ofNat 3210313671))).setIfInBounds 28 ((UInt32.ofNat 3336571891))).setIfInBounds 29 ((UInt32.ofNat 3584528711))).setIfInBounds 30 ((UInt32.ofNat 113926993))).setIfInBounds 31 ((UInt32.ofNat 338241895))).setIfInBounds 32 ((UInt32.ofNat 666307205))).setIfInBounds 33 ((UInt32.ofNat 773529912))).setIfInBounds 34 ((UInt32.ofNat 1294757372))).setIfInBounds 35 ((UInt32.ofNat 1396182291))).setIfInBounds 36 ((UInt32.ofNat 1695183700))).setIfInBounds 37 ((UInt32.ofNat 1986661051))).setIfInBounds 38 ((UInt32.ofNat 2177026350))).setIfInBounds 39 ((UInt32.ofNat 2456956037))).setIfInBounds 40 ((UInt32.ofNat 2730485921))).setIfInBounds 41 ((UInt32.ofNat 2820302411))).setIfInBounds 42 ((UInt32.ofNat 3259730800))).setIfInBounds 43 ((UInt32.ofNat 3345764771))).setIfInBounds 44 ((UInt32.ofNat 3516065817))).setIfInBounds 45 ((UInt32.ofNat 3600352804))).setIfInBounds 46 ((UInt32.ofNat 4094571909))).setIfInBounds 47 ((UInt32.ofNat 275423344))).setIfInBounds 48 ((UInt32.ofNat 430227734))).setIfInBounds 49 ((UInt32.ofNat 506948616))).setIfInBounds 50 ((UInt32.ofNat 659060556))).setIfInBounds 51 ((UInt32.ofNat 883997877))).setIfInBounds 52 ((UInt32.ofNat 958139571))).setIfInBounds 53 ((UInt32.ofNat 1322822218))).setIfInBounds 54 ((UInt32.ofNat 1537002063))).setIfInBounds 55 ((UInt32.ofNat 1747873779))).setIfInBounds 56 ((UInt32.ofNat 1955562222))).setIfInBounds 57 ((UInt32.ofNat 2024104815))).setIfInBounds 58 ((UInt32.ofNat 2227730452))).setIfInBounds 59 ((UInt32.ofNat 2361852424))).setIfInBounds 60 ((UInt32.ofNat 2428436474))).setIfInBounds 61 ((UInt32.ofNat 2756734187))).setIfInBounds 62 ((UInt32.ofNat 3204031479))).setIfInBounds 63 ((UInt32.ofNat 3329325298)):Vector UInt32 64),[])
def qiC:Tree (Unit):=
 .chk (0 < 64) <|
 .chk (1 < 64) <|
 .chk (2 < 64) <|
 .chk (3 < 64) <|
 .chk (4 < 64) <|
 .chk (5 < 64) <|
 .chk (6 < 64) <|
 .chk (7 < 64) <|
 .chk (8 < 64) <|
 .chk (9 < 64) <|
 .chk (10 < 64) <|
 .chk (11 < 64) <|
 .chk (12 < 64) <|
 .chk (13 < 64) <|
 .chk (14 < 64) <|
 .chk (15 < 64) <|
 .chk (16 < 64) <|
 .chk (17 < 64) <|
 .chk (18 < 64) <|
 .chk (19 < 64) <|
 .chk (20 < 64) <|
 .chk (21 < 64) <|
 .chk (22 < 64) <|
 .chk (23 < 64) <|
 .chk (24 < 64) <|
 .chk (25 < 64) <|
 .chk (26 < 64) <|
 .chk (27 < 64) <|
 .chk (28 < 64) <|
 .chk (29 < 64) <|
 .chk (30 < 64) <|
 .chk (31 < 64) <|
 .chk (32 < 64) <|
 .chk (33 < 64) <|
 .chk (34 < 64) <|
 .chk (35 < 64) <|
 .chk (36 < 64) <|
 .chk (37 < 64) <|
 .chk (38 < 64) <|
 .chk (39 < 64) <|
 .chk (40 < 64) <|
 .chk (41 < 64) <|
 .chk (42 < 64) <|
 .chk (43 < 64) <|
 .chk (44 < 64) <|
 .chk (45 < 64) <|
 .chk (46 < 64) <|
 .chk (47 < 64) <|
 .chk (48 < 64) <|
 .chk (49 < 64) <|
 .chk (50 < 64) <|
 .chk (51 < 64) <|
 .chk (52 < 64) <|
 .chk (53 < 64) <|
 .chk (54 < 64) <|
 .chk (55 < 64) <|
 .chk (56 < 64) <|
 .chk (57 < 64) <|
 .chk (58 < 64) <|
 .chk (59 < 64) <|
 .chk (60 < 64) <|
 .chk (61 < 64) <|
 .chk (62 < 64) <|
 .chk (63 < 64) <|
 .ret ()
def qfS:Option (Unit):=(qiC).run some
def qrC:List (Nat×qO):=[]
def qiJ:Ent:=smF ⟨113,[],[],[],[]⟩ [] (Unit) (fun x=>qfS) cs1 fun _=>qrn
theorem qo5:zn Tryz.prog (qiJ):=
 zq (H:=qrO) (L:=qX (qrC)) (ts:=[]) (T:=fun x=>qiC) 0 qvX (qnK 0) (qC (by kernel_rfl) trivial) (rg0 (by kernel_rfl)) fun x=>by kernel_rfl
noncomputable def qwa:Code:=Tryz.f145.body.getD .skip
theorem qvQ:FnF Tryz.prog 145 Tryz.f145 qwa:=⟨qu,by kernel_rfl,by kernel_rfl,by kernel_rfl⟩
def qaU:TH:={ live:=[(0,[0,1]),(1,[0,5]),(2,[4])] }
def qa3 (N:Nat):List Ent:=[]
theorem KZ (N:Nat):q9 Tryz.prog (qa3 N):=trivial
def qaZ (z:Int):TV×THp:=(.tv (.i .u32) z,[])
def Zc (a0:Int) (a1:Int):Tree (Int):=
 .chk (0≤(qa5 .u64 (IntKind.u64.wrap a1) 31)) <|
 let w1:Int:=Yx .u32 a0 (min (qa5 .u64 (IntKind.u64.wrap a1) 31).toNat 32)
 let w2:Int:=qz0 .u64 ((32:Int)) (qa5 .u64 (IntKind.u64.wrap a1) 31)
 .chk (0≤w2) <|
 .ret (uOr .u32 w1 (Wd a0 (min w2.toNat 32)))
def ZO (a0:Int) (a1:Int):Option (Int):=(Zc a0 a1).run some
def qbv:List (Nat×qO):=[]
def VB:Ent:=smF ⟨145,[],[.x (.i .u32),.x (.i .i64)],[],[]⟩ [(.i .u32),(.i .i64)] (Int) (fun x=>ZO x.1 x.2.1) cs1 fun _=>qaZ
theorem qap:zn Tryz.prog (VB):=
 zq (H:=qaU) (L:=qX (qbv)) (ts:=[(.i .u32),(.i .i64)]) (T:=fun x=>Zc x.1 x.2.1) 0 qvQ (KZ 0) (qC (by kernel_rfl) trivial) (rg0 (by kernel_rfl)) fun x=>by kernel_rfl
noncomputable def qvo:Code:=Tryz.f136.body.getD .skip
theorem quD:FnF Tryz.prog 136 Tryz.f136 qvo:=⟨qu,by kernel_rfl,by kernel_rfl,by kernel_rfl⟩
def qrN:TH:={ live:=[(0,[0,1]),(1,[4])] }
def qre (N:Nat):List Ent:=[VB]
theorem qot (N:Nat):q9 Tryz.prog (qre N):=⟨qap,trivial⟩
def qrv (z:Int):TV×THp:=(.tv (.i .u32) z,[])
def qcr (a0:Int) (a1:Int):Tree (Int):=
 .chk (qx (0 - a1)) <|
 .bind (ZO a0 (0 - a1)) fun r1=>
 .ret r1
def zy (a0:Int) (a1:Int):Option (Int):=(qcr a0 a1).run some
def qrs:List (Nat×qO):=[]
def qcX:Ent:=smF ⟨136,[],[.x (.i .u32),.x (.i .i64)],[],[]⟩ [(.i .u32),(.i .i64)] (Int) (fun x=>zy x.1 x.2.1) cs1 fun _=>qrv
theorem qfJ:zn Tryz.prog (qcX):=
 zq (H:=qrN) (L:=qX (qrs)) (ts:=[(.i .u32),(.i .i64)]) (T:=fun x=>qcr x.1 x.2.1) 0 quD (qot 0) (qC (by kernel_rfl) trivial) (rg0 (by kernel_rfl)) fun x=>by kernel_rfl
noncomputable def qgH:Code:=Tryz.f135.body.getD .skip
theorem qvm:FnF Tryz.prog 135 Tryz.f135 qgH:=⟨qu,by kernel_rfl,by kernel_rfl,by kernel_rfl⟩
def Y7:TH:={ live:=[(0,[0,2]),(1,[0,2,3]),(2,[0,2,3,7]),(3,[0,2,3,7,8]),(4,[0,2,3,4,7]),(5,[0,2,3,4,7,11]),(6,[0,2,3,7]),(7,[0,2,3,4,5,6,7]),(8,[0,2,3,7]),(9,[0,2,3,7]),(10,[2])] }
def qdf (N:Nat):List Ent:=[qcX]
theorem qa8 (N:Nat):q9 Tryz.prog (qdf N):=⟨qfJ,trivial⟩
abbrev ZU:=Vector UInt32 64×List UInt8
abbrev vK:=Vector UInt32 64×Int×Bool
def QG (f:ZU) (y:vK):Ex×TSt:=(.exit 0,⟨0,86,[],[(0,.tv .bl f.2),(2,.p 20 [] 0),(3,.p 30 [] 0),(7,xi y.2.1),(8,xb y.2.2)],[(20,.cell false (.tv (.wa 64) f.1)),(30,.cell false (.tv (.wa 64) (y.1:Vector UInt32 64)))],false,[]⟩)
def qh_ (N:Nat):List (Nat×qO):=[]
abbrev QH:=Vector UInt32 64×Int
def qaf:SP:=⟨0,86,[],[(0,.x .bl),(2,.k (.p 20 [] 0)),(3,.k (.p 30 [] 0)),(7,.x (.i .i64))],[(20,.cell false (.x (.wa 64))),(30,.cell false (.x (.wa 64)))],false,[]⟩
def qh1 (f:ZU) (v:QH):TSt:=jC qaf [dv (.wa 64) f.1,dv (.wa 64) v.1,dv .bl f.2,dv (.i .i64) v.2]
def jL (N:Nat) (o_3:Vector UInt32 64) (s0_3:List UInt8) (v:QH):Tree (QH⊕vK):=
 .cond (decide (v.2 < ((64:Int)))) (
 .cond (decide (v.2 < ((16:Int)))) (
 .chk (qx (((4:Int)) * v.2)) <|
 .bind (zk s0_3 (((4:Int)) * v.2)) fun e1=>
 let w2:Int:=IntKind.u32.wrap ((e1.toNat:Nat):Int)
 .chk (0≤(24:Int)) <|
 .chk (qx (((4:Int)) * v.2)) <|
 .chk (qx ((((4:Int)) * v.2) + 1)) <|
 .bind (zk s0_3 ((((4:Int)) * v.2) + 1)) fun e3=>
 let w4:Int:=IntKind.u32.wrap ((e3.toNat:Nat):Int)
 .chk (0≤(16:Int)) <|
 let w5:Int:=uOr .u32 (Yx .u32 w2 24) (Yx .u32 w4 16)
 .chk (qx (((4:Int)) * v.2)) <|
 .chk (qx ((((4:Int)) * v.2) + 2)) <|
 .bind (zk s0_3 ((((4:Int)) * v.2) + 2)) fun e6=>
 let w7:Int:=IntKind.u32.wrap ((e6.toNat:Nat):Int)
 .chk (0≤(8:Int)) <|
 .chk (qx (((4:Int)) * v.2)) <|
 .chk (qx ((((4:Int)) * v.2) + 3)) <|
 .bind (zk s0_3 ((((4:Int)) * v.2) + 3)) fun e8=>
 let w9:Int:=IntKind.u32.wrap ((e8.toNat:Nat):Int)
 let w10:Int:=uOr .u32 (uOr .u32 w5 (Yx .u32 w7 8)) w9
 .chk (0≤v.2∧v.2 < ((64:Nat):Int)) <|
 .chk (inW w10) <|
 .chk (v.2.toNat < 64) <|
 .chk (qx (v.2 + 1)) <|
 .ret (.inl (v.1.setIfInBounds v.2.toNat (UInt32.ofNat w10.toNat),v.2 + 1))) <|
 .chk (qx (v.2 - 15)) <|
 .chk (0≤(v.2 - 15)∧(v.2 - 15) < ((64:Nat):Int)) <|
 .chk ((v.2 - 15).toNat < 64) <|
 .chk (qx (v.2 - 2)) <|
 .chk (0≤(v.2 - 2)∧(v.2 - 2) < ((64:Nat):Int)) <|
 .chk ((v.2 - 2).toNat < 64) <|
 .chk (qx (v.2 - 16)) <|
 .chk (0≤(v.2 - 16)∧(v.2 - 16) < ((64:Nat):Int)) <|
 .chk ((v.2 - 16).toNat < 64) <|
 .chk (qx (v.2 - 7)) <|
 .chk (0≤(v.2 - 7)∧(v.2 - 7) < ((64:Nat):Int)) <|
 .chk ((v.2 - 7).toNat < 64) <|
 let w1:Int:=ZG .u32 (((v.1.toList.getD ((v.2 - 16).toNat) 0).toNat:Nat):Int) (((v.1.toList.getD ((v.2 - 7).toNat) 0).toNat:Nat):Int)
 .bind (zy (((v.1.toList.getD ((v.2 - 15).toNat) 0).toNat:Nat):Int) 7) fun r2=>
 .bind (zy (((v.1.toList.getD ((v.2 - 15).toNat) 0).toNat:Nat):Int) 18) fun r3=>
 .chk (0≤(3:Int)) <|
 let w4:Int:=Wd (((v.1.toList.getD ((v.2 - 15).toNat) 0).toNat:Nat):Int) 3
 let w5:Int:=ZG .u32 w1 (We .u32 (We .u32 r2 r3) w4)
 .bind (zy (((v.1.toList.getD ((v.2 - 2).toNat) 0).toNat:Nat):Int) 17) fun r6=>
 .bind (zy (((v.1.toList.getD ((v.2 - 2).toNat) 0).toNat:Nat):Int) 19) fun r7=>
 .chk (0≤(10:Int)) <|
 let w8:Int:=Wd (((v.1.toList.getD ((v.2 - 2).toNat) 0).toNat:Nat):Int) 10
 let w9:Int:=ZG .u32 w5 (We .u32 (We .u32 r6 r7) w8)
 .chk (0≤v.2∧v.2 < ((64:Nat):Int)) <|
 .chk (inW w9) <|
 .chk (v.2.toNat < 64) <|
 .chk (qx (v.2 + 1)) <|
 .ret (.inl (v.1.setIfInBounds v.2.toNat (UInt32.ofNat w9.toNat),v.2 + 1))) <|
 .ret (.inr (v.1,v.2,decide (v.2 < ((64:Int)))))
def K8 (N n:Nat) (f:ZU) (v:QH):Option vK:=zi (jL N f.1 f.2) some n v
theorem qhR (N:Nat) (f:ZU) (n:Nat) (v:QH) (y:vK) (h:K8 N n f v=some y):LG Tryz.prog Y7 135 (zd qgH 3) (qh1 f v) (QG f y):=
 jc qu (E:=qdf N) (L:=qX (qh_ N)) (st:=QG f) (g:=some) (R:=QG f) (qa8 N) (qC (by kernel_rfl) trivial) (rg0 (by kernel_rfl)) (fun v=>by kernel_rfl) (zo (st:=QG f) fun y=>by rfl) n v y h
def WG (N:Nat) (o_3:Vector UInt32 64) (s0_3:List UInt8) (o_3_2:Vector UInt32 64) (s7_3:Int):Option vK:=K8 N N (o_3,s0_3) (o_3_2,s7_3)
def qae (N:Nat):qO:=smL qaf [(.wa 64),(.wa 64),.bl,(.i .i64)] vK (fun x=>WG N x.1 x.2.2.1 x.2.1 x.2.2.2.1) cs1 fun x=>QG (x.1,x.2.2.1)
theorem qgq (N:Nat):v5 Tryz.prog Y7 135 (zd qgH 3) (qae N):=jx fun x z h=>qhR N (x.1,x.2.2.1) N (x.2.1,x.2.2.2.1) z h
def qmx (z:Vector UInt32 64):TV×THp:=(.tv (.wa 64) z,[])
def YF (N:Nat) (a0:List UInt8):Tree (Vector UInt32 64):=
 .bind (WG N ((Vector.replicate 64 0)) a0 ((Vector.replicate 64 0)) 0) fun z1=>
 .ret z1.1
def Yk (N:Nat) (a0:List UInt8):Option (Vector UInt32 64):=(YF N a0).run some
def qmp (N:Nat):List (Nat×qO):=[(3,qae N)]
def qdo (N:Nat):Ent:=smF ⟨135,[],[.x .bl],[],[]⟩ [.bl] (Vector UInt32 64) (fun x=>Yk N x.1) cs1 fun _=>qmx
theorem qlu (N:Nat):zn Tryz.prog (qdo N):=
 zq (H:=Y7) (L:=qX (qmp N)) (ts:=[.bl]) (T:=fun x=>YF N x.1) 0 qvm (qa8 N) (qC (by kernel_rfl) ⟨qgq N,trivial⟩) (rg0 (by kernel_rfl)) fun x=>by kernel_rfl
noncomputable def Kr:Code:=Tryz.f114.body.getD .skip
theorem quZ:FnF Tryz.prog 114 Tryz.f114 Kr:=⟨qu,by kernel_rfl,by kernel_rfl,by kernel_rfl⟩
def Zd:TH:={ live:=[(0,[0,2,6]),(1,[0,2,6,7]),(2,[0,2,6,7,19]),(3,[0,2,6,7,19,20]),(4,[0,2,6,7,8,19]),(5,[0,2,6,7,8,9,10,19]),(6,[0,2,6,7,9,11,19]),(7,[0,2,6,7,11,12,19]),(8,[0,2,6,7,11,12,19]),(9,[0,2,6,7,11,19]),(10,[0,2,6,7,19]),(11,[0,2,6,7,19]),(12,[0,7,95]),(13,[0,7,95,96]),(14,[0,7,13,95]),(15,[0,7,95]),(16,[0,7,95])] }
def Wg (N:Nat):List Ent:=[qdo N,qcX]
theorem VN (N:Nat):q9 Tryz.prog (Wg N):=⟨qlu N,qfJ,trivial⟩
abbrev Zf:=Vector UInt32 8×Vector UInt32 64×Vector UInt32 64
abbrev jT:=Vector UInt32 8×Int×Bool
def vT (f:Zf) (y:jT):Ex×TSt:=(.exit 0,⟨1,110,[50,60],[(0,.p 50 [] 0),(2,.p 60 [] 0),(6,.p 100060 [] 0),(7,.p 100070 [] 0),(19,xi y.2.1),(20,xb y.2.2)],[(50,.cell false (.tv (.wa 8) f.1)),(60,.cell false (.tv (.wa 64) f.2.1)),(100060,.cell false (.tv (.wa 64) f.2.2)),(100070,.cell false (.tv (.wa 8) (y.1:Vector UInt32 8)))],false,[]⟩)
def qfr (N:Nat):List (Nat×qO):=[]
abbrev vX:=Vector UInt32 8×Int
def YB:SP:=⟨1,110,[50,60],[(0,.k (.p 50 [] 0)),(2,.k (.p 60 [] 0)),(6,.k (.p 100060 [] 0)),(7,.k (.p 100070 [] 0)),(19,.x (.i .i64))],[(50,.cell false (.x (.wa 8))),(60,.cell false (.x (.wa 64))),(100060,.cell false (.x (.wa 64))),(100070,.cell false (.x (.wa 8)))],false,[]⟩
def qfq (f:Zf) (v:vX):TSt:=jC YB [dv (.wa 8) f.1,dv (.wa 64) f.2.1,dv (.wa 64) f.2.2,dv (.wa 8) v.1,dv (.i .i64) v.2]
def vU (N:Nat) (o_3:Vector UInt32 8) (o_3_2:Vector UInt32 64) (o_3_3:Vector UInt32 64) (v:vX):Tree (vX⊕jT):=
 .cond (decide (v.2 < ((64:Int)))) (
 .chk (0≤(0:Int)∧(0:Int) < ((8:Nat):Int)) <|
 .chk (0 < 8) <|
 .chk (0≤(4:Int)∧(4:Int) < ((8:Nat):Int)) <|
 .chk (4 < 8) <|
 .chk (0≤(7:Int)∧(7:Int) < ((8:Nat):Int)) <|
 .chk (7 < 8) <|
 .bind (zy (((v.1.toList.getD 4 0).toNat:Nat):Int) 6) fun r1=>
 .bind (zy (((v.1.toList.getD 4 0).toNat:Nat):Int) 11) fun r2=>
 .bind (zy (((v.1.toList.getD 4 0).toNat:Nat):Int) 25) fun r3=>
 let w4:Int:=ZG .u32 (((v.1.toList.getD 7 0).toNat:Nat):Int) (We .u32 (We .u32 r1 r2) r3)
 .chk (0≤(5:Int)∧(5:Int) < ((8:Nat):Int)) <|
 .chk (5 < 8) <|
 let w5:Int:=qa5 .u32 (((v.1.toList.getD 4 0).toNat:Nat):Int) (((v.1.toList.getD 5 0).toNat:Nat):Int)
 let w6:Int:=We .u32 (4294967295) (((v.1.toList.getD 4 0).toNat:Nat):Int)
 .chk (0≤(6:Int)∧(6:Int) < ((8:Nat):Int)) <|
 .chk (6 < 8) <|
 let w7:Int:=qa5 .u32 w6 (((v.1.toList.getD 6 0).toNat:Nat):Int)
 .chk (0≤v.2∧v.2 < ((64:Nat):Int)) <|
 .chk (v.2.toNat < 64) <|
 let w8:Int:=ZG .u32 (ZG .u32 w4 (We .u32 w5 w7)) (((o_3_2.toList.getD v.2.toNat 0).toNat:Nat):Int)
 .chk (0≤v.2∧v.2 < ((64:Nat):Int)) <|
 .chk (v.2.toNat < 64) <|
 let w9:Int:=ZG .u32 w8 (((o_3_3.toList.getD v.2.toNat 0).toNat:Nat):Int)
 .bind (zy (((v.1.toList.getD 0 0).toNat:Nat):Int) 2) fun r10=>
 .bind (zy (((v.1.toList.getD 0 0).toNat:Nat):Int) 13) fun r11=>
 .bind (zy (((v.1.toList.getD 0 0).toNat:Nat):Int) 22) fun r12=>
 .chk (0≤(1:Int)∧(1:Int) < ((8:Nat):Int)) <|
 .chk (1 < 8) <|
 let w13:Int:=qa5 .u32 (((v.1.toList.getD 0 0).toNat:Nat):Int) (((v.1.toList.getD 1 0).toNat:Nat):Int)
 .chk (0≤(2:Int)∧(2:Int) < ((8:Nat):Int)) <|
 .chk (2 < 8) <|
 let w14:Int:=qa5 .u32 (((v.1.toList.getD 0 0).toNat:Nat):Int) (((v.1.toList.getD 2 0).toNat:Nat):Int)
 .chk (0≤(1:Int)∧(1:Int) < ((8:Nat):Int)) <|
 .chk (1 < 8) <|
 .chk (0≤(2:Int)∧(2:Int) < ((8:Nat):Int)) <|
 .chk (2 < 8) <|
 let w15:Int:=qa5 .u32 (((v.1.toList.getD 1 0).toNat:Nat):Int) (((v.1.toList.getD 2 0).toNat:Nat):Int)
 let w16:Int:=ZG .u32 (We .u32 (We .u32 r10 r11) r12) (We .u32 (We .u32 w13 w14) w15)
 .chk (0≤(0:Int)∧(0:Int) < ((8:Nat):Int)) <|
 .chk (inW (ZG .u32 w9 w16)) <|
 .chk (0 < 8) <|
 .chk (0≤(4:Int)∧(4:Int) < ((8:Nat):Int)) <|
 .chk (4 < 8) <|
 let w17:Int:=ZG .u32 (((((JY v.1 1 7).setIfInBounds 0 (UInt32.ofNat (ZG .u32 w9 w16).toNat)).toList.getD 4 0).toNat:Nat):Int) w9
 .chk (0≤(4:Int)∧(4:Int) < ((8:Nat):Int)) <|
 .chk (inW w17) <|
 .chk (4 < 8) <|
 .chk (qx (v.2 + 1)) <|
 .ret (.inl (((JY v.1 1 7).setIfInBounds 0 (UInt32.ofNat (ZG .u32 w9 w16).toNat)).setIfInBounds 4 (UInt32.ofNat w17.toNat),v.2 + 1))) <|
 .ret (.inr (v.1,v.2,decide (v.2 < ((64:Int)))))
def YD (N n:Nat) (f:Zf) (v:vX):Option jT:=zi (vU N f.1 f.2.1 f.2.2) some n v
theorem qfs (N:Nat) (f:Zf) (n:Nat) (v:vX) (y:jT) (h:YD N n f v=some y):LG Tryz.prog Zd 114 (zd Kr 3) (qfq f v) (vT f y):=
 jc qu (E:=Wg N) (L:=qX (qfr N)) (st:=vT f) (g:=some) (R:=vT f) (VN N) (qC (by kernel_rfl) trivial) (rg0 (by kernel_rfl)) (fun v=>by kernel_rfl) (zo (st:=vT f) fun y=>by rfl) n v y h
def Xt (N:Nat) (o_3:Vector UInt32 8) (o_3_2:Vector UInt32 64) (o_3_3:Vector UInt32 64) (o_3_4:Vector UInt32 8) (s19_3:Int):Option jT:=YD N N (o_3,o_3_2,o_3_3) (o_3_4,s19_3)
def YE (N:Nat):qO:=smL YB [(.wa 8),(.wa 64),(.wa 64),(.wa 8),(.i .i64)] jT (fun x=>Xt N x.1 x.2.1 x.2.2.1 x.2.2.2.1 x.2.2.2.2.1) cs1 fun x=>vT (x.1,x.2.1,x.2.2.1)
theorem qd3 (N:Nat):v5 Tryz.prog Zd 114 (zd Kr 3) (YE N):=jx fun x z h=>qfs N (x.1,x.2.1,x.2.2.1) N (x.2.2.2.1,x.2.2.2.2.1) z h
abbrev QQ:=Vector UInt32 64×Vector UInt32 8
abbrev jH:=Vector UInt32 8×Int×Bool
def vG (f:QQ) (y:jH):Ex×TSt:=(.exit 2,⟨1,110,[50,60],[(0,.p 50 [] 0),(7,.p 100070 [] 0),(95,xi y.2.1),(96,xb y.2.2)],[(50,.cell false (.tv (.wa 8) (y.1:Vector UInt32 8))),(60,.cell false (.tv (.wa 64) f.1)),(100070,.cell false (.tv (.wa 8) f.2))],false,[]⟩)
def qeB (N:Nat):List (Nat×qO):=[]
abbrev vA:=Vector UInt32 8×Int
def W7:SP:=⟨1,110,[50,60],[(0,.k (.p 50 [] 0)),(7,.k (.p 100070 [] 0)),(95,.x (.i .i64))],[(50,.cell false (.x (.wa 8))),(60,.cell false (.x (.wa 64))),(100070,.cell false (.x (.wa 8)))],false,[]⟩
def qeO (f:QQ) (v:vA):TSt:=jC W7 [dv (.wa 8) v.1,dv (.wa 64) f.1,dv (.wa 8) f.2,dv (.i .i64) v.2]
def QM (N:Nat) (o_13_2:Vector UInt32 64) (o_13_3:Vector UInt32 8) (v:vA):Tree (vA⊕jH):=
 .cond (decide (v.2 < ((8:Int)))) (
 .chk (0≤v.2∧v.2 < ((8:Nat):Int)) <|
 .chk (v.2.toNat < 8) <|
 .chk (0≤v.2∧v.2 < ((8:Nat):Int)) <|
 .chk (v.2.toNat < 8) <|
 let w1:Int:=ZG .u32 (((v.1.toList.getD v.2.toNat 0).toNat:Nat):Int) (((o_13_3.toList.getD v.2.toNat 0).toNat:Nat):Int)
 .chk (0≤v.2∧v.2 < ((8:Nat):Int)) <|
 .chk (inW w1) <|
 .chk (v.2.toNat < 8) <|
 .chk (qx (v.2 + 1)) <|
 .ret (.inl (v.1.setIfInBounds v.2.toNat (UInt32.ofNat w1.toNat),v.2 + 1))) <|
 .ret (.inr (v.1,v.2,decide (v.2 < ((8:Int)))))
def WM (N n:Nat) (f:QQ) (v:vA):Option jH:=zi (QM N f.1 f.2) some n v
theorem qd4 (N:Nat) (f:QQ) (n:Nat) (v:vA) (y:jH) (h:WM N n f v=some y):LG Tryz.prog Zd 114 (zd Kr 13) (qeO f v) (vG f y):=
 jc qu (E:=Wg N) (L:=qX (qeB N)) (st:=vG f) (g:=some) (R:=vG f) (VN N) (qC (by kernel_rfl) trivial) (rg0 (by kernel_rfl)) (fun v=>by kernel_rfl) (zo (st:=vG f) fun y=>by rfl) n v y h
def VO (N:Nat) (o_13_2:Vector UInt32 64) (o_13_3:Vector UInt32 8) (o_13:Vector UInt32 8) (s95_13:Int):Option jH:=WM N N (o_13_2,o_13_3) (o_13,s95_13)
def W8 (N:Nat):qO:=smL W7 [(.wa 8),(.wa 64),(.wa 8),(.i .i64)] jH (fun x=>VO N x.2.1 x.2.2.1 x.1 x.2.2.2.1) cs1 fun x=>vG (x.2.1,x.2.2.1)
theorem qdr (N:Nat):v5 Tryz.prog Zd 114 (zd Kr 13) (W8 N):=jx fun x z h=>qd4 N (x.2.1,x.2.2.1) N (x.1,x.2.2.2.1) z h
def qjA (a1:Vector UInt32 64) (z:Vector UInt32 8):TV×THp:=(.tup [],[(50,.cell false (.tv (.wa 8) z)),(60,.cell false (.tv (.wa 64) a1))])
def Wm (N:Nat) (a0:Vector UInt32 8) (a1:Vector UInt32 64) (a2:List UInt8):Tree (Vector UInt32 8):=
 .bind (Yk N a2) fun r1=>
 .bind (Xt N a0 a1 r1 a0 0) fun z2=>
 .bind (VO N a1 z2.1 a0 0) fun z3=>
 .ret z3.1
def Jd (N:Nat) (a0:Vector UInt32 8) (a1:Vector UInt32 64) (a2:List UInt8):Option (Vector UInt32 8):=(Wm N a0 a1 a2).run some
def qi7 (N:Nat):List (Nat×qO):=[(3,YE N),(13,W8 N)]
def qaO (N:Nat):Ent:=smF ⟨114,[],[.k (.p 50 [] 0),.x .bl,.k (.p 60 [] 0)],[],[(50,.cell false (.x (.wa 8))),(60,.cell false (.x (.wa 64)))]⟩ [(.wa 8),(.wa 64),.bl] (Vector UInt32 8) (fun x=>Jd N x.1 x.2.1 x.2.2.1) cs1 fun x=>qjA x.2.1
theorem qia (N:Nat):zn Tryz.prog (qaO N):=
 zq (H:=Zd) (L:=qX (qi7 N)) (ts:=[(.wa 8),(.wa 64),.bl]) (T:=fun x=>Wm N x.1 x.2.1 x.2.2.1) 0 quZ (VN N) (qC (by kernel_rfl) ⟨qd3 N,qdr N,trivial⟩) (rg0 (by kernel_rfl)) fun x=>by kernel_rfl
noncomputable def ZP:Code:=Tryz.f85.body.getD .skip
theorem qx5:FnF Tryz.prog 85 Tryz.f85 ZP:=⟨qu,by kernel_rfl,by kernel_rfl,by kernel_rfl⟩
def QR:TH:={ live:=[(0,[0,2]),(1,[0,2,3]),(2,[0,2,3,16]),(3,[0,2,3]),(4,[0,2,3,20]),(5,[0,2,3,20,21]),(6,[0,2,3,4,20]),(7,[0,2,3,20]),(8,[0,2,3,20]),(9,[2,3,5,6]),(10,[2,3,5,6,40]),(11,[2,3,5,6]),(12,[2,3,5,6]),(13,[2,5,7]),(14,[2,5,7,46]),(15,[2,5,7,46,47]),(16,[2,5,7,8,46]),(17,[2,5,7,46]),(18,[2,5,7,46]),(19,[2])],fresh:=[10] }
def Wv (N:Nat):List Ent:=[qde,qiG,qiJ,qaO N]
theorem Vf (N:Nat):q9 Tryz.prog (Wv N):=⟨qkJ,qp1,qo5,qia N,trivial⟩
abbrev W5:=Vector UInt8 32×List UInt8
abbrev Z3:=List UInt8×Bool
def VU (f:W5) (y:Z3):Ex×TSt:=(.exit 0,⟨0,63,[],[(0,.tv .bl f.2),(2,.p 20 [] 0),(3,.v 100050 y.1.length),(16,xb y.2)],[(20,.cell false (.tv (.ba 32) f.1)),(100050,.vec false 1 .bl (y.1:List UInt8))],false,[]⟩)
def qpg (N:Nat):List (Nat×qO):=[]
abbrev VS:=List UInt8
def qfI:SP:=⟨0,63,[],[(0,.x .bl),(2,.k (.p 20 [] 0)),(3,.vs 100050)],[(20,.cell false (.x (.ba 32))),(100050,.vec false 1)],false,[]⟩
def qpG (f:W5) (v:VS):TSt:=jC qfI [dv .bl v,dv (.ba 32) f.1,dv .bl f.2]
def Vw (N:Nat) (o_2_2:Vector UInt8 32) (s0_2:List UInt8) (v:VS):Tree (VS⊕Z3):=
 .chk ((64:Int)≠0) <|
 .cond (!decide ((((v.length:Nat):Int).tmod 64)=56)) (
 .chk (jI v.length v.length ((v++[(UInt8.ofNat 0)]).length) 1) <|
 .ret (.inl (v++[(UInt8.ofNat 0)]))) <|
 .ret (.inr (v,!decide ((((v.length:Nat):Int).tmod 64)=56)))
def qgc (N n:Nat) (f:W5) (v:VS):Option Z3:=zi (Vw N f.1 f.2) some n v
theorem qoT (N:Nat) (f:W5) (n:Nat) (v:VS) (y:Z3) (h:qgc N n f v=some y):LG Tryz.prog QR 85 (zd ZP 2) (qpG f v) (VU f y):=
 jc qu (E:=Wv N) (L:=qX (qpg N)) (st:=VU f) (g:=some) (R:=VU f) (Vf N) (qC (by kernel_rfl) trivial) (rg0 (by kernel_rfl)) (fun v=>by kernel_rfl) (zo (st:=VU f) fun y=>by rfl) n v y h
def qay (N:Nat) (o_2_2:Vector UInt8 32) (s0_2:List UInt8) (o_2:List UInt8):Option Z3:=qgc N N (o_2_2,s0_2) o_2
def qga (N:Nat):qO:=smL qfI [.bl,(.ba 32),.bl] Z3 (fun x=>qay N x.2.1 x.2.2.1 x.1) cs1 fun x=>VU (x.2.1,x.2.2.1)
theorem qnU (N:Nat):v5 Tryz.prog QR 85 (zd ZP 2) (qga N):=jx fun x z h=>qoT N (x.2.1,x.2.2.1) N x.1 z h
abbrev WL:=Vector UInt8 32×List UInt8
abbrev Z0:=List UInt8×Int×Bool
def VA (f:WL) (y:Z0):Ex×TSt:=(.exit 2,⟨0,63,[],[(0,.tv .bl f.2),(2,.p 20 [] 0),(3,.v 100050 y.1.length),(20,xi y.2.1),(21,xb y.2.2)],[(20,.cell false (.tv (.ba 32) f.1)),(100050,.vec false 1 .bl (y.1:List UInt8))],false,[]⟩)
def qpK (N:Nat):List (Nat×qO):=[]
abbrev VJ:=List UInt8×Int
def qhc:SP:=⟨0,63,[],[(0,.x .bl),(2,.k (.p 20 [] 0)),(3,.vs 100050),(20,.x (.i .i64))],[(20,.cell false (.x (.ba 32))),(100050,.vec false 1)],false,[]⟩
def qpR (f:WL) (v:VJ):TSt:=jC qhc [dv .bl v.1,dv (.ba 32) f.1,dv .bl f.2,dv (.i .i64) v.2]
def Yz (N:Nat) (o_5_2:Vector UInt8 32) (s0_5:List UInt8) (v:VJ):Tree (VJ⊕Z0):=
 .cond (decide (v.2 < ((8:Int)))) (
 let w1:Int:=IntKind.u64.wrap ((s0_5.length:Nat):Int)
 .chk (qx (((7:Int)) - v.2)) <|
 .chk (qx (((8:Int)) * (((7:Int)) - v.2))) <|
 .chk (0≤(((8:Int)) * (((7:Int)) - v.2))) <|
 let w2:Int:=Wd (qz2 .u64 w1 8) (min (((8:Int)) * (((7:Int)) - v.2)).toNat 64)
 .chk (inB (IntKind.u8.wrap w2)) <|
 .chk (jI v.1.length v.1.length ((v.1++[UInt8.ofNat (IntKind.u8.wrap w2).toNat]).length) 1) <|
 .chk (qx (v.2 + 1)) <|
 .ret (.inl (v.1++[UInt8.ofNat (IntKind.u8.wrap w2).toNat],v.2 + 1))) <|
 .ret (.inr (v.1,v.2,decide (v.2 < ((8:Int)))))
def qha (N n:Nat) (f:WL) (v:VJ):Option Z0:=zi (Yz N f.1 f.2) some n v
theorem qpc (N:Nat) (f:WL) (n:Nat) (v:VJ) (y:Z0) (h:qha N n f v=some y):LG Tryz.prog QR 85 (zd ZP 5) (qpR f v) (VA f y):=
 jc qu (E:=Wv N) (L:=qX (qpK N)) (st:=VA f) (g:=some) (R:=VA f) (Vf N) (qC (by kernel_rfl) trivial) (rg0 (by kernel_rfl)) (fun v=>by kernel_rfl) (zo (st:=VA f) fun y=>by rfl) n v y h
def qdR (N:Nat) (o_5_2:Vector UInt8 32) (s0_5:List UInt8) (o_5:List UInt8) (s20_5:Int):Option Z0:=qha N N (o_5_2,s0_5) (o_5,s20_5)
def qf7 (N:Nat):qO:=smL qhc [.bl,(.ba 32),.bl,(.i .i64)] Z0 (fun x=>qdR N x.2.1 x.2.2.1 x.1 x.2.2.2.1) cs1 fun x=>VA (x.2.1,x.2.2.1)
theorem qoh (N:Nat):v5 Tryz.prog QR 85 (zd ZP 5) (qf7 N):=jx fun x z h=>qpc N (x.2.1,x.2.2.1) N (x.1,x.2.2.2.1) z h
abbrev jX:=List UInt8×Vector UInt8 32×Vector UInt32 8×Vector UInt32 64
abbrev jG:=Unit⊕(Vector UInt32 8×List UInt8×Bool)
def j9 (f:jX):jG→Ex×TSt
 | .inl y=>(.exit 4,⟨0,63,[],[(2,.p 20 [] 0),(3,.v 100050 f.1.length),(5,.p 50 [] 0),(6,.p 60 [] 0),(40,xb (decide (((0:Int)) < ((f.1.length:Nat):Int))))],[(20,.cell false (.tv (.ba 32) f.2.1)),(50,.cell false (.tv (.wa 8) f.2.2.1)),(60,.cell false (.tv (.wa 64) f.2.2.2)),(100050,.vec false 1 .bl f.1)],false,[]⟩)
 | .inr y=>(.exit 4,⟨0,63,[],[(2,.p 20 [] 0),(3,.tv .bl (y.2.1:List UInt8)),(5,.p 50 [] 0),(6,.p 60 [] 0),(40,xb y.2.2)],[(20,.cell false (.tv (.ba 32) f.2.1)),(50,.cell false (.tv (.wa 8) (y.1:Vector UInt32 8))),(60,.cell false (.tv (.wa 64) f.2.2.2))],false,[]⟩)
def qe4 (N:Nat):List (Nat×qO):=[]
abbrev Qb:=Vector UInt32 8×List UInt8
def qjO:SP:=⟨0,63,[],[(2,.k (.p 20 [] 0)),(3,.x .bl),(5,.k (.p 50 [] 0)),(6,.k (.p 60 [] 0))],[(20,.cell false (.x (.ba 32))),(50,.cell false (.x (.wa 8))),(60,.cell false (.x (.wa 64)))],false,[]⟩
def qaK (f:jX) (v:Qb):TSt:=jC qjO [dv (.ba 32) f.2.1,dv (.wa 8) v.1,dv (.wa 64) f.2.2.2,dv .bl v.2]
def Jv (N:Nat) (o_10:List UInt8) (o_10_2:Vector UInt8 32) (o_10_3:Vector UInt32 8) (o_10_4:Vector UInt32 64) (v:Qb):Tree (Qb⊕jG):=
 .cond (decide (((0:Int)) < ((v.2.length:Nat):Int))) (
 .chk (0≤(0:Int)∧(0:Int)≤(64:Int)∧(64:Int)≤((v.2.length:Nat):Int)) <|
 .bind (Jd N v.1 o_10_4 ((v.2.take 64).drop 0)) fun r1=>
 .chk (0≤(64:Int)∧(64:Int)≤((v.2.length:Nat):Int)) <|
 .ret (.inl (r1,v.2.drop 64))) <|
 .ret (.inr (.inr ((v.1,v.2,decide (((0:Int)) < ((v.2.length:Nat):Int))))))
def qa7 (N n:Nat) (f:jX) (v:Qb):Option jG:=zi (Jv N f.1 f.2.1 f.2.2.1 f.2.2.2) some n v
theorem qiU (N:Nat) (f:jX) (n:Nat) (v:Qb) (y:jG) (h:qa7 N n f v=some y):LG Tryz.prog QR 85 (zd ZP 10) (qaK f v) (j9 f y):=
 jc qu (E:=Wv N) (L:=qX (qe4 N)) (st:=j9 f) (g:=some) (R:=j9 f) (Vf N) (qC (by kernel_rfl) trivial) (rg0 (by kernel_rfl)) (fun v=>by kernel_rfl) (zo (st:=j9 f) fun y=>by rcases y with _ | _<;>rfl) n v y h
abbrev JN:=Unit
def qfb:SP:=⟨0,63,[],[(2,.k (.p 20 [] 0)),(3,.vs 100050),(5,.k (.p 50 [] 0)),(6,.k (.p 60 [] 0))],[(20,.cell false (.x (.ba 32))),(50,.cell false (.x (.wa 8))),(60,.cell false (.x (.wa 64))),(100050,.vec false 1)],false,[]⟩
def qnM (f:jX) (v:JN):TSt:=jC qfb [dv .bl f.1,dv (.ba 32) f.2.1,dv (.wa 8) f.2.2.1,dv (.wa 64) f.2.2.2]
abbrev K4:=Qb⊕jG
def X7 (N:Nat) (o_10:List UInt8) (o_10_2:Vector UInt8 32) (o_10_3:Vector UInt32 8) (o_10_4:Vector UInt32 64) (v:JN):Tree (JN⊕K4):=
 .cond (decide (((0:Int)) < ((o_10.length:Nat):Int))) (
 .chk (0≤(0:Int)∧(0:Int)≤(64:Int)∧(64:Int)≤((o_10.length:Nat):Int)) <|
 .chk (o_10.length=o_10.length) <|
 .bind (Jd N o_10_3 o_10_4 ((o_10.take 64).drop 0)) fun r1=>
 .chk (0≤(64:Int)∧(64:Int)≤((o_10.length:Nat):Int)) <|
 .chk (o_10.length=o_10.length) <|
 .ret (.inr (.inl (r1,o_10.drop 64)))) <|
 .ret (.inr (.inr ((.inl ()))))
def K0 (N n:Nat) (f:jX):K4→Option jG
 | .inl w=>qa7 N n f w
 | .inr w=>some w
def qoq (f:jX):K4→Ex×TSt
 | .inl w=>(.normal,qaK f w)
 | .inr w=>j9 f w
def qe6 (N n:Nat) (f:jX) (v:JN):Option jG:=zi (X7 N f.1 f.2.1 f.2.2.1 f.2.2.2) (K0 N n f) n v
theorem qoc (N:Nat) (f:jX) (n:Nat) (v:JN) (y:jG) (h:qe6 N n f v=some y):LG Tryz.prog QR 85 (zd ZP 10) (qnM f v) (j9 f y):=
 jc qu (E:=Wv N) (L:=qX (qe4 N)) (st:=qoq f) (g:=(K0 N n f)) (R:=j9 f) (Vf N) (qC (by kernel_rfl) trivial) (rg0 (by kernel_rfl)) (fun v=>by kernel_rfl) (fun w y h=>by
 rcases w with w | w
 ·exact qiU N f n w y h
 ·exact zo (st:=j9 f) (fun y=>by rcases y with _ | _<;>rfl) w y h
) n v y h
def XD (N:Nat) (o_10:List UInt8) (o_10_2:Vector UInt8 32) (o_10_3:Vector UInt32 8) (o_10_4:Vector UInt32 64):Option jG:=qe6 N N (o_10,o_10_2,o_10_3,o_10_4) ()
def qff (N:Nat):qO:=smL qfb [.bl,(.ba 32),(.wa 8),(.wa 64)] jG (fun x=>XD N x.1 x.2.1 x.2.2.1 x.2.2.2.1) (csS cs1) fun x=>j9 (x.1,x.2.1,x.2.2.1,x.2.2.2.1)
theorem qmv (N:Nat):v5 Tryz.prog QR 85 (zd ZP 10) (qff N):=jx fun x z h=>qoc N (x.1,x.2.1,x.2.2.1,x.2.2.2.1) N () z h
abbrev X3:=Vector UInt8 32×Vector UInt32 8
abbrev Zi:=Vector UInt8 32×Int×Bool
def J3 (f:X3) (y:Zi):Ex×TSt:=(.exit 6,⟨0,63,[],[(2,.p 20 [] 0),(5,.p 50 [] 0),(7,.p 70 [] 0),(46,xi y.2.1),(47,xb y.2.2)],[(20,.cell false (.tv (.ba 32) f.1)),(50,.cell false (.tv (.wa 8) f.2)),(70,.cell false (.tv (.ba 32) (y.1:Vector UInt8 32)))],false,[]⟩)
def qob (N:Nat):List (Nat×qO):=[]
abbrev JU:=Vector UInt8 32×Int
def qfc:SP:=⟨0,63,[],[(2,.k (.p 20 [] 0)),(5,.k (.p 50 [] 0)),(7,.k (.p 70 [] 0)),(46,.x (.i .i64))],[(20,.cell false (.x (.ba 32))),(50,.cell false (.x (.wa 8))),(70,.cell false (.x (.ba 32)))],false,[]⟩
def qor (f:X3) (v:JU):TSt:=jC qfc [dv (.ba 32) f.1,dv (.wa 8) f.2,dv (.ba 32) v.1,dv (.i .i64) v.2]
def X4 (N:Nat) (o_15:Vector UInt8 32) (o_15_2:Vector UInt32 8) (v:JU):Tree (JU⊕Zi):=
 .cond (decide (v.2 < ((32:Int)))) (
 .chk ((4:Int)≠0) <|
 .chk (qx (v.2.tdiv 4)) <|
 .chk (0≤(v.2.tdiv 4)∧(v.2.tdiv 4) < ((8:Nat):Int)) <|
 .chk ((v.2.tdiv 4).toNat < 8) <|
 .chk ((4:Int)≠0) <|
 .chk (qx (((8:Int)) * (v.2.tmod 4))) <|
 .chk (qx (((24:Int)) - (((8:Int)) * (v.2.tmod 4)))) <|
 .chk (0≤(((24:Int)) - (((8:Int)) * (v.2.tmod 4)))) <|
 let w1:Int:=Wd (((o_15_2.toList.getD ((v.2.tdiv 4).toNat) 0).toNat:Nat):Int) (min (((24:Int)) - (((8:Int)) * (v.2.tmod 4))).toNat 32)
 .chk (0≤v.2∧v.2 < ((32:Nat):Int)) <|
 .chk (inB (IntKind.u8.wrap w1)) <|
 .chk (v.2.toNat < 32) <|
 .chk (qx (v.2 + 1)) <|
 .ret (.inl (v.1.setIfInBounds v.2.toNat (UInt8.ofNat (IntKind.u8.wrap w1).toNat),v.2 + 1))) <|
 .ret (.inr (v.1,v.2,decide (v.2 < ((32:Int)))))
def qe3 (N n:Nat) (f:X3) (v:JU):Option Zi:=zi (X4 N f.1 f.2) some n v
theorem qnR (N:Nat) (f:X3) (n:Nat) (v:JU) (y:Zi) (h:qe3 N n f v=some y):LG Tryz.prog QR 85 (zd ZP 15) (qor f v) (J3 f y):=
 jc qu (E:=Wv N) (L:=qX (qob N)) (st:=J3 f) (g:=some) (R:=J3 f) (Vf N) (qC (by kernel_rfl) trivial) (rg0 (by kernel_rfl)) (fun v=>by kernel_rfl) (zo (st:=J3 f) fun y=>by rfl) n v y h
def Kd (N:Nat) (o_15:Vector UInt8 32) (o_15_2:Vector UInt32 8) (o_15_3:Vector UInt8 32) (s46_15:Int):Option Zi:=qe3 N N (o_15,o_15_2) (o_15_3,s46_15)
def qfi (N:Nat):qO:=smL qfc [(.ba 32),(.wa 8),(.ba 32),(.i .i64)] Zi (fun x=>Kd N x.1 x.2.1 x.2.2.1 x.2.2.2.1) cs1 fun x=>J3 (x.1,x.2.1)
theorem qmg (N:Nat):v5 Tryz.prog QR 85 (zd ZP 15) (qfi N):=jx fun x z h=>qnR N (x.1,x.2.1) N (x.2.2.1,x.2.2.2.1) z h
def qgS (z:Vector UInt8 32):TV×THp:=(.tv (.ba 32) z,[])
def qhb (N:Nat) (a0:List UInt8):Tree (Vector UInt8 32):=
 .bind (ZW a0) fun r1=>
 .chk (jI (((([]:List UInt8))++a0).length) (((([]:List UInt8))++a0).length) ((((([]:List UInt8))++a0)++[(UInt8.ofNat 128)]).length) 1) <|
 .bind (vN [((((([]:List UInt8))++a0)++[(UInt8.ofNat 128)]).length,(((([]:List UInt8))++a0)++[(UInt8.ofNat 128)]).length)] (qay N ((Vector.replicate 32 0)) a0 (((([]:List UInt8))++a0)++[(UInt8.ofNat 128)]))) fun z2=>
 .bind (vN [(z2.1.length,z2.1.length)] (qdR N ((Vector.replicate 32 0)) a0 z2.1 0)) fun z3=>
 .bind (qgf) fun r4=>
 .bind (qfS) fun r5=>
 .bind (vN [(z3.1.length,z3.1.length)] (XD N z3.1 ((Vector.replicate 32 0)) ((((((((((Vector.replicate 8 0)).setIfInBounds 0 ((UInt32.ofNat 1779033703))).setIfInBounds 1 ((UInt32.ofNat 3144134277))).setIfInBounds 2 ((UInt32.ofNat 1013904242))).setIfInBounds 3 ((UInt32.ofNat 2773480762))).setIfInBounds 4 ((UInt32.ofNat 1359893119))).setIfInBounds 5 ((UInt32.ofNat 2600822924))).setIfInBounds 6 ((UInt32.ofNat 528734635))).setIfInBounds 7 ((UInt32.ofNat 1541459225))) ((((((((((((((((((((((((((((((((((((((((((((((((((((((((((((((((((Vector.replicate 64 0)).setIfInBounds 0 ((UInt32.ofNat 1116352408))).setIfInBounds 1 ((UInt32.ofNat 1899447441))).setIfInBounds 2 ((UInt32.ofNat 3049323471))).setIfInBounds 3 ((UInt32.ofNat 3921009573))).setIfInBounds 4 ((UInt32.ofNat 961987163))).setIfInBounds 5 ((UInt32.ofNat 1508970993))).setIfInBounds 6 ((UInt32.ofNat 2453635748))).setIfInBounds 7 ((UInt32.ofNat 2870763221))).setIfInBounds 8 ((UInt32.ofNat 3624381080))).setIfInBounds 9 ((UInt32.ofNat 310598401))).setIfInBounds 10 ((UInt32.ofNat 607225278))).setIfInBounds 11 ((UInt32.ofNat 1426881987))).setIfInBounds 12 ((UInt32.ofNat 1925078388))).setIfInBounds 13 ((UInt32.ofNat 2162078206))).setIfInBounds 14 ((UInt32.ofNat 2614888103))).setIfInBounds 15 ((UInt32.ofNat 3248222580))).setIfInBounds 16 ((UInt32.ofNat 3835390401))).setIfInBounds 17 ((UInt32.ofNat 4022224774))).setIfInBounds 18 ((UInt32.ofNat 264347078))).setIfInBounds 19 ((UInt32.ofNat 604807628))).setIfInBounds 20 ((UInt32.ofNat 770255983))).setIfInBounds 21 ((UInt32.ofNat 1249150122))).setIfInBounds 22 ((UInt32.ofNat 1555081692))).setIfInBounds 23 ((UInt32.ofNat 1996064986))).setIfInBounds 24 ((UInt32.ofNat 2554220882))).setIfInBounds 25 ((UInt32.ofNat 2821834349))).setIfInBounds 26 ((UInt32.ofNat 2952996808))).setIfInBounds 27 ((UInt32.ofNat 3210313671))).setIfInBounds 28 ((UInt32.ofNat 3336571891))).setIfInBounds 29 ((UInt32.ofNat 3584528711))).setIfInBounds 30 ((UInt32.ofNat 113926993))).setIfInBounds 31 ((UInt32.ofNat 338241895))).setIfInBounds 32 ((UInt32.ofNat 666307205))).setIfInBounds 33 ((UInt32.ofNat 773529912))).setIfInBounds 34 ((UInt32.ofNat 1294757372))).setIfInBounds 35 ((UInt32.ofNat 1396182291))).setIfInBounds 36 ((UInt32.ofNat 1695183700))).setIfInBounds 37 ((UInt32.ofNat 1986661051))).setIfInBounds 38 ((UInt32.ofNat 2177026350))).setIfInBounds 39 ((UInt32.ofNat 2456956037))).setIfInBounds 40 ((UInt32.ofNat 2730485921))).setIfInBounds 41 ((UInt32.ofNat 2820302411))).setIfInBounds 42 ((UInt32.ofNat 3259730800))).setIfInBounds 43 ((UInt32.ofNat 3345764771))).setIfInBounds 44 ((UInt32.ofNat 3516065817))).setIfInBounds 45 ((UInt32.ofNat 3600352804))).setIfInBounds 46 ((UInt32.ofNat 4094571909))).setIfInBounds 47 ((UInt32.ofNat 275423344))).setIfInBounds 48 ((UInt32.ofNat 430227734))).setIfInBounds 49 ((UInt32.ofNat 506948616))).setIfInBounds 50 ((UInt32.ofNat 659060556))).setIfInBounds 51 ((UInt32.ofNat 883997877))).setIfInBounds 52 ((UInt32.ofNat 958139571))).setIfInBounds 53 ((UInt32.ofNat 1322822218))).setIfInBounds 54 ((UInt32.ofNat 1537002063))).setIfInBounds 55 ((UInt32.ofNat 1747873779))).setIfInBounds 56 ((UInt32.ofNat 1955562222))).setIfInBounds 57 ((UInt32.ofNat 2024104815))).setIfInBounds 58 ((UInt32.ofNat 2227730452))).setIfInBounds 59 ((UInt32.ofNat 2361852424))).setIfInBounds 60 ((UInt32.ofNat 2428436474))).setIfInBounds 61 ((UInt32.ofNat 2756734187))).setIfInBounds 62 ((UInt32.ofNat 3204031479))).setIfInBounds 63 ((UInt32.ofNat 3329325298))))) fun z6=>
 .sum z6 (fun z7=>
 .bind (Kd N ((Vector.replicate 32 0)) ((((((((((Vector.replicate 8 0)).setIfInBounds 0 ((UInt32.ofNat 1779033703))).setIfInBounds 1 ((UInt32.ofNat 3144134277))).setIfInBounds 2 ((UInt32.ofNat 1013904242))).setIfInBounds 3 ((UInt32.ofNat 2773480762))).setIfInBounds 4 ((UInt32.ofNat 1359893119))).setIfInBounds 5 ((UInt32.ofNat 2600822924))).setIfInBounds 6 ((UInt32.ofNat 528734635))).setIfInBounds 7 ((UInt32.ofNat 1541459225))) ((Vector.replicate 32 0)) 0) fun z8=>
 .ret z8.1) fun z7=>
 .bind (Kd N ((Vector.replicate 32 0)) z7.1 ((Vector.replicate 32 0)) 0) fun z8=>
 .ret z8.1
def Z9 (N:Nat) (a0:List UInt8):Option (Vector UInt8 32):=(qhb N a0).run some
def qvG (N:Nat):List (Nat×qO):=[(2,qga N),(5,qf7 N),(10,qff N),(15,qfi N)]
def qfz (N:Nat):Ent:=smF ⟨85,[],[.x .bl],[],[]⟩ [.bl] (Vector UInt8 32) (fun x=>Z9 N x.1) cs1 fun _=>qgS
theorem qrI (N:Nat):X1 Tryz.prog ⟨85,[],[.x .bl],[],[]⟩ [.bl] (fun x=>qhb N x.1) (fun _=>qgS):=
 JT (H:=QR) (L:=qX (qvG N)) 0 qx5 (Vf N) (qC (by kernel_rfl) ⟨qnU N,qoh N,qmv N,qmg N,trivial⟩) (rg0 (by kernel_rfl)) fun x=>by kernel_rfl
theorem qeR (N:Nat):zn Tryz.prog (qfz N):=qbm (qrI N)
end Go.Rx
end
set_option maxRecDepth 100000
noncomputable section
namespace Go.Rx
open Go.Proofs
def dg0:Vector UInt8 32:=#v[110,52,11,156,255,179,122,152,156,165,68,230,187,120,10,44,120,144,29,63,179,55,56,118,133,17,163,6,23,175,160,29]
theorem qAb:Z9 300 [0]=some dg0:=by kernel_rfl
def dg1:Vector UInt8 32:=#v[45,113,22,66,183,38,176,68,1,98,124,169,251,172,50,245,200,83,15,177,144,60,196,219,2,37,135,23,146,26,72,129]
theorem qAp:Z9 300 [120]=some dg1:=by kernel_rfl
def dg2:Vector UInt8 32:=#v[217,234,19,0,182,245,117,92,168,138,178,15,28,158,218,100,105,227,235,245,218,173,131,66,21,81,99,85,79,134,92,199]
theorem qAk:Z9 300 [1,7,0,0,0,0,0,0,0,0,0,0,0,0,0,0,0,0,1,2,9,1,120]=some dg2:=by kernel_rfl
def qzu:List (List UInt8×Vector UInt8 32):=[([0],dg0),([120],dg1),([1,7,0,0,0,0,0,0,0,0,0,0,0,0,0,0,0,0,1,2,9,1,120],dg2)]
theorem qzc:quu (Z9 300) qzu:=⟨qAb,qAp,qAk,trivial⟩
def qqB:Ent:=smF ⟨85,[],[.x .bl],[],[]⟩ [.bl] (Vector UInt8 32) (fun x=>qoV qzu x.1) cs1 fun _=>qgS
theorem qzh:zn Tryz.prog qqB:=qz8 (qeR 300) fun x z h=>qsb qzc x.1 z h
end Go.Rx
end
set_option maxRecDepth 100000
noncomputable section
namespace Go.Rx
open Go.Proofs
def qyV:List (Nat×TH):=[(9,{ live:=[(1,[1]),(2,[1,3]),(3,[1,3,5]),(4,[1,3,5,7]),(5,[1,3,5,7,46]),(6,[0]),(7,[1,3,5,7,8,9]),(8,[0])],dec:=[34,39,57,62,74],rd:=[(1,[1]),(2,[3]),(3,[5]),(7,[8])] }),
 (13,{ live:=[(0,[2,3,4]),(1,[2,3,4,6]),(2,[2,3,4,6,39]),(3,[4,5]),(4,[2,4,47,48,49]),(5,[2,4,47,48,49,50]),(6,[2,4,8,47,48,49]),(7,[2,4,8,47,48,49,54]),(8,[2,4,9,10,47,48,49]),(9,[2,4,9,10,47,48,49,64]),(10,[4,5]),(11,[2,4,47,48,49]),(12,[2,4,47,48,49]),(13,[4,5])],dec:=[19,23,29,34],rd:=[(1,[6]),(6,[8]),(8,[9])] }),
 (16,{ live:=[(0,[2,3]),(1,[2,3,14]),(2,[4]),(3,[2,3,5]),(4,[5,17]),(5,[5,6]),(6,[5,6,21]),(8,[4])],dec:=[10],fresh:=[17],rd:=[(5,[6])] }),
 (20,{ live:=[(0,[3,4,5,6]),(1,[3,4,9]),(2,[8])],rd:=[(1,[9])] }),
 (21,{ live:=[(0,[1,2]),(1,[1,2,13]),(2,[2,3]),(3,[1,2,4]),(4,[2,4,19,20,21]),(5,[2,4,19,20,21,22]),(6,[2,4,6,19,20,21]),(7,[2,4,6,7,19,20,21]),(8,[2,4,7,19,20,21,31,32,33]),(9,[2,4,7,19,20,21,31,32,33,34]),(10,[2,4,7,9,19,20,21,31,32,33]),(11,[2,4,7,9,10,19,20,21,31,32,33]),(12,[2,4,7,19,20,21,31,32,33]),(13,[2,4,7,19,20,21,31,32,33]),(14,[2,4,19,20,21]),(15,[2,4,19,20,21]),(16,[2,3])],rd:=[(6,[6]),(10,[9])] }),
 (22,{ live:=[(0,[2,3,4]),(1,[2,3,4,22]),(2,[4,5]),(3,[2,3,4,6]),(4,[2,3,4,6,7]),(5,[4,6,7,30,31,32]),(6,[4,6,7,30,31,32,33]),(7,[4,6,7,9,30,31,32]),(8,[4,6,7,9,10,11,30,31,32]),(9,[4,6,7,9,10,30,31,32,44]),(10,[4,6,7,9,30,31,32]),(11,[4,6,7,30,31,32]),(12,[4,6,7,30,31,32]),(13,[4,6,7,30,31,32]),(14,[4,6,7,67]),(15,[4,5]),(16,[4,6,7]),(17,[4,6,7,12]),(18,[4,6,12,71,72,73]),(19,[4,6,12,71,72,73,74]),(20,[4,6,12,14,71,72,73]),(21,[4,6,12,71,72,73]),(22,[4,6,12,71,72,73]),(23,[4,5])],dec:=[18],rd:=[(7,[9]),(8,[10]),(20,[14])] }),
 (24,{ live:=[(0,[2,3]),(1,[4])] }),
 (25,{ live:=[(0,[1]),(1,[1,6,7,8]),(2,[1,6,7,8,9]),(3,[1,3,4,6,7,8]),(4,[1,6,7,8,32]),(5,[2]),(6,[1,6,7,8]),(7,[2])],dec:=[16,19],rd:=[(3,[4])] }),
 (26,{ live:=[(0,[2,3,4]),(1,[2,4,6]),(2,[2,4,6,12]),(3,[4,5]),(4,[4,5])] }),
 (28,{ live:=[(0,[2,3]),(1,[4])],dec:=[8] }),
 (32,{ live:=[(0,[3,5,6,7,9,10]),(1,[3,5,6,7,9,10,27]),(2,[10,11]),(3,[10,11])],dec:=[15,19,23] }),
 (33,{ live:=[(0,[1]),(1,[2])],dec:=[7] }),
 (34,{ live:=[(0,[1]),(1,[2])],dec:=[6,10,15,20] }),
 (35,{ live:=[(0,[1]),(1,[1,21]),(2,[2]),(3,[1,23,24,25]),(4,[1,23,24,25,26]),(5,[1,3,4,23,24,25]),(6,[1,4,5,23,24,25]),(7,[1,23,24,25,74]),(8,[2]),(9,[1,23,24,25]),(10,[2])],dec:=[10,15,32,37,40,55,60,66],rd:=[(5,[4])] }),
 (40,{ live:=[(0,[1]),(1,[1,6,7,8]),(2,[1,6,7,8,9]),(3,[1,3,4,6,7,8]),(4,[1,6,7,8,32]),(5,[2]),(6,[1,6,7,8]),(7,[2])],dec:=[16,19],rd:=[(3,[4])] }),
 (41,{ live:=[(0,[2,3]),(1,[4])],esc:=true }),
 (49,{ live:=[(0,[3,4,5]),(1,[3,4,7]),(2,[3,4,7,12]),(3,[6]),(4,[3,4,7,19]),(5,[6]),(6,[3,4,7,22]),(7,[6]),(8,[6])] }),
 (50,{ live:=[(0,[1,2]),(1,[2,3]),(2,[2])] }),
 (51,{ live:=[(0,[0,2]),(1,[2])] }),
 (52,{ live:=[(0,[0]),(1,[0,6]),(2,[2]),(3,[0,3]),(4,[0,3,9]),(5,[0,3]),(6,[0,3]),(7,[2])] }),
 (53,{ live:=[(0,[0]),(1,[0,3]),(2,[0,3,9,10,11]),(3,[0,3,9,10,11,12]),(4,[0,3,5,9,10,11]),(5,[0,3,9,10,11]),(6,[0,3,9,10,11,20]),(7,[0,3,9,10,11]),(8,[0,3,9,10,11]),(9,[0,6]),(10,[6,25,26,27]),(11,[6,25,26,27,28]),(12,[6,8,25,26,27]),(13,[6,25,26,27]),(14,[6,25,26,27]),(15,[2])],raw:=[87],fresh:=[24] }),
 (54,{ live:=[(0,[1,2]),(1,[1,2]),(2,[2])] }),
 (55,{ live:=[(0,[2,3,4]),(1,[2,3,4,23]),(2,[4,5]),(3,[2,3,4,6]),(4,[2,3,4,6]),(5,[2,3,4,6]),(6,[4,6,7]),(7,[4,7,43]),(8,[7,8]),(10,[4,5])],dec:=[12,17],fresh:=[43],rd:=[(8,[8])] }),
 (56,{ live:=[(0,[0,1,4])] }),
 (57,{ live:=[(0,[2,3]),(1,[4])] }),
 (58,{ live:=[(0,[0,1,2]),(1,[0,1,2,14]),(2,[6]),(3,[1,2,15,16,17]),(4,[1,2,15,16,17,18]),(5,[1,2,7,8,15,16,17]),(6,[1,2,8,9,15,16,17]),(7,[1,2,15,16,17,30]),(8,[6]),(9,[1,2,15,16,17]),(10,[6])],rd:=[(5,[8]),(6,[9])] }),
 (59,{ live:=[(0,[2,3]),(1,[4])],dec:=[10,17] }),
 (60,{ live:=[(0,[2,3]),(1,[4])],dec:=[8] }),
 (61,{ live:=[(0,[0,1]),(1,[0,1,7,8]),(2,[0,1,7,8,9]),(3,[0,1,5,7,8]),(4,[0,1,5,7,8,16]),(5,[4]),(6,[0,1,7,8]),(7,[4])] }),
 (62,{ live:=[(0,[1,2]),(1,[3])] }),
 (63,{ live:=[(0,[1,2]),(1,[1,2]),(2,[1,2,10,11]),(3,[1,2,10,11,12]),(4,[1,2,3,10,11]),(5,[1,2,10,11]),(6,[1,2,10,11]),(7,[2])],fresh:=[6] }),
 (64,{ live:=[(0,[0,1]),(1,[0,1,7,8]),(2,[0,1,7,8,9]),(3,[0,1,5,7,8]),(4,[0,1,5,7,8,16]),(5,[4]),(6,[0,1,7,8]),(7,[4])] }),
 (66,{ live:=[(0,[0]),(1,[0,3]),(2,[3,6,7,8]),(3,[3,6,7,8,9]),(4,[3,5,6,7,8]),(5,[3,5,6,7,8,14]),(6,[2]),(7,[3,6,7,8]),(8,[2])] }),
 (67,{ live:=[(0,[0,1]),(1,[0,1,5]),(2,[0,1,5,6]),(3,[0,1,6,11]),(4,[12]),(5,[4]),(6,[4]),(7,[0,1,13]),(8,[4]),(9,[0,1,16]),(10,[4]),(11,[19]),(12,[4]),(13,[4])] }),
 (72,{ live:=[(0,[1,2,3,6]),(1,[2,3,6,8,9]),(2,[2,3,6,8,9,18]),(3,[6,7]),(4,[6,7])],rd:=[(1,[8])] }),
 (73,{ live:=[(0,[1,2,3,4,5]),(1,[5])] }),
 (74,{ live:=[(0,[1]),(1,[2])],dec:=[7,12] }),
 (78,{ live:=[(0,[1]),(1,[1,6,7,8]),(2,[1,6,7,8,9]),(3,[1,3,4,6,7,8]),(4,[1,6,7,8,33]),(5,[2]),(6,[1,6,7,8]),(7,[2])],dec:=[18,21,38,43],rd:=[(3,[4])] }),
 (79,{ live:=[(0,[0,2,12,13,14]),(1,[0,2,12,13,14,15]),(2,[0,2,5,12,13,14]),(3,[0,2,5,6,12,13,14]),(4,[0,2,5,6,8,12,13,14]),(5,[0,2,5,6,8,12,13,14,32]),(6,[0,2,5,6,8,12,13,14]),(7,[0,2,6,8,12,13,14,37,38,39]),(8,[0,2,6,8,12,13,14,37,38,39,40]),(9,[0,2,6,8,10,12,13,14,37,38,39]),(10,[0,2,6,8,10,12,13,14,37,38,39,48]),(11,[0,2,6,8,12,13,14,37,38,39]),(12,[0,2,6,8,12,13,14,37,38,39]),(13,[0,2,12,13,14,59]),(14,[0,2,12,13,14])],fresh:=[58],rd:=[(2,[5]),(3,[6]),(9,[10])] }),
 (82,{ live:=[(0,[1,2]),(1,[3])] }),
 (83,{ live:=[(0,[2,3]),(1,[4])],dec:=[8] }),
 (84,{ live:=[(0,[1]),(1,[1,15]),(2,[2,3]),(3,[1,4]),(4,[4,22,23,24]),(5,[4,22,23,24,25]),(6,[4,6,22,23,24]),(7,[4,6,7,22,23,24]),(8,[4,6,22,23,24]),(9,[4,22,23,24,47,48,49]),(10,[4,22,23,24,47,48,49,50]),(11,[4,10,22,23,24,47,48,49]),(12,[4,10,11,22,23,24,47,48,49]),(13,[4,22,23,24,47,48,49]),(14,[4,22,23,24,47,48,49]),(15,[4,22,23,24]),(16,[2,3])],fresh:=[20],esc:=true,rd:=[(6,[6]),(11,[10])] }),
 (85,{ live:=[(0,[0,2]),(1,[0,2,3]),(2,[0,2,3,16]),(3,[0,2,3]),(4,[0,2,3,20]),(5,[0,2,3,20,21]),(6,[0,2,3,4,20]),(7,[0,2,3,20]),(8,[0,2,3,20]),(9,[2,3,5,6]),(10,[2,3,5,6,40]),(11,[2,3,5,6]),(12,[2,3,5,6]),(13,[2,5,7]),(14,[2,5,7,46]),(15,[2,5,7,46,47]),(16,[2,5,7,8,46]),(17,[2,5,7,46]),(18,[2,5,7,46]),(19,[2])],fresh:=[10] }),
 (86,{ live:=[(0,[0,2]),(1,[2])] }),
 (87,{ live:=[(0,[0,1]),(1,[0,1,6]),(2,[0,1]),(3,[0,1]),(4,[0,1,16]),(5,[0]),(6,[4])],esc:=true,nil:=[(5,[⟨.sl 0,900000870,(.sl 19 (.ag [(.ba 16),(.ag [(.i .i64),(.i .i64)]),(.sl 4 (.ag [(.i .i64),(.ag [(.ag [(.i .i64),(.i .i64)]),.s])]))]))⟩])] }),
 (88,{ live:=[(0,[0]),(1,[0,4]),(2,[2]),(3,[2])],vecs:=[5],esc:=true }),
 (89,{ live:=[(0,[0,3]),(1,[0,9,10,11]),(2,[0,9,10,11,12]),(3,[0,5,9,10,11]),(4,[0,5,6,7,9,10,11]),(5,[0,5,6,9,10,11,22]),(6,[0,9,10,11]),(7,[0,9,10,11]),(8,[0,9,10,11])],rd:=[(3,[5]),(4,[6])] }),
 (90,{ live:=[(0,[2,3,4]),(1,[2,3,4,7]),(2,[4]),(3,[4])] }),
 (91,{ live:=[(0,[2,3]),(1,[4])],esc:=true }),
 (92,{ live:=[(0,[0,1,2,3,4,10]),(1,[0,1,2,3,4,10,11]),(2,[0,1,2,3,4,10,11,12]),(3,[0,1,2,3,4,10,11,12,25]),(5,[0,1,2,3,4,10,11,12,32]),(7,[0,1,2,3,4,10,11,12,39]),(8,[0,1,2,3,4,10,11,12]),(9,[0,1,2,3,4,10,11,12]),(10,[0,1,2,3,4,10,11,12,13,14]),(11,[0,1,2,3,4,10,11,12,13,14,56]),(12,[0,1,2,3,4,10,11,12,13]),(13,[0,1,2,3,4,10,11,12,13]),(14,[0,1,2,3,4,10,11,12,13,14]),(15,[0,1,2,3,4,10,11,12,13,75]),(16,[0,1,2,3,4,10,11,12,13,80]),(17,[0,1,2,3,4,10,11,12,13,97]),(18,[0,2,3,4,10,11,15]),(19,[0,1,2,3,4,10,11]),(20,[0,1,2,3,4,12,16,17]),(21,[0,1,2,3,4,11,12,16]),(22,[0,1,2,3,4,11,12,16,18,19]),(23,[0,1,2,3,4,11,16,18,19,20]),(24,[0,1,2,3,4,11,16,18,19,20,125]),(25,[0,1,2,3,4,10,11,16]),(26,[0,2,3,4,10,11,16]),(27,[0,1,2,3,4,10,11]),(28,[0,1,2,3,4,10,11,16]),(29,[0,1,3,4,10,11,16]),(30,[0,1,2,3,4,10,11])],dec:=[69,72,83] }),
 (93,{ live:=[(0,[0]),(1,[2]),(2,[2])] }),
 (94,{ live:=[(0,[0,1]),(1,[4])] }),
 (95,{ live:=[(0,[0,1]),(1,[0,1,10]),(2,[4]),(3,[0,1,12,13]),(4,[0,1,12,13,14]),(5,[0,1,5,12,13]),(6,[0,1,12,13,24]),(7,[4]),(8,[0,1,12,13]),(9,[4])] }),
 (96,{ live:=[(0,[0]),(1,[0,4]),(2,[2]),(3,[2])],vecs:=[5],esc:=true }),
 (97,{ live:=[(0,[0]),(1,[0,4]),(2,[2]),(3,[2])],vecs:=[5],esc:=true }),
 (98,{ live:=[(0,[0]),(1,[2])] }),
 (99,{ live:=[(0,[1,2,4]),(1,[1,2,4,6]),(2,[1,4,6,12]),(3,[1,4,6,12]),(4,[4,6,12]),(5,[4,5]),(6,[4,6,21]),(7,[4,5]),(8,[4,5])],rd:=[(1,[6])] }),
 (100,{ live:=[(0,[1,2]),(1,[1,2,3]),(2,[2,3,9,10,11]),(3,[2,3,9,10,11,12]),(4,[2,3,5,9,10,11]),(5,[2,3,5,9,10,11]),(6,[2,3,9,10,11,20,21,22]),(7,[2,3,9,10,11,20,21,22,23]),(8,[2,3,7,9,10,11,20,21,22]),(9,[2,3,9,10,11,20,21,22]),(10,[2,3,9,10,11,20,21,22]),(11,[2,3,9,10,11]),(12,[2])],rd:=[(4,[5]),(8,[7])] }),
 (103,{ live:=[(0,[2,3]),(1,[4])],dec:=[8,13,18,23,32,37] }),
 (108,{ live:=[(0,[0]),(1,[0,3]),(2,[0,3,4]),(3,[0,3,4,10,11]),(4,[0,3,4,10,11,12]),(5,[0,3,4,5,10,11]),(6,[0,3,4,10,11]),(7,[0,3,4,10,11]),(8,[4]),(9,[2])],esc:=true }),
 (109,{ live:=[(0,[1]),(1,[1,6]),(2,[2,3]),(3,[2,3])],fresh:=[15],esc:=true }),
 (110,{ live:=[(0,[1]),(1,[1,8]),(2,[2,3]),(3,[1,4]),(4,[2,3])],fresh:=[12],esc:=true }),
 (111,{ live:=[(0,[0]),(1,[0,4]),(2,[2]),(3,[2])],vecs:=[5],esc:=true }),
 (112,{ live:=[(0,[0]),(1,[0])] }),
 (113,{ live:=[(0,[0]),(1,[0])] }),
 (114,{ live:=[(0,[0,2,6]),(1,[0,2,6,7]),(2,[0,2,6,7,19]),(3,[0,2,6,7,19,20]),(4,[0,2,6,7,8,19]),(5,[0,2,6,7,8,9,10,19]),(6,[0,2,6,7,9,11,19]),(7,[0,2,6,7,11,12,19]),(8,[0,2,6,7,11,12,19]),(9,[0,2,6,7,11,19]),(10,[0,2,6,7,19]),(11,[0,2,6,7,19]),(12,[0,7,95]),(13,[0,7,95,96]),(14,[0,7,13,95]),(15,[0,7,95]),(16,[0,7,95])],rd:=[(0,[6])] }),
 (115,{ live:=[(0,[0]),(1,[0,3,4]),(2,[0,3,4,7,8]),(3,[0,3,4,7,8,9]),(4,[0,3,4,5,7,8]),(5,[0,3,4,7,8]),(6,[0,3,4,7,8]),(7,[0,3,4,7,8]),(8,[2])] }),
 (116,{ live:=[(0,[2,3,4]),(1,[2,3,4,7]),(2,[4]),(3,[4])] }),
 (117,{ live:=[(0,[0,1,2,7]),(1,[0,1,2,7,8]),(2,[0,1,2,4,7]),(3,[0,1,2,4,5,6,7]),(4,[0,1,2,7,30]),(5,[0,1,2,7])],dec:=[17,23],rd:=[(3,[5])] }),
 (118,{ live:=[(0,[0,1,2,3,8]),(1,[0,1,2,3,8,14]),(2,[0,1,2,3,8]),(3,[0,1,2,3,8,9]),(4,[0,1,2,3,8,9,34]),(5,[0,1,2,3,8,9]),(6,[0,1,2,3,8,9])],dec:=[21] }),
 (119,{ live:=[(0,[0,1,2,3,8]),(1,[0,1,2,3,8,9]),(2,[0,3,8,9,10]),(3,[0,3,8,9,10,11]),(4,[0,3,8,9,10,11,21]),(5,[0,3,8,9,10,11]),(6,[0,3,8,9,10,11]),(7,[0,3,8,9,12]),(8,[0,3,8,9,12,33]),(9,[0,3,8,9,12]),(10,[0,3,8,9,12]),(11,[0,3,8,9,12])] }),
 (120,{ live:=[(0,[0,1,8]),(1,[0,1,8,17]),(2,[0,1,8,9]),(3,[0,1,8,9,10]),(4,[0,1,8,9,10,11]),(5,[0,1,8,9,10,11,35]),(6,[0,1,8,9,10,11]),(7,[0,1,8,9,10,11,12]),(8,[0,1,8,9,10,11,12,45]),(9,[0,1,8,9,10,11,12]),(10,[0,1,8,9,10,11])] }),
 (121,{ live:=[(0,[0,1,2,3]),(1,[0,1,3,10]),(2,[0,1,3,10,11]),(3,[0,1,3,10,11,12]),(4,[0,1,3,10,11,12,13]),(5,[0,3,10,11,12,13,14]),(6,[0,3,10,11,12,13,14,34]),(7,[0,3,11,12,13,14,36]),(8,[0,3,11,12,13,14]),(9,[0,3,11,12,13,14]),(10,[0,3,11,12,13,14]),(11,[11,13]),(12,[13,55]),(13,[8,9]),(14,[13,55,57]),(15,[8,9]),(16,[13,60]),(17,[8,9])] }),
 (122,{ live:=[(0,[0,2,8]),(1,[0,8,9]),(2,[0,8,9,15]),(3,[0,8,9]),(4,[0,8,9]),(5,[0,8,9])] }),
 (123,{ live:=[(0,[0,1,2,3]),(1,[0,1,2,3,9]),(2,[0,1,2,3,9,10]),(3,[0,1,2,3,9,10,16]),(4,[0,1,2,3,9,10]),(5,[0,1,2,3,9,10,36]),(6,[0,1,2,3,9,10]),(7,[0,1,2,3,9,10,41]),(8,[8]),(9,[0,1,2,3,9,10,45]),(10,[8]),(11,[0,1,2,3,9,10]),(12,[0,1,2,3,9,10,65]),(13,[0,1,2,3,9,10,11]),(14,[0,1,2,3,9,10,11,69]),(15,[0,1,2,3,9,10,11]),(16,[0,1,2,3,9,10,11,84]),(17,[0,1,2,3,9,10,11]),(18,[0,1,2,3,9,10,104]),(19,[0,1,2,3,9,10,12]),(20,[0,1,2,3,9,10,12,109]),(21,[0,1,2,3,9,10,12]),(22,[0,1,2,3,9,10,12,124]),(23,[0,1,2,3,9,10,12]),(24,[8])],dec:=[22] }),
 (124,{ live:=[(0,[0,1,2,3,4]),(1,[0,1,2,4]),(2,[0,1,4,11,12]),(3,[0,1,4,11,12,47]),(4,[0,1,4,11,12]),(5,[0,1,4,11,12,65]),(6,[0,1,4,11,12]),(7,[0,1,4,11,12,70]),(8,[0,1,4,11,12]),(9,[0,1,4,11,12]),(10,[0,1,4,11,12]),(11,[10])],dec:=[34,53] }),
 (125,{ live:=[(0,[0,1,2,3,4]),(1,[0,1,2,4]),(2,[0,1,4,12,13]),(3,[0,1,4,12,13,47]),(4,[0,1,4,12,13]),(5,[0,1,4,12,13,66]),(6,[0,1,4,12,13]),(7,[0,1,4,12,13,71]),(8,[13]),(9,[10,11]),(10,[0,1,4,12,13]),(11,[0,1,4,12,13]),(12,[0,1,4,12,13]),(13,[0,1,4,12,13,120]),(14,[0,1,4,12,13]),(15,[0,1,4,12,13,139]),(16,[0,1,4,12,13]),(17,[0,1,4,12,13,144]),(18,[0,1,4,12,13]),(19,[0,1,4,12,13]),(20,[0,1,4,12,13]),(21,[13]),(22,[10,11])],dec:=[35,53,108,126] }),
 (126,{ live:=[(0,[0,2]),(1,[0,2,4]),(2,[0]),(3,[0,2]),(4,[0,2,8]),(5,[0,2]),(6,[0,2]),(7,[2])] }),
 (127,{ live:=[(0,[0,2]),(1,[0,2,4]),(2,[0]),(3,[0,2]),(4,[0,2,8]),(5,[0,2]),(6,[0,2]),(7,[0,2,14]),(8,[0,2]),(9,[0,2]),(10,[2])] }),
 (132,{ live:=[(0,[0]),(1,[0,4]),(2,[2]),(3,[2])] }),
 (133,{ live:=[(0,[0]),(1,[0,3]),(2,[0,3]),(3,[0,3,7]),(4,[0,3]),(5,[0,3]),(6,[2])] }),
 (134,{ live:=[(0,[0]),(1,[2])],fresh:=[6],esc:=true }),
 (135,{ live:=[(0,[0,2]),(1,[0,2,3]),(2,[0,2,3,7]),(3,[0,2,3,7,8]),(4,[0,2,3,4,7]),(5,[0,2,3,4,7,11]),(6,[0,2,3,7]),(7,[0,2,3,4,5,6,7]),(8,[0,2,3,7]),(9,[0,2,3,7]),(10,[2])] }),
 (136,{ live:=[(0,[0,1]),(1,[4])] }),
 (137,{ live:=[(0,[0,1]),(1,[4])] }),
 (138,{ live:=[(0,[2,3]),(1,[5]),(2,[13,14]),(3,[13,14,15]),(4,[7,13,14]),(5,[8,13,14]),(6,[8,13,14,20]),(7,[4]),(8,[13,14]),(9,[4])],rd:=[(1,[5])] }),
 (139,{ live:=[(0,[0,2,3,4,10]),(1,[0,2,3,4,10,11]),(2,[0,2,3,4,10,11,18]),(3,[0,2,3,4,10,11,40]),(4,[0,2,3,4,10,11]),(5,[0,2,3,4,10,11,58]),(6,[0,2,3,4,11]),(7,[0,2,3,4,10])],dec:=[23] }),
 (140,{ live:=[(0,[0]),(1,[2])] }),
 (141,{ live:=[(0,[0]),(1,[0]),(2,[0]),(3,[0]),(4,[2])] }),
 (142,{ live:=[(0,[0,1,2,3]),(1,[8])] }),
 (143,{ live:=[(0,[0,1,2,3,4,5]),(1,[0,1,2,3,4,5]),(2,[0,1,2,4,5]),(3,[2]),(4,[12])] }),
 (145,{ live:=[(0,[0,1]),(1,[0,5]),(2,[4])] }),
 (146,{ live:=[(0,[0,1]),(1,[2])] }),
 (147,{ live:=[(0,[2,3,4]),(1,[2,3,4,7]),(2,[6]),(3,[12]),(4,[6]),(5,[6])] }),
 (148,{ live:=[(0,[0,1]),(1,[2])] }),
 (149,{ live:=[(0,[2,3,4]),(1,[2,3,4,7]),(2,[6]),(3,[12]),(4,[6]),(5,[6])] }),
 (150,{ live:=[(0,[0,1]),(1,[2])] }),
 (151,{ live:=[(0,[0,1]),(1,[0,1,5]),(2,[0,1,5,6]),(3,[0,1,6,11]),(4,[12]),(5,[4]),(6,[4]),(7,[0,1,13]),(8,[4]),(9,[0,1,16]),(10,[4]),(11,[19]),(12,[4]),(13,[4])] }),
 (152,{ live:=[(0,[0,1,2,3,4]),(1,[1,2,3,22]),(2,[1,2]),(3,[10,11]),(4,[10,11])] }),
 (153,{ live:=[(0,[0]),(1,[2])] })]
def qy8 (k:FuncId):TH:=(get qyV k).getD {}
theorem qyY:qf9 Tryz.prog [16,55]:=⟨qoR (fn:=Tryz.f16) (c:=Tryz.f16.body.getD .skip) (by kernel_rfl) (by kernel_rfl) (by kernel_rfl),qoR (fn:=Tryz.f55) (c:=Tryz.f55.body.getD .skip) (by kernel_rfl) (by kernel_rfl) (by kernel_rfl),trivial⟩
def qtc:Option Bool:=some true
theorem qwd:qt0 Tryz.prog qy8 [16,55] [qqB] 400 30 9=some (.pv (.b true),[]):=by kernel_rfl
def qsG:Ent:=smF ⟨9,[],[],[],[]⟩ [] Bool (fun _=>qtc) cs1 fun _ z=>(xb z,[])
theorem qxY:zn Tryz.prog qsG:=qyr Tryz.prog (fun _=>rfl) qu (base:=[qqB]) ⟨qzh,trivial⟩ qyY qwd
end Go.Rx
end
set_option maxRecDepth 100000
noncomputable section
namespace Go.Rx
open Go.Proofs
noncomputable def qjE:Code:=Tryz.f12.body.getD .skip
theorem qxG:FnF Tryz.prog 12 Tryz.f12 qjE:=⟨qu,by kernel_rfl,by kernel_rfl,by kernel_rfl⟩
def V7:TH:={ live:=[(0,[1]),(1,[1,7]),(2,[2]),(3,[1,3]),(4,[1,3,12]),(5,[1,3]),(6,[1,3,23]),(7,[2]),(8,[2])] }
def KF (N:Nat):List Ent:=[]
theorem W1 (N:Nat):q9 Tryz.prog (KF N):=trivial
abbrev Qx:=qf
abbrev jz:=Unit⊕(Int×Bool)
def vd (f:Qx):jz→Ex×TSt
 | .inl y=>(.ret,⟨0,24,[],[(2,.bc false)],[],false,[]⟩)
 | .inr y=>(.exit 0,⟨0,24,[],[(1,.p 10 [] 0),(3,xi y.1),(12,xb y.2)],[(10,.cell false (.tv qW f))],false,[]⟩)
def qdz (N:Nat):List (Nat×qO):=[]
abbrev vb:=Int
def Wn:SP:=⟨0,24,[],[(1,.k (.p 10 [] 0)),(3,.x (.i .i64))],[(10,.cell false (.x qW))],false,[]⟩
def qdj (f:Qx) (v:vb):TSt:=jC Wn [dv qW f,dv (.i .i64) v]
def Qt (N:Nat) (o_4:qf) (v:vb):Tree (vb⊕jz):=
 .cond (decide (v < (((qf.F o_4).length:Nat):Int))) (
 .bind (zk (qf.F o_4) v) fun e1=>
 .cond (decide (((300:Int)) < (((qq.V (qk.C e1)).length:Nat):Int))) (
 .ret (.inr (.inl ()))) <|
 .chk (qx (v + 1)) <|
 .ret (.inl (v + 1))) <|
 .ret (.inr (.inr ((v,decide (v < (((qf.F o_4).length:Nat):Int))))))
def Wy (N n:Nat) (f:Qx) (v:vb):Option jz:=zi (Qt N f) some n v
theorem qda (N:Nat) (f:Qx) (n:Nat) (v:vb) (y:jz) (h:Wy N n f v=some y):LG Tryz.prog V7 12 (zd qjE 4) (qdj f v) (vd f y):=
 jc qu (E:=KF N) (L:=qX (qdz N)) (st:=vd f) (g:=some) (R:=vd f) (W1 N) (qC (by kernel_rfl) trivial) (rg0 (by kernel_rfl)) (fun v=>by kernel_rfl) (zo (st:=vd f) fun y=>by rcases y with _ | _<;>rfl) n v y h
def Vi (N:Nat) (o_4:qf) (s3_4:Int):Option jz:=Wy N N o_4 s3_4
def Wx (N:Nat):qO:=smL Wn [qW,(.i .i64)] jz (fun x=>Vi N x.1 x.2.1) (csS cs1) fun x=>vd x.1
theorem qcL (N:Nat):v5 Tryz.prog V7 12 (zd qjE 4) (Wx N):=jx fun x z h=>qda N x.1 N x.2.1 z h
def qge (z:Bool):TV×THp:=(xb z,[])
def Vx (N:Nat) (a0:qf):Tree (Bool):=
 .cond (decide (((12:Int)) < (((qf.F a0).length:Nat):Int))) (
 .ret false) <|
 .bind (Vi N a0 0) fun z1=>
 .sum z1 (fun z2=>
 .ret false) fun z2=>
 .ret true
def j_ (N:Nat) (a0:qf):Option (Bool):=(Vx N a0).run some
def qgr (N:Nat):List (Nat×qO):=[(4,Wx N)]
def Kn (N:Nat):Ent:=smF ⟨12,[],[.x qW],[],[]⟩ [qW] (Bool) (fun x=>j_ N x.1) cs1 fun _=>qge
theorem qfp (N:Nat):zn Tryz.prog (Kn N):=
 zq (H:=V7) (L:=qX (qgr N)) (ts:=[qW]) (T:=fun x=>Vx N x.1) 0 qxG (W1 N) (qC (by kernel_rfl) ⟨qcL N,trivial⟩) (rg0 (by kernel_rfl)) fun x=>by kernel_rfl
noncomputable def qjR:Code:=Tryz.f10.body.getD .skip
theorem qxv:FnF Tryz.prog 10 Tryz.f10 qjR:=⟨qu,by kernel_rfl,by kernel_rfl,by kernel_rfl⟩
def VG:TH:={ live:=[(0,[1]),(1,[1,8]),(2,[2]),(3,[1,3]),(4,[1,3,13]),(5,[1,3]),(6,[1,3,4]),(7,[1,3,23]),(8,[2]),(9,[2])] }
def KI (N:Nat):List Ent:=[Kn N]
theorem WV (N:Nat):q9 Tryz.prog (KI N):=⟨qfp N,trivial⟩
abbrev Qq:=qo
abbrev jB:=Unit⊕(Int×Bool)
def vm (f:Qq):jB→Ex×TSt
 | .inl y=>(.ret,⟨0,24,[],[(2,.bc false)],[],false,[]⟩)
 | .inr y=>(.exit 0,⟨0,24,[],[(1,.p 10 [] 0),(3,xi y.1),(13,xb y.2)],[(10,.cell false (.tv zg f))],false,[]⟩)
def qdw (N:Nat):List (Nat×qO):=[]
abbrev vl:=Int
def Wr:SP:=⟨0,24,[],[(1,.k (.p 10 [] 0)),(3,.x (.i .i64))],[(10,.cell false (.x zg))],false,[]⟩
def qdb (f:Qq) (v:vl):TSt:=jC Wr [dv zg f,dv (.i .i64) v]
def Qr (N:Nat) (o_4:qo) (v:vl):Tree (vl⊕jB):=
 .cond (decide (v < (((qo.R o_4).length:Nat):Int))) (
 .bind (zk (qo.R o_4) v) fun e1=>
 .bind (j_ N e1) fun r2=>
 .cond (!r2) (
 .ret (.inr (.inl ()))) <|
 .chk (qx (v + 1)) <|
 .ret (.inl (v + 1))) <|
 .ret (.inr (.inr ((v,decide (v < (((qo.R o_4).length:Nat):Int))))))
def Wp (N n:Nat) (f:Qq) (v:vl):Option jB:=zi (Qr N f) some n v
theorem qdd (N:Nat) (f:Qq) (n:Nat) (v:vl) (y:jB) (h:Wp N n f v=some y):LG Tryz.prog VG 10 (zd qjR 4) (qdb f v) (vm f y):=
 jc qu (E:=KI N) (L:=qX (qdw N)) (st:=vm f) (g:=some) (R:=vm f) (WV N) (qC (by kernel_rfl) trivial) (rg0 (by kernel_rfl)) (fun v=>by kernel_rfl) (zo (st:=vm f) fun y=>by rcases y with _ | _<;>rfl) n v y h
def Vj (N:Nat) (o_4:qo) (s3_4:Int):Option jB:=Wp N N o_4 s3_4
def Wz (N:Nat):qO:=smL Wr [zg,(.i .i64)] jB (fun x=>Vj N x.1 x.2.1) (csS cs1) fun x=>vm x.1
theorem qcS (N:Nat):v5 Tryz.prog VG 10 (zd qjR 4) (Wz N):=jx fun x z h=>qdd N x.1 N x.2.1 z h
def qg1 (z:Bool):TV×THp:=(xb z,[])
def VX (N:Nat) (a0:qo):Tree (Bool):=
 .cond (decide (((14:Int)) < (((qo.R a0).length:Nat):Int))) (
 .ret false) <|
 .bind (Vj N a0 0) fun z1=>
 .sum z1 (fun z2=>
 .ret false) fun z2=>
 .ret true
def Jz (N:Nat) (a0:qo):Option (Bool):=(VX N a0).run some
def qg4 (N:Nat):List (Nat×qO):=[(4,Wz N)]
def Kz (N:Nat):Ent:=smF ⟨10,[],[.x zg],[],[]⟩ [zg] (Bool) (fun x=>Jz N x.1) cs1 fun _=>qg1
theorem qfo (N:Nat):zn Tryz.prog (Kz N):=
 zq (H:=VG) (L:=qX (qg4 N)) (ts:=[zg]) (T:=fun x=>VX N x.1) 0 qxv (WV N) (qC (by kernel_rfl) ⟨qcS N,trivial⟩) (rg0 (by kernel_rfl)) fun x=>by kernel_rfl
noncomputable def qxq:Code:=Tryz.f34.body.getD .skip
theorem qxH:FnF Tryz.prog 34 Tryz.f34 qxq:=⟨qu,by kernel_rfl,by kernel_rfl,by kernel_rfl⟩
def qqX:TH:={ live:=[(0,[1]),(1,[2])],dec:=[6,10,15,20] }
def qrA (N:Nat):List Ent:=[]
theorem qnP (N:Nat):q9 Tryz.prog (qrA N):=trivial
def qrh (z:Bool):TV×THp:=(xb z,[])
def qcG (a0:qd):Tree (Bool):=
 .cond (eqE qJ a0 (qd.mk 0 0)) (
 .ret true) <|
 .cond (decide (((0:Int)) < (qd.N a0))) (
 .cond (decide ((qd.N a0)≤((1099511627776:Int)))) (
 .cond (decide (((0:Int))≤(qd.Rep a0))) (
 .ret (decide ((qd.Rep a0) < ((8:Int))))) <|
 .ret false) <|
 .ret false) <|
 .ret false
def VM (a0:qd):Option (Bool):=(qcG a0).run some
def qrl:List (Nat×qO):=[]
def XB:Ent:=smF ⟨34,[],[.x qJ],[],[]⟩ [qJ] (Bool) (fun x=>VM x.1) cs1 fun _=>qrh
theorem WX:zn Tryz.prog (XB):=
 zq (H:=qqX) (L:=qX (qrl)) (ts:=[qJ]) (T:=fun x=>qcG x.1) 0 qxH (qnP 0) (qC (by kernel_rfl) trivial) (rg0 (by kernel_rfl)) fun x=>by kernel_rfl
noncomputable def qwT:Code:=Tryz.f74.body.getD .skip
theorem qxP:FnF Tryz.prog 74 Tryz.f74 qwT:=⟨qu,by kernel_rfl,by kernel_rfl,by kernel_rfl⟩
def qsS:TH:={ live:=[(0,[1]),(1,[2])],dec:=[7,12] }
def qsQ (N:Nat):List Ent:=[XB]
theorem qp_ (N:Nat):q9 Tryz.prog (qsQ N):=⟨WX,trivial⟩
def qus (z:Bool):TV×THp:=(xb z,[])
def qdF (a0:qq):Tree (Bool):=
 .cond (!(eqE qJ (qq.S a0) (qd.mk 0 0))) (
 .bind (VM (qq.S a0)) fun r1=>
 .cond r1 (
 .ret (decide ((((qq.V a0).length:Nat):Int)≤((200:Int))))) <|
 .ret false) <|
 .ret false
def VE (a0:qq):Option (Bool):=(qdF a0).run some
def quv:List (Nat×qO):=[]
def qdY:Ent:=smF ⟨74,[],[.x zT],[],[]⟩ [zT] (Bool) (fun x=>VE x.1) cs1 fun _=>qus
theorem qiy:zn Tryz.prog (qdY):=
 zq (H:=qsS) (L:=qX (quv)) (ts:=[zT]) (T:=fun x=>qdF x.1) 0 qxP (qp_ 0) (qC (by kernel_rfl) trivial) (rg0 (by kernel_rfl)) fun x=>by kernel_rfl
noncomputable def qx1:Code:=Tryz.f98.body.getD .skip
theorem qwV:FnF Tryz.prog 98 Tryz.f98 qx1:=⟨qu,by kernel_rfl,by kernel_rfl,by kernel_rfl⟩
def qkY:TH:={ live:=[(0,[0]),(1,[2])] }
def qkw (N:Nat):List Ent:=[]
theorem qh5 (N:Nat):q9 Tryz.prog (qkw N):=trivial
def qlI (a0:Int) (z:Unit):TV×THp:=(xb (!decide (a0=a0)),[])
def Yc (a0:Int):Tree (Unit):=
 .ret ()
def XO (a0:Int):Option (Unit):=(Yc a0).run some
def qlp:List (Nat×qO):=[]
def qcf:Ent:=smF ⟨98,[],[.x (.i .i64)],[],[]⟩ [(.i .i64)] (Unit) (fun x=>XO x.1) cs1 fun x=>qlI x.1
theorem qi6:zn Tryz.prog (qcf):=
 zq (H:=qkY) (L:=qX (qlp)) (ts:=[(.i .i64)]) (T:=fun x=>Yc x.1) 0 qwV (qh5 0) (qC (by kernel_rfl) trivial) (rg0 (by kernel_rfl)) fun x=>by kernel_rfl
noncomputable def qwg:Code:=Tryz.f67.body.getD .skip
theorem qwO:FnF Tryz.prog 67 Tryz.f67 qwg:=⟨qu,by kernel_rfl,by kernel_rfl,by kernel_rfl⟩
def qhS:TH:={ live:=[(0,[0,1]),(1,[0,1,5]),(2,[0,1,5,6]),(3,[0,1,6,11]),(4,[12]),(5,[4]),(6,[4]),(7,[0,1,13]),(8,[4]),(9,[0,1,16]),(10,[4]),(11,[19]),(12,[4]),(13,[4])] }
def qhP (N:Nat):List Ent:=[qcf]
theorem qft (N:Nat):q9 Tryz.prog (qhP N):=⟨qi6,trivial⟩
def qh0 (z:Int):TV×THp:=(xi z,[])
def Xw (a0:Int) (a1:Int):Tree (Int):=
 .bind (XO a0) fun r1=>
 .bind (XO a1) fun r2=>
 .cond (!decide (a0=a0)) (
 .cond (!decide (a1=a1)) (
 .ret 0) <|
 .ret (-1)) <|
 .cond (!decide (a1=a1)) (
 .ret 1) <|
 .cond (decide (a0 < a1)) (
 .ret (-1)) <|
 .cond (decide (a1 < a0)) (
 .ret 1) <|
 .ret 0
def Zs (a0:Int) (a1:Int):Option (Int):=(Xw a0 a1).run some
def qhG:List (Nat×qO):=[]
def qah:Ent:=smF ⟨67,[],[.x (.i .i64),.x (.i .i64)],[],[]⟩ [(.i .i64),(.i .i64)] (Int) (fun x=>Zs x.1 x.2.1) cs1 fun _=>qh0
theorem qfV:zn Tryz.prog (qah):=
 zq (H:=qhS) (L:=qX (qhG)) (ts:=[(.i .i64),(.i .i64)]) (T:=fun x=>Xw x.1 x.2.1) 0 qwO (qft 0) (qC (by kernel_rfl) trivial) (rg0 (by kernel_rfl)) fun x=>by kernel_rfl
noncomputable def qjq:Code:=Tryz.f66.body.getD .skip
theorem qw7:FnF Tryz.prog 66 Tryz.f66 qjq:=⟨qu,by kernel_rfl,by kernel_rfl,by kernel_rfl⟩
def qbd:TH:={ live:=[(0,[0]),(1,[0,3]),(2,[3,6,7,8]),(3,[3,6,7,8,9]),(4,[3,5,6,7,8]),(5,[3,5,6,7,8,14]),(6,[2]),(7,[3,6,7,8]),(8,[2])] }
def qgT (N:Nat):List Ent:=[]
theorem qc8 (N:Nat):q9 Tryz.prog (qgT N):=trivial
abbrev Vr:=List Int×Int
abbrev Qu:=Int⊕(Int×Bool)
def ZF (f:Vr):Qu→Ex×TSt
 | .inl y=>(.ret,⟨0,18,[],[(2,xi y)],[],false,[]⟩)
 | .inr y=>(.exit 0,⟨0,18,[],[(3,.ic .i64 0),(6,.tv (.sl 1 (.i .i64)) f.1),(7,xi f.2),(8,xi y.1),(9,xb y.2)],[],false,[]⟩)
def qko (N:Nat):List (Nat×qO):=[]
abbrev Zz:=Int
def qbX:SP:=⟨0,18,[],[(3,.k (.ic .i64 0)),(6,.x (.sl 1 (.i .i64))),(7,.x (.i .i64)),(8,.x (.i .i64))],[],false,[]⟩
def qkx (f:Vr) (v:Zz):TSt:=jC qbX [dv (.sl 1 (.i .i64)) f.1,dv (.i .i64) f.2,dv (.i .i64) v]
def vE (N:Nat) (s6_3:List Int) (s7_3:Int) (v:Zz):Tree (Zz⊕Qu):=
 .cond (decide (v < s7_3)) (
 .bind (zk s6_3 v) fun e1=>
 .cond (!decide (e1=((0:Int)))) (
 .ret (.inr (.inl e1))) <|
 .chk (qx (v + 1)) <|
 .ret (.inl (v + 1))) <|
 .ret (.inr (.inr ((v,decide (v < s7_3)))))
def qb4 (N n:Nat) (f:Vr) (v:Zz):Option Qu:=zi (vE N f.1 f.2) some n v
theorem qkz (N:Nat) (f:Vr) (n:Nat) (v:Zz) (y:Qu) (h:qb4 N n f v=some y):LG Tryz.prog qbd 66 (zd qjq 3) (qkx f v) (ZF f y):=
 jc qu (E:=qgT N) (L:=qX (qko N)) (st:=ZF f) (g:=some) (R:=ZF f) (qc8 N) (qC (by kernel_rfl) trivial) (rg0 (by kernel_rfl)) (fun v=>by kernel_rfl) (zo (st:=ZF f) fun y=>by rcases y with _ | _<;>rfl) n v y h
def KS (N:Nat) (s6_3:List Int) (s7_3:Int) (s8_3:Int):Option Qu:=qb4 N N (s6_3,s7_3) s8_3
def qbJ (N:Nat):qO:=smL qbX [(.sl 1 (.i .i64)),(.i .i64),(.i .i64)] Qu (fun x=>KS N x.1 x.2.1 x.2.2.1) (csS cs1) fun x=>ZF (x.1,x.2.1)
theorem qjD (N:Nat):v5 Tryz.prog qbd 66 (zd qjq 3) (qbJ N):=jx fun x z h=>qkz N (x.1,x.2.1) N x.2.2.1 z h
def qo_ (z:Int):TV×THp:=(xi z,[])
def qbj (N:Nat) (a0:List Int):Tree (Int):=
 .bind (KS N a0 ((a0.length:Nat):Int) 0) fun z1=>
 .sum z1 (fun z2=>
 .ret z2) fun z2=>
 .ret 0
def WH (N:Nat) (a0:List Int):Option (Int):=(qbj N a0).run some
def qpf (N:Nat):List (Nat×qO):=[(3,qbJ N)]
def qgL (N:Nat):Ent:=smF ⟨66,[],[.x (.sl 1 (.i .i64))],[],[]⟩ [(.sl 1 (.i .i64))] (Int) (fun x=>WH N x.1) cs1 fun _=>qo_
theorem qou (N:Nat):zn Tryz.prog (qgL N):=
 zq (H:=qbd) (L:=qX (qpf N)) (ts:=[(.sl 1 (.i .i64))]) (T:=fun x=>qbj N x.1) 0 qw7 (qc8 N) (qC (by kernel_rfl) ⟨qjD N,trivial⟩) (rg0 (by kernel_rfl)) fun x=>by kernel_rfl
noncomputable def qxV:Code:=Tryz.f28.body.getD .skip
theorem qwZ:FnF Tryz.prog 28 Tryz.f28 qxV:=⟨qu,by kernel_rfl,by kernel_rfl,by kernel_rfl⟩
def qqe:TH:={ live:=[(0,[2,3]),(1,[4])],dec:=[8] }
def qqG (N:Nat):List Ent:=[qah,qgL N]
theorem qmH (N:Nat):q9 Tryz.prog (qqG N):=⟨qfV,qou N,trivial⟩
def qoN (z:Bool):TV×THp:=(xb z,[])
def qbw (N:Nat) (a0:qd) (a1:qd):Tree (Bool):=
 .cond (!(eqE qJ a0 a1)) (
 .bind (Zs (qd.N a0) (qd.N a1)) fun r1=>
 .bind (Zs (qd.Rep a0) (qd.Rep a1)) fun r2=>
 .bind (WH N [r1,r2]) fun r3=>
 .ret (decide (r3 < ((0:Int))))) <|
 .ret false
def vB (N:Nat) (a0:qd) (a1:qd):Option (Bool):=(qbw N a0 a1).run some
def qpP (N:Nat):List (Nat×qO):=[]
def WD (N:Nat):Ent:=smF ⟨28,[],[.x qJ,.x qJ],[],[]⟩ [qJ,qJ] (Bool) (fun x=>vB N x.1 x.2.1) cs1 fun _=>qoN
theorem KO (N:Nat):zn Tryz.prog (WD N):=
 zq (H:=qqe) (L:=qX (qpP N)) (ts:=[qJ,qJ]) (T:=fun x=>qbw N x.1 x.2.1) 0 qwZ (qmH N) (qC (by kernel_rfl) trivial) (rg0 (by kernel_rfl)) fun x=>by kernel_rfl
noncomputable def qiQ:Code:=Tryz.f35.body.getD .skip
theorem qxk:FnF Tryz.prog 35 Tryz.f35 qiQ:=⟨qu,by kernel_rfl,by kernel_rfl,by kernel_rfl⟩
def qgU:TH:={ live:=[(0,[1]),(1,[1,21]),(2,[2]),(3,[1,23,24,25]),(4,[1,23,24,25,26]),(5,[1,3,4,23,24,25]),(6,[1,4,5,23,24,25]),(7,[1,23,24,25,74]),(8,[2]),(9,[1,23,24,25]),(10,[2])],dec:=[10,15,32,37,40,55,60,66] }
def qnv (N:Nat):List Ent:=[XB,qdY,WD N]
theorem qiI (N:Nat):q9 Tryz.prog (qnv N):=⟨WX,qiy,KO N,trivial⟩
abbrev Yg:=qf×List qk×Int
abbrev Jc:=Unit⊕(Int×Bool)
def VC (f:Yg):Jc→Ex×TSt
 | .inl y=>(.ret,⟨0,76,[],[(2,.bc false)],[],false,[]⟩)
 | .inr y=>(.exit 0,⟨0,76,[],[(1,.p 10 [] 0),(23,.tv (.sl 4 zN) f.2.1),(24,xi f.2.2),(25,xi y.1),(26,xb y.2)],[(10,.cell false (.tv qW f.1))],false,[]⟩)
def qo4 (N:Nat):List (Nat×qO):=[]
abbrev Vz:=Int
def qgM:SP:=⟨0,76,[],[(1,.k (.p 10 [] 0)),(23,.x (.sl 4 zN)),(24,.x (.i .i64)),(25,.x (.i .i64))],[(10,.cell false (.x qW))],false,[]⟩
def qqc (f:Yg) (v:Vz):TSt:=jC qgM [dv qW f.1,dv (.sl 4 zN) f.2.1,dv (.i .i64) f.2.2,dv (.i .i64) v]
def Yw (N:Nat) (o_4:qf) (s23_4:List qk) (s24_4:Int) (v:Vz):Tree (Vz⊕Jc):=
 .cond (decide (v < s24_4)) (
 .bind (zk s23_4 v) fun e1=>
 .cond (decide (v=((0:Int)))) (
 .cond (decide (((0:Int))≤(qk.No e1))) (
 .cond (decide (((8:Int))≤(qk.No e1))) (
 .ret (.inr (.inl ()))) <|
 .bind (VE (qk.C e1)) fun r2=>
 .cond (!r2) (
 .ret (.inr (.inl ()))) <|
 .bind (vB N (qf.jh o_4) (qq.S (qk.C e1))) fun r3=>
 .cond (!r3) (
 .ret (.inr (.inl ()))) <|
 .chk (qx (v + 1)) <|
 .ret (.inl (v + 1))) <|
 .cond (decide (((0:Int)) < v)) (
 .chk (qx (v - 1)) <|
 .bind (zk (qf.F o_4) (v - 1)) fun e2=>
 .cond (!(decide ((qk.No e2) < (qk.No e1)))) (
 .ret (.inr (.inl ()))) <|
 .cond (decide (((8:Int))≤(qk.No e1))) (
 .ret (.inr (.inl ()))) <|
 .bind (VE (qk.C e1)) fun r3=>
 .cond (!r3) (
 .ret (.inr (.inl ()))) <|
 .bind (vB N (qf.jh o_4) (qq.S (qk.C e1))) fun r4=>
 .cond (!r4) (
 .ret (.inr (.inl ()))) <|
 .chk (qx (v + 1)) <|
 .ret (.inl (v + 1))) <|
 .ret (.inr (.inl ()))) <|
 .cond (decide (((0:Int)) < v)) (
 .chk (qx (v - 1)) <|
 .bind (zk (qf.F o_4) (v - 1)) fun e2=>
 .cond (!(decide ((qk.No e2) < (qk.No e1)))) (
 .ret (.inr (.inl ()))) <|
 .cond (decide (((8:Int))≤(qk.No e1))) (
 .ret (.inr (.inl ()))) <|
 .bind (VE (qk.C e1)) fun r3=>
 .cond (!r3) (
 .ret (.inr (.inl ()))) <|
 .bind (vB N (qf.jh o_4) (qq.S (qk.C e1))) fun r4=>
 .cond (!r4) (
 .ret (.inr (.inl ()))) <|
 .chk (qx (v + 1)) <|
 .ret (.inl (v + 1))) <|
 .ret (.inr (.inl ()))) <|
 .ret (.inr (.inr ((v,decide (v < s24_4)))))
def qg_ (N n:Nat) (f:Yg) (v:Vz):Option Jc:=zi (Yw N f.1 f.2.1 f.2.2) some n v
theorem qqV (N:Nat) (f:Yg) (n:Nat) (v:Vz) (y:Jc) (h:qg_ N n f v=some y):LG Tryz.prog qgU 35 (zd qiQ 4) (qqc f v) (VC f y):=
 jc qu (E:=qnv N) (L:=qX (qo4 N)) (st:=VC f) (g:=some) (R:=VC f) (qiI N) (qC (by kernel_rfl) trivial) (rg0 (by kernel_rfl)) (fun v=>by kernel_rfl) (zo (st:=VC f) fun y=>by rcases y with _ | _<;>rfl) n v y h
def qam (N:Nat) (o_4:qf) (s23_4:List qk) (s24_4:Int) (s25_4:Int):Option Jc:=qg_ N N (o_4,s23_4,s24_4) s25_4
def qg2 (N:Nat):qO:=smL qgM [qW,(.sl 4 zN),(.i .i64),(.i .i64)] Jc (fun x=>qam N x.1 x.2.1 x.2.2.1 x.2.2.2.1) (csS cs1) fun x=>VC (x.1,x.2.1,x.2.2.1)
theorem qok (N:Nat):v5 Tryz.prog qgU 35 (zd qiQ 4) (qg2 N):=jx fun x z h=>qqV N (x.1,x.2.1,x.2.2.1) N x.2.2.2.1 z h
def qu3 (z:Bool):TV×THp:=(xb z,[])
def qhd (N:Nat) (a0:qf):Tree (Bool):=
 .bind (VM (qf.jh a0)) fun r1=>
 .cond (!r1) (
 .ret false) <|
 .cond (decide ((((qf.F a0).length:Nat):Int)=((0:Int)))) (
 .cond (eqE qJ (qf.jh a0) (qd.mk 0 0)) (
 .ret false) <|
 .bind (qam N a0 (qf.F a0) (((qf.F a0).length:Nat):Int) 0) fun z2=>
 .sum z2 (fun z3=>
 .ret false) fun z3=>
 .ret true) <|
 .bind (qam N a0 (qf.F a0) (((qf.F a0).length:Nat):Int) 0) fun z2=>
 .sum z2 (fun z3=>
 .ret false) fun z3=>
 .ret true
def qhB (N:Nat) (a0:qf):Option (Bool):=(qhd N a0).run some
def quV (N:Nat):List (Nat×qO):=[(4,qg2 N)]
def qnq (N:Nat):Ent:=smF ⟨35,[],[.x qW],[],[]⟩ [qW] (Bool) (fun x=>qhB N x.1) cs1 fun _=>qu3
theorem qtT (N:Nat):zn Tryz.prog (qnq N):=
 zq (H:=qgU) (L:=qX (quV N)) (ts:=[qW]) (T:=fun x=>qhd N x.1) 0 qxk (qiI N) (qC (by kernel_rfl) ⟨qok N,trivial⟩) (rg0 (by kernel_rfl)) fun x=>by kernel_rfl
noncomputable def qx9:Code:=Tryz.f94.body.getD .skip
theorem qxX:FnF Tryz.prog 94 Tryz.f94 qx9:=⟨qu,by kernel_rfl,by kernel_rfl,by kernel_rfl⟩
def qlS:TH:={ live:=[(0,[0,1]),(1,[4])] }
def qls (N:Nat):List Ent:=[qve]
theorem qid (N:Nat):q9 Tryz.prog (qls N):=⟨qy0,trivial⟩
def qkC (z:Int):TV×THp:=(xi z,[])
def WC (a0:List UInt8) (a1:List UInt8):Tree (Int):=
 .bind (qw9 a0 a1) fun r1=>
 .ret r1
def XM (a0:List UInt8) (a1:List UInt8):Option (Int):=(WC a0 a1).run some
def qlx:List (Nat×qO):=[]
def Ye:Ent:=smF ⟨94,[],[.x .bl,.x .bl],[],[]⟩ [.bl,.bl] (Int) (fun x=>XM x.1 x.2.1) cs1 fun _=>qkC
theorem qbq:zn Tryz.prog (Ye):=
 zq (H:=qlS) (L:=qX (qlx)) (ts:=[.bl,.bl]) (T:=fun x=>WC x.1 x.2.1) 0 qxX (qid 0) (qC (by kernel_rfl) trivial) (rg0 (by kernel_rfl)) fun x=>by kernel_rfl
noncomputable def qxb:Code:=Tryz.f60.body.getD .skip
theorem qyc:FnF Tryz.prog 60 Tryz.f60 qxb:=⟨qu,by kernel_rfl,by kernel_rfl,by kernel_rfl⟩
def qrB:TH:={ live:=[(0,[2,3]),(1,[4])],dec:=[8] }
def qrd (N:Nat):List Ent:=[Ye]
theorem qon (N:Nat):q9 Tryz.prog (qrd N):=⟨qbq,trivial⟩
def qrm (z:Bool):TV×THp:=(xb z,[])
def qcB (a0:Vector UInt8 16) (a1:Vector UInt8 16):Tree (Bool):=
 .cond (!(eqE (.ba 16) a0 a1)) (
 .bind (XM a0.toList a1.toList) fun r1=>
 .ret (decide (r1 < ((0:Int))))) <|
 .ret false
def qb_ (a0:Vector UInt8 16) (a1:Vector UInt8 16):Option (Bool):=(qcB a0 a1).run some
def qrp:List (Nat×qO):=[]
def qij:Ent:=smF ⟨60,[],[.x (.ba 16),.x (.ba 16)],[],[]⟩ [(.ba 16),(.ba 16)] (Bool) (fun x=>qb_ x.1 x.2.1) cs1 fun _=>qrm
theorem qpj:zn Tryz.prog (qij):=
 zq (H:=qrB) (L:=qX (qrp)) (ts:=[(.ba 16),(.ba 16)]) (T:=fun x=>qcB x.1 x.2.1) 0 qyc (qon 0) (qC (by kernel_rfl) trivial) (rg0 (by kernel_rfl)) fun x=>by kernel_rfl
noncomputable def qiS:Code:=Tryz.f25.body.getD .skip
theorem qxN:FnF Tryz.prog 25 Tryz.f25 qiS:=⟨qu,by kernel_rfl,by kernel_rfl,by kernel_rfl⟩
def qek:TH:={ live:=[(0,[1]),(1,[1,6,7,8]),(2,[1,6,7,8,9]),(3,[1,3,4,6,7,8]),(4,[1,6,7,8,32]),(5,[2]),(6,[1,6,7,8]),(7,[2])],dec:=[16,19] }
def qk4 (N:Nat):List Ent:=[qnq N,qij]
theorem qf4 (N:Nat):q9 Tryz.prog (qk4 N):=⟨qtT N,qpj,trivial⟩
abbrev X9:=qo×List qf×Int
abbrev Zq:=Unit⊕(Int×Bool)
def JP (f:X9):Zq→Ex×TSt
 | .inl y=>(.ret,⟨0,38,[],[(2,.bc false)],[],false,[]⟩)
 | .inr y=>(.exit 0,⟨0,38,[],[(1,.p 10 [] 0),(6,.tv (.sl 19 qW) f.2.1),(7,xi f.2.2),(8,xi y.1),(9,xb y.2)],[(10,.cell false (.tv zg f.1))],false,[]⟩)
def qoa (N:Nat):List (Nat×qO):=[]
abbrev JS:=Int
def qfe:SP:=⟨0,38,[],[(1,.k (.p 10 [] 0)),(6,.x (.sl 19 qW)),(7,.x (.i .i64)),(8,.x (.i .i64))],[(10,.cell false (.x zg))],false,[]⟩
def qop (f:X9) (v:JS):TSt:=jC qfe [dv zg f.1,dv (.sl 19 qW) f.2.1,dv (.i .i64) f.2.2,dv (.i .i64) v]
def XV (N:Nat) (o_2:qo) (s6_2:List qf) (s7_2:Int) (v:JS):Tree (JS⊕Zq):=
 .cond (decide (v < s7_2)) (
 .bind (zk s6_2 v) fun e1=>
 .bind (qhB N e1) fun r2=>
 .cond (!r2) (
 .ret (.inr (.inl ()))) <|
 .cond (decide (((0:Int)) < v)) (
 .chk (qx (v - 1)) <|
 .bind (zk (qo.R o_2) (v - 1)) fun e3=>
 .bind (qb_ (qf.ID e3) (qf.ID e1)) fun r4=>
 .cond (!r4) (
 .ret (.inr (.inl ()))) <|
 .chk (qx (v + 1)) <|
 .ret (.inl (v + 1))) <|
 .chk (qx (v + 1)) <|
 .ret (.inl (v + 1))) <|
 .ret (.inr (.inr ((v,decide (v < s7_2)))))
def qeU (N n:Nat) (f:X9) (v:JS):Option Zq:=zi (XV N f.1 f.2.1 f.2.2) some n v
theorem qn7 (N:Nat) (f:X9) (n:Nat) (v:JS) (y:Zq) (h:qeU N n f v=some y):LG Tryz.prog qek 25 (zd qiS 2) (qop f v) (JP f y):=
 jc qu (E:=qk4 N) (L:=qX (qoa N)) (st:=JP f) (g:=some) (R:=JP f) (qf4 N) (qC (by kernel_rfl) trivial) (rg0 (by kernel_rfl)) (fun v=>by kernel_rfl) (zo (st:=JP f) fun y=>by rcases y with _ | _<;>rfl) n v y h
def qcO (N:Nat) (o_2:qo) (s6_2:List qf) (s7_2:Int) (s8_2:Int):Option Zq:=qeU N N (o_2,s6_2,s7_2) s8_2
def qe8 (N:Nat):qO:=smL qfe [zg,(.sl 19 qW),(.i .i64),(.i .i64)] Zq (fun x=>qcO N x.1 x.2.1 x.2.2.1 x.2.2.2.1) (csS cs1) fun x=>JP (x.1,x.2.1,x.2.2.1)
theorem qlV (N:Nat):v5 Tryz.prog qek 25 (zd qiS 2) (qe8 N):=jx fun x z h=>qn7 N (x.1,x.2.1,x.2.2.1) N x.2.2.2.1 z h
def qs0 (z:Bool):TV×THp:=(xb z,[])
def qdX (N:Nat) (a0:qo):Tree (Bool):=
 .bind (qcO N a0 (qo.R a0) (((qo.R a0).length:Nat):Int) 0) fun z1=>
 .sum z1 (fun z2=>
 .ret false) fun z2=>
 .ret (decide ((((qo.R a0).length:Nat):Int)≤((10:Int))))
def Y2 (N:Nat) (a0:qo):Option (Bool):=(qdX N a0).run some
def qtZ (N:Nat):List (Nat×qO):=[(2,qe8 N)]
def qd6 (N:Nat):Ent:=smF ⟨25,[],[.x zg],[],[]⟩ [zg] (Bool) (fun x=>Y2 N x.1) cs1 fun _=>qs0
theorem qix (N:Nat):zn Tryz.prog (qd6 N):=
 zq (H:=qek) (L:=qX (qtZ N)) (ts:=[zg]) (T:=fun x=>qdX N x.1) 0 qxN (qf4 N) (qC (by kernel_rfl) ⟨qlV N,trivial⟩) (rg0 (by kernel_rfl)) fun x=>by kernel_rfl
noncomputable def qfG:Code:=Tryz.f133.body.getD .skip
theorem qvh:FnF Tryz.prog 133 Tryz.f133 qfG:=⟨qu,by kernel_rfl,by kernel_rfl,by kernel_rfl⟩
def K3:TH:={ live:=[(0,[0]),(1,[0,3]),(2,[0,3]),(3,[0,3,7]),(4,[0,3]),(5,[0,3]),(6,[2])] }
def qeT (N:Nat):List Ent:=[]
theorem qbS (N:Nat):q9 Tryz.prog (qeT N):=trivial
abbrev Jy:=Unit
abbrev vY:=Int×Int×Bool
def Q8 (f:Jy) (y:vY):Ex×TSt:=(.exit 0,⟨0,13,[],[(0,.tv (.i .u64) (y.1:Int)),(3,xi y.2.1),(7,xb y.2.2)],[],false,[]⟩)
def qjs (N:Nat):List (Nat×qO):=[]
abbrev Za:=Int×Int
def qa9:SP:=⟨0,13,[],[(0,.x (.i .u64)),(3,.x (.i .i64))],[],false,[]⟩
def qji (f:Jy) (v:Za):TSt:=jC qa9 [dv (.i .u64) v.1,dv (.i .i64) v.2]
def Jm (N:Nat) (v:Za):Tree (Za⊕vY):=
 .cond (decide (((0:Int)) < v.1)) (
 .chk (qx (v.2 + 1)) <|
 .chk (0≤(7:Int)) <|
 .ret (.inl (Wd v.1 7,v.2 + 1))) <|
 .ret (.inr (v.1,v.2,decide (((0:Int)) < v.1)))
def qbx (N n:Nat) (f:Jy) (v:Za):Option vY:=zi (Jm N) some n v
theorem qjc (N:Nat) (f:Jy) (n:Nat) (v:Za) (y:vY) (h:qbx N n f v=some y):LG Tryz.prog K3 133 (zd qfG 3) (qji f v) (Q8 f y):=
 jc qu (E:=qeT N) (L:=qX (qjs N)) (st:=Q8 f) (g:=some) (R:=Q8 f) (qbS N) (qC (by kernel_rfl) trivial) (rg0 (by kernel_rfl)) (fun v=>by kernel_rfl) (zo (st:=Q8 f) fun y=>by rfl) n v y h
def Y1 (N:Nat) (s0_3:Int) (s3_3:Int):Option vY:=qbx N N () (s0_3,s3_3)
def qbk (N:Nat):qO:=smL qa9 [(.i .u64),(.i .i64)] vY (fun x=>Y1 N x.1 x.2.1) cs1 fun x=>Q8 ()
theorem qhY (N:Nat):v5 Tryz.prog K3 133 (zd qfG 3) (qbk N):=jx fun x z h=>qjc N () N (x.1,x.2.1) z h
def qnH (z:Int):TV×THp:=(xi z,[])
def KT (N:Nat) (a0:Int):Tree (Int):=
 .chk (0≤(7:Int)) <|
 .bind (Y1 N (Wd a0 7) 1) fun z1=>
 .ret z1.2.1
def Kk (N:Nat) (a0:Int):Option (Int):=(KT N a0).run some
def qnZ (N:Nat):List (Nat×qO):=[(3,qbk N)]
def qfg (N:Nat):Ent:=smF ⟨133,[],[.x (.i .u64)],[],[]⟩ [(.i .u64)] (Int) (fun x=>Kk N x.1) cs1 fun _=>qnH
theorem qmR (N:Nat):zn Tryz.prog (qfg N):=
 zq (H:=K3) (L:=qX (qnZ N)) (ts:=[(.i .u64)]) (T:=fun x=>KT N x.1) 0 qvh (qbS N) (qC (by kernel_rfl) ⟨qhY N,trivial⟩) (rg0 (by kernel_rfl)) fun x=>by kernel_rfl
noncomputable def qgj:Code:=Tryz.f108.body.getD .skip
theorem qvu:FnF Tryz.prog 108 Tryz.f108 qgj:=⟨qu,by kernel_rfl,by kernel_rfl,by kernel_rfl⟩
def qed:TH:={ live:=[(0,[0]),(1,[0,3]),(2,[0,3,4]),(3,[0,3,4,10,11]),(4,[0,3,4,10,11,12]),(5,[0,3,4,5,10,11]),(6,[0,3,4,10,11]),(7,[0,3,4,10,11]),(8,[4]),(9,[2])],esc:=true }
def qlB (N:Nat):List Ent:=[qfg N]
theorem qgA (N:Nat):q9 Tryz.prog (qlB N):=⟨qmR N,trivial⟩
abbrev XR:=Int×Int×Nat×Int
abbrev Zj:=List UInt8×Int×Bool
def J6 (f:XR) (y:Zj):Ex×TSt:=(.exit 0,⟨1,35,[],[(0,.tv (.i .u64) f.1),(3,xi f.2.1),(4,.v 100090 f.2.2.1),(10,xi f.2.2.2),(11,xi y.2.1),(12,xb y.2.2)],[(100090,.vec false 1 .bl (y.1:List UInt8))],false,[]⟩)
def qnG (N:Nat):List (Nat×qO):=[]
abbrev J4:=List UInt8×Int
def qfj:SP:=⟨1,35,[],[(0,.x (.i .u64)),(3,.x (.i .i64)),(4,.v 100090),(10,.x (.i .i64)),(11,.x (.i .i64))],[(100090,.vec false 1)],false,[]⟩
def qoo (f:XR) (v:J4):TSt:=jC qfj [dv .bl v.1,dv (.i .u64) f.1,dv (.i .i64) f.2.1,dv .nat f.2.2.1,dv (.i .i64) f.2.2.2,dv (.i .i64) v.2]
def XX (N:Nat) (s0_4:Int) (s3_4:Int) (s4_4:Nat) (s10_4:Int) (v:J4):Tree (J4⊕Zj):=
 .cond (decide (v.2 < s10_4)) (
 .chk (qx (s3_4 - 1)) <|
 .chk (qx ((s3_4 - 1) - v.2)) <|
 .chk (qx (((7:Int)) * v.2)) <|
 .chk (0≤(((7:Int)) * v.2)) <|
 let w1:Int:=Wd s0_4 (min (((7:Int)) * v.2).toNat 64)
 .chk (0≤((s3_4 - 1) - v.2)∧((s3_4 - 1) - v.2) < ((s4_4:Nat):Int)) <|
 .chk (qbQ v.1.length s4_4 (((s3_4 - 1) - v.2).toNat)) <|
 .chk (inB (uOr .u8 (IntKind.u8.wrap w1) 128)) <|
 .chk (qx (v.2 + 1)) <|
 .ret (.inl (v.1.set (((s3_4 - 1) - v.2).toNat) (UInt8.ofNat (uOr .u8 (IntKind.u8.wrap w1) 128).toNat),v.2 + 1))) <|
 .ret (.inr (v.1,v.2,decide (v.2 < s10_4)))
def qe2 (N n:Nat) (f:XR) (v:J4):Option Zj:=zi (XX N f.1 f.2.1 f.2.2.1 f.2.2.2) some n v
theorem qod (N:Nat) (f:XR) (n:Nat) (v:J4) (y:Zj) (h:qe2 N n f v=some y):LG Tryz.prog qed 108 (zd qgj 4) (qoo f v) (J6 f y):=
 jc qu (E:=qlB N) (L:=qX (qnG N)) (st:=J6 f) (g:=some) (R:=J6 f) (qgA N) (qC (by kernel_rfl) trivial) (rg0 (by kernel_rfl)) (fun v=>by kernel_rfl) (zo (st:=J6 f) fun y=>by rfl) n v y h
def Ka (N:Nat) (s0_4:Int) (s3_4:Int) (s4_4:Nat) (s10_4:Int) (o_4:List UInt8) (s11_4:Int):Option Zj:=qe2 N N (s0_4,s3_4,s4_4,s10_4) (o_4,s11_4)
def qfd (N:Nat):qO:=smL qfj [.bl,(.i .u64),(.i .i64),.nat,(.i .i64),(.i .i64)] Zj (fun x=>Ka N x.2.1 x.2.2.1 x.2.2.2.1 x.2.2.2.2.1 x.1 x.2.2.2.2.2.1) cs1 fun x=>J6 (x.2.1,x.2.2.1,x.2.2.2.1,x.2.2.2.2.1)
theorem qmf (N:Nat):v5 Tryz.prog qed 108 (zd qgj 4) (qfd N):=jx fun x z h=>qod N (x.2.1,x.2.2.1,x.2.2.2.1,x.2.2.2.2.1) N (x.1,x.2.2.2.2.2.1) z h
def qul (z:List UInt8×Nat):TV×THp:=(.v 100090 z.2,[(100090,.vec false 1 .bl (z.1:List UInt8))])
def qdG (N:Nat) (a0:Int):Tree (List UInt8×Nat):=
 .bind (Kk N a0) fun r1=>
 .chk (qqC r1 r1 1) <|
 .bind (Ka N a0 r1 (((List.replicate r1.toNat 0:List UInt8)).length) r1 ((List.replicate r1.toNat 0:List UInt8)) 0) fun z2=>
 .chk (qx (r1 - 1)) <|
 .chk (0≤(r1 - 1)∧(r1 - 1) < ((((List.replicate r1.toNat 0:List UInt8)).length:Nat):Int)) <|
 .bind (K1 z2.1 (((List.replicate r1.toNat 0:List UInt8)).length) ((r1 - 1).toNat)) fun e3=>
 let w4:Int:=qhi .u8 ((e3.toNat:Nat):Int) 128
 .chk (0≤(r1 - 1)∧(r1 - 1) < ((((List.replicate r1.toNat 0:List UInt8)).length:Nat):Int)) <|
 .chk (qbQ z2.1.length (((List.replicate r1.toNat 0:List UInt8)).length) ((r1 - 1).toNat)) <|
 .chk (inB w4) <|
 .ret (z2.1.set ((r1 - 1).toNat) (UInt8.ofNat w4.toNat),((List.replicate r1.toNat 0:List UInt8)).length)
def v9 (N:Nat) (a0:Int):Option (List UInt8×Nat):=(qdG N a0).run some
def qtV (N:Nat):List (Nat×qO):=[(4,qfd N)]
def Yr (N:Nat):Ent:=smF ⟨108,[],[.x (.i .u64)],[],[]⟩ [(.i .u64)] (List UInt8×Nat) (fun x=>v9 N x.1) cs1 fun _=>qul
theorem Kc (N:Nat):zn Tryz.prog (Yr N):=
 zq (H:=qed) (L:=qX (qtV N)) (ts:=[(.i .u64)]) (T:=fun x=>qdG N x.1) 0 qvu (qgA N) (qC (by kernel_rfl) ⟨qmf N,trivial⟩) (rg0 (by kernel_rfl)) fun x=>by kernel_rfl
noncomputable def qu8:Code:=Tryz.f109.body.getD .skip
theorem qm5:FnF Tryz.prog 109 Tryz.f109 qu8:=⟨qu,by kernel_rfl,by kernel_rfl,by kernel_rfl⟩
def qrV:TH:={ live:=[(0,[1]),(1,[1,6]),(2,[2,3]),(3,[2,3])],fresh:=[15] }
def qqZ (N:Nat):List Ent:=[XB,Yr N]
theorem qoj (N:Nat):q9 Tryz.prog (qqZ N):=⟨WX,Kc N,trivial⟩
def qrU (z:List UInt8×Bool):TV×THp:=(.tup [.tv .bl (z.1:List UInt8),xb z.2],[])
def qct (N:Nat) (a0:qd):Tree (List UInt8×Bool):=
 .bind (VM a0) fun r1=>
 .cond (!r1) (
 .ret ([],false)) <|
 .chk (0≤(3:Int)) <|
 let w2:Int:=Yx .u64 (IntKind.u64.wrap (qd.N a0)) 3
 let w3:Int:=uOr .u64 w2 (IntKind.u64.wrap (qd.Rep a0))
 .bind (v9 N w3) fun r4=>
 .chk (r4.1.length=r4.2) <|
 .ret (r4.1,true)
def qbK (N:Nat) (a0:qd):Option (List UInt8×Bool):=(qct N a0).run some
def qq6 (N:Nat):List (Nat×qO):=[]
def qiK (N:Nat):Ent:=smF ⟨109,[],[.x qJ],[],[]⟩ [qJ] (List UInt8×Bool) (fun x=>qbK N x.1) cs1 fun _=>qrU
theorem qqN (N:Nat):zn Tryz.prog (qiK N):=
 zq (H:=qrV) (L:=qX (qq6 N)) (ts:=[qJ]) (T:=fun x=>qct N x.1) 0 qm5 (qoj N) (qC (by kernel_rfl) trivial) (rg0 (by kernel_rfl)) fun x=>by kernel_rfl
def qog:TH:={ live:=[(0,[1]),(1,[1,6]),(2,[2,3]),(3,[2,3])],fresh:=[15],esc:=true }
def qnF (N:Nat):List Ent:=[XB,Yr N]
theorem qkT (N:Nat):q9 Tryz.prog (qnF N):=⟨WX,Kc N,trivial⟩
def qnN:Unit⊕(List UInt8×Nat)→TV×THp
 | .inl z=>(.tup [.nils,.bc false],[])
 | .inr z=>(.tup [.v 100090 z.2,.bc true],[(100090,.vec false 1 .bl (z.1:List UInt8))])
def KY (N:Nat) (a0:qd):Tree (Unit⊕(List UInt8×Nat)):=
 .bind (VM a0) fun r1=>
 .cond (!r1) (
 .ret (.inl ())) <|
 .chk (0≤(3:Int)) <|
 let w2:Int:=Yx .u64 (IntKind.u64.wrap (qd.N a0)) 3
 let w3:Int:=uOr .u64 w2 (IntKind.u64.wrap (qd.Rep a0))
 .bind (v9 N w3) fun r4=>
 .ret (.inr ((r4.1,r4.2)))
def XF (N:Nat) (a0:qd):Option (Unit⊕(List UInt8×Nat)):=(KY N a0).run some
def qn6 (N:Nat):List (Nat×qO):=[]
def qe7 (N:Nat):Ent:=smF ⟨109,[],[.x qJ],[],[]⟩ [qJ] (Unit⊕(List UInt8×Nat)) (fun x=>XF N x.1) (csS cs1) fun _=>qnN
theorem qmd (N:Nat):zn Tryz.prog (qe7 N):=
 zq (H:=qog) (L:=qX (qn6 N)) (ts:=[qJ]) (T:=fun x=>KY N x.1) 0 qm5 (qkT N) (qC (by kernel_rfl) trivial) (rg0 (by kernel_rfl)) fun x=>by kernel_rfl
noncomputable def qu9:Code:=Tryz.f134.body.getD .skip
theorem quw:FnF Tryz.prog 134 Tryz.f134 qu9:=⟨qu,by kernel_rfl,by kernel_rfl,by kernel_rfl⟩
def qrc:TH:={ live:=[(0,[0]),(1,[2])],fresh:=[6] }
def qq7 (N:Nat):List Ent:=[Yr N]
theorem qom (N:Nat):q9 Tryz.prog (qq7 N):=⟨Kc N,trivial⟩
def qrX (z:List UInt8):TV×THp:=(.tv .bl z,[])
def qcY (N:Nat) (a0:List UInt8):Tree (List UInt8):=
 let w1:Int:=IntKind.u64.wrap ((a0.length:Nat):Int)
 .bind (v9 N w1) fun r2=>
 .chk (jI r2.1.length r2.2 ((r2.1++a0).length) 1) <|
 .chk ((r2.1++a0).length=(r2.1++a0).length) <|
 .ret (r2.1++a0)
def Kp (N:Nat) (a0:List UInt8):Option (List UInt8):=(qcY N a0).run some
def qrS (N:Nat):List (Nat×qO):=[]
def qiF (N:Nat):Ent:=smF ⟨134,[],[.x .s],[],[]⟩ [.s] (List UInt8) (fun x=>Kp N x.1) cs1 fun _=>qrX
theorem qpA (N:Nat):zn Tryz.prog (qiF N):=
 zq (H:=qrc) (L:=qX (qrS N)) (ts:=[.s]) (T:=fun x=>qcY N x.1) 0 quw (qom N) (qC (by kernel_rfl) trivial) (rg0 (by kernel_rfl)) fun x=>by kernel_rfl
noncomputable def qvf:Code:=Tryz.f110.body.getD .skip
theorem qu2:FnF Tryz.prog 110 Tryz.f110 qvf:=⟨qu,by kernel_rfl,by kernel_rfl,by kernel_rfl⟩
def quk:TH:={ live:=[(0,[1]),(1,[1,8]),(2,[2,3]),(3,[1,4]),(4,[2,3])],fresh:=[12],nil:=[(3,[⟨.sl 4,45,.bl⟩])] }
def qsX (N:Nat):List Ent:=[qdY,qe7 N,qiF N]
theorem qpY (N:Nat):q9 Tryz.prog (qsX N):=⟨qiy,qmd N,qpA N,trivial⟩
def qtx (z:List UInt8×Bool):TV×THp:=(.tup [.tv .bl (z.1:List UInt8),xb z.2],[])
def qey (N:Nat) (a0:qq):Tree (List UInt8×Bool):=
 .bind (VE a0) fun r1=>
 .cond (!r1) (
 .ret ([],false)) <|
 .bind (XF N (qq.S a0)) fun r2=>
 .sum r2 (fun r3=>
 .bind (Kp N (qq.V a0)) fun r4=>
 .chk (jI ((([]:List UInt8)).length) 0 (((([]:List UInt8))++r4).length) 1) <|
 .chk (((([]:List UInt8))++r4).length=((([]:List UInt8))++r4).length) <|
 .ret ((([]:List UInt8))++r4,true)) fun r3=>
 .bind (Kp N (qq.V a0)) fun r4=>
 .chk (jI r3.1.length r3.2 ((r3.1++r4).length) 1) <|
 .chk ((r3.1++r4).length=(r3.1++r4).length) <|
 .ret (r3.1++r4,true)
def qeK (N:Nat) (a0:qq):Option (List UInt8×Bool):=(qey N a0).run some
def qtY (N:Nat):List (Nat×qO):=[]
def qkv (N:Nat):Ent:=smF ⟨110,[],[.x zT],[],[]⟩ [zT] (List UInt8×Bool) (fun x=>qeK N x.1) cs1 fun _=>qtx
theorem qq0 (N:Nat):zn Tryz.prog (qkv N):=
 zq (H:=quk) (L:=qX (qtY N)) (ts:=[zT]) (T:=fun x=>qey N x.1) 0 qu2 (qpY N) (qC (by kernel_rfl) trivial) (rg0 (by kernel_rfl)) fun x=>by kernel_rfl
noncomputable def qaJ:Code:=Tryz.f84.body.getD .skip
theorem qya:FnF Tryz.prog 84 Tryz.f84 qaJ:=⟨qu,by kernel_rfl,by kernel_rfl,by kernel_rfl⟩
def XG:TH:={ live:=[(0,[1]),(1,[1,15]),(2,[2,3]),(3,[1,4]),(4,[4,22,23,24]),(5,[4,22,23,24,25]),(6,[4,6,22,23,24]),(7,[4,6,7,22,23,24]),(8,[4,6,22,23,24]),(9,[4,22,23,24,47,48,49]),(10,[4,22,23,24,47,48,49,50]),(11,[4,10,22,23,24,47,48,49]),(12,[4,10,11,22,23,24,47,48,49]),(13,[4,22,23,24,47,48,49]),(14,[4,22,23,24,47,48,49]),(15,[4,22,23,24]),(16,[2,3])],fresh:=[20],rd:=[(6,[6]),(11,[10])] }
def qcu (N:Nat):List Ent:=[qd6 N,Yr N,qiK N,qkv N]
theorem KR (N:Nat):q9 Tryz.prog (qcu N):=⟨qix N,Kc N,qqN N,qq0 N,trivial⟩
abbrev Vq:=List qf×Int×Int×List qk×Int
abbrev Qs:=List UInt8×Nat×Int×Bool
def Zw (f:Vq) (y:Qs):Ex×TSt:=(.exit 2,⟨0,70,[],[(4,.v 100090 y.2.1),(22,.tv (.sl 19 qW) f.1),(23,xi f.2.1),(24,xi f.2.2.1),(47,.tv (.sl 4 zN) f.2.2.2.1),(48,xi f.2.2.2.2),(49,xi y.2.2.1),(50,xb y.2.2.2)],[(100090,.vec false 1 .bl (y.1:List UInt8))],false,[]⟩)
def qli (N:Nat):List (Nat×qO):=[]
abbrev ZD:=List UInt8×Nat×Int
def qbY:SP:=⟨0,70,[],[(4,.v 100090),(22,.x (.sl 19 qW)),(23,.x (.i .i64)),(24,.x (.i .i64)),(47,.x (.sl 4 zN)),(48,.x (.i .i64)),(49,.x (.i .i64))],[(100090,.vec false 1)],false,[]⟩
def qlz (f:Vq) (v:ZD):TSt:=jC qbY [dv .bl v.1,dv .nat v.2.1,dv (.sl 19 qW) f.1,dv (.i .i64) f.2.1,dv (.i .i64) f.2.2.1,dv (.sl 4 zN) f.2.2.2.1,dv (.i .i64) f.2.2.2.2,dv (.i .i64) v.2.2]
def Vu (N:Nat) (s22_10:List qf) (s23_10:Int) (s24_10:Int) (s47_10:List qk) (s48_10:Int) (v:ZD):Tree (ZD⊕Qs):=
 .cond (decide (v.2.2 < s48_10)) (
 .bind (zk s47_10 v.2.2) fun e1=>
 .bind (qeK N (qk.C e1)) fun r2=>
 .chk (inB (IntKind.u8.wrap (qk.No e1))) <|
 .chk (jI v.1.length v.2.1 ((v.1++[UInt8.ofNat (IntKind.u8.wrap (qk.No e1)).toNat]).length) 1) <|
 .chk (jI ((v.1++[UInt8.ofNat (IntKind.u8.wrap (qk.No e1)).toNat]).length) ((v.1++[UInt8.ofNat (IntKind.u8.wrap (qk.No e1)).toNat]).length) (((v.1++[UInt8.ofNat (IntKind.u8.wrap (qk.No e1)).toNat])++r2.1).length) 1) <|
 .chk (qx (v.2.2 + 1)) <|
 .ret (.inl ((v.1++[UInt8.ofNat (IntKind.u8.wrap (qk.No e1)).toNat])++r2.1,((v.1++[UInt8.ofNat (IntKind.u8.wrap (qk.No e1)).toNat])++r2.1).length,v.2.2 + 1))) <|
 .ret (.inr (v.1,v.2.1,v.2.2,decide (v.2.2 < s48_10)))
def qbL (N n:Nat) (f:Vq) (v:ZD):Option Qs:=zi (Vu N f.1 f.2.1 f.2.2.1 f.2.2.2.1 f.2.2.2.2) some n v
theorem qlj (N:Nat) (f:Vq) (n:Nat) (v:ZD) (y:Qs) (h:qbL N n f v=some y):LG Tryz.prog XG 84 (zd (zd qaJ 5) 10) (qlz f v) (Zw f y):=
 jc qu (E:=qcu N) (L:=qX (qli N)) (st:=Zw f) (g:=some) (R:=Zw f) (KR N) (qC (by kernel_rfl) trivial) (rg0 (by kernel_rfl)) (fun v=>by kernel_rfl) (zo (st:=Zw f) fun y=>by rfl) n v y h
def KP (N:Nat) (s22_10:List qf) (s23_10:Int) (s24_10:Int) (s47_10:List qk) (s48_10:Int) (o_10:List UInt8) (s4_10:Nat) (s49_10:Int):Option Qs:=qbL N N (s22_10,s23_10,s24_10,s47_10,s48_10) (o_10,s4_10,s49_10)
def qb2 (N:Nat):qO:=smL qbY [.bl,.nat,(.sl 19 qW),(.i .i64),(.i .i64),(.sl 4 zN),(.i .i64),(.i .i64)] Qs (fun x=>KP N x.2.2.1 x.2.2.2.1 x.2.2.2.2.1 x.2.2.2.2.2.1 x.2.2.2.2.2.2.1 x.1 x.2.1 x.2.2.2.2.2.2.2.1) cs1 fun x=>Zw (x.2.2.1,x.2.2.2.1,x.2.2.2.2.1,x.2.2.2.2.2.1,x.2.2.2.2.2.2.1)
theorem qjn (N:Nat):v5 Tryz.prog XG 84 (zd (zd qaJ 5) 10) (qb2 N):=jx fun x z h=>qlj N (x.2.2.1,x.2.2.2.1,x.2.2.2.2.1,x.2.2.2.2.2.1,x.2.2.2.2.2.2.1) N (x.1,x.2.1,x.2.2.2.2.2.2.2.1) z h
abbrev Xd:=List qf×Int
abbrev QY:=List UInt8×Nat×Int×Bool
def Z5 (f:Xd) (y:QY):Ex×TSt:=(.exit 0,⟨0,70,[],[(4,.v 100090 y.2.1),(22,.tv (.sl 19 qW) f.1),(23,xi f.2),(24,xi y.2.2.1),(25,xb y.2.2.2)],[(100090,.vec false 1 .bl (y.1:List UInt8))],false,[]⟩)
def qmm (N:Nat):List (Nat×qO):=[(10,qb2 N)]
abbrev Je:=List UInt8×Nat×Int
def qdp:SP:=⟨0,70,[],[(4,.v 100090),(22,.x (.sl 19 qW)),(23,.x (.i .i64)),(24,.x (.i .i64))],[(100090,.vec false 1)],false,[]⟩
def qmy (f:Xd) (v:Je):TSt:=jC qdp [dv .bl v.1,dv .nat v.2.1,dv (.sl 19 qW) f.1,dv (.i .i64) f.2,dv (.i .i64) v.2.2]
def Xi (N:Nat) (s22_5:List qf) (s23_5:Int) (v:Je):Tree (Je⊕QY):=
 .cond (decide (v.2.2 < s23_5)) (
 .bind (zk s22_5 v.2.2) fun e1=>
 .bind (qbK N (qf.jh e1)) fun r2=>
 .chk (jI v.1.length v.2.1 ((v.1++((qf.ID e1).toList)).length) 1) <|
 .chk (jI ((v.1++((qf.ID e1).toList)).length) ((v.1++((qf.ID e1).toList)).length) (((v.1++((qf.ID e1).toList))++r2.1).length) 1) <|
 let w3:Int:=IntKind.u64.wrap (((qf.F e1).length:Nat):Int)
 .bind (v9 N w3) fun r4=>
 .chk (r4.1.length=r4.2) <|
 .chk (jI (((v.1++((qf.ID e1).toList))++r2.1).length) (((v.1++((qf.ID e1).toList))++r2.1).length) ((((v.1++((qf.ID e1).toList))++r2.1)++r4.1).length) 1) <|
 .bind (KP N s22_5 s23_5 v.2.2 (qf.F e1) (((qf.F e1).length:Nat):Int) (((v.1++((qf.ID e1).toList))++r2.1)++r4.1) ((((v.1++((qf.ID e1).toList))++r2.1)++r4.1).length) 0) fun z5=>
 .chk (qx (v.2.2 + 1)) <|
 .ret (.inl (z5.1,z5.2.1,v.2.2 + 1))) <|
 .ret (.inr (v.1,v.2.1,v.2.2,decide (v.2.2 < s23_5)))
def qdl (N n:Nat) (f:Xd) (v:Je):Option QY:=zi (Xi N f.1 f.2) some n v
theorem qmj (N:Nat) (f:Xd) (n:Nat) (v:Je) (y:QY) (h:qdl N n f v=some y):LG Tryz.prog XG 84 (zd qaJ 5) (qmy f v) (Z5 f y):=
 jc qu (E:=qcu N) (L:=qX (qmm N)) (st:=Z5 f) (g:=some) (R:=Z5 f) (KR N) (qC (by kernel_rfl) ⟨qjn N,trivial⟩) (rg0 (by kernel_rfl)) (fun v=>by kernel_rfl) (zo (st:=Z5 f) fun y=>by rfl) n v y h
def qbo (N:Nat) (s22_5:List qf) (s23_5:Int) (o_5:List UInt8) (s4_5:Nat) (s24_5:Int):Option QY:=qdl N N (s22_5,s23_5) (o_5,s4_5,s24_5)
def qdA (N:Nat):qO:=smL qdp [.bl,.nat,(.sl 19 qW),(.i .i64),(.i .i64)] QY (fun x=>qbo N x.2.2.1 x.2.2.2.1 x.1 x.2.1 x.2.2.2.2.1) cs1 fun x=>Z5 (x.2.2.1,x.2.2.2.1)
theorem qkU (N:Nat):v5 Tryz.prog XG 84 (zd qaJ 5) (qdA N):=jx fun x z h=>qmj N (x.2.2.1,x.2.2.2.1) N (x.1,x.2.1,x.2.2.2.2.1) z h
def qro (z:List UInt8×Bool):TV×THp:=(.tup [.tv .bl (z.1:List UInt8),xb z.2],[])
def qcM (N:Nat) (a0:qo):Tree (List UInt8×Bool):=
 .bind (Y2 N a0) fun r1=>
 .cond (!r1) (
 .ret ([],false)) <|
 let w2:Int:=IntKind.u64.wrap (((qo.R a0).length:Nat):Int)
 .bind (v9 N w2) fun r3=>
 .bind (qbo N (qo.R a0) (((qo.R a0).length:Nat):Int) r3.1 r3.2 0) fun z4=>
 .chk (z4.1.length=z4.2.1) <|
 .ret (z4.1,true)
def qbT (N:Nat) (a0:qo):Option (List UInt8×Bool):=(qcM N a0).run some
def qrz (N:Nat):List (Nat×qO):=[(5,qdA N)]
def qiH (N:Nat):Ent:=smF ⟨84,[],[.x zg],[],[]⟩ [zg] (List UInt8×Bool) (fun x=>qbT N x.1) cs1 fun _=>qro
theorem qpn (N:Nat):zn Tryz.prog (qiH N):=
 zq (H:=XG) (L:=qX (qrz N)) (ts:=[zg]) (T:=fun x=>qcM N x.1) 0 qya (KR N) (qC (by kernel_rfl) ⟨qkU N,trivial⟩) (rg0 (by kernel_rfl)) fun x=>by kernel_rfl
noncomputable def qwQ:Code:=Tryz.f50.body.getD .skip
theorem qxT:FnF Tryz.prog 50 Tryz.f50 qwQ:=⟨qu,by kernel_rfl,by kernel_rfl,by kernel_rfl⟩
def qmq:TH:={ live:=[(0,[1,2]),(1,[2,3]),(2,[2])] }
def qmi (N:Nat):List Ent:=[qiH N,qfz N]
theorem qiM (N:Nat):q9 Tryz.prog (qmi N):=⟨qpn N,qeR N,trivial⟩
def qmE (z:Vector UInt8 32):TV×THp:=(.tv (.ba 32) z,[])
def YW (N:Nat) (a0:qo):Tree (Vector UInt8 32):=
 .bind (qbT N a0) fun r1=>
 .bind (Z9 N r1.1) fun r2=>
 .ret r2
def V8 (N:Nat) (a0:qo):Option (Vector UInt8 32):=(YW N a0).run some
def ql1 (N:Nat):List (Nat×qO):=[]
def qdu (N:Nat):Ent:=smF ⟨50,[],[.x zg],[],[]⟩ [zg] (Vector UInt8 32) (fun x=>V8 N x.1) cs1 fun _=>qmE
theorem qlR (N:Nat):zn Tryz.prog (qdu N):=
 zq (H:=qmq) (L:=qX (ql1 N)) (ts:=[zg]) (T:=fun x=>YW N x.1) 0 qxT (qiM N) (qC (by kernel_rfl) trivial) (rg0 (by kernel_rfl)) fun x=>by kernel_rfl
noncomputable def qxR:Code:=Tryz.f51.body.getD .skip
theorem qxh:FnF Tryz.prog 51 Tryz.f51 qxR:=⟨qu,by kernel_rfl,by kernel_rfl,by kernel_rfl⟩
def qwU:TH:={ live:=[(0,[0,2]),(1,[2])] }
def qwD (N:Nat):List Ent:=[qfz N]
theorem qs7 (N:Nat):q9 Tryz.prog (qwD N):=⟨qeR N,trivial⟩
def qw1 (z:Vector UInt8 32):TV×THp:=(.tv (.ba 32) z,[])
def qjh (N:Nat) (a0:List UInt8):Tree (Vector UInt8 32):=
 .chk (qhE (a0:List UInt8).length) <|
 .bind (Z9 N a0) fun r1=>
 .ret r1
def qdq (N:Nat) (a0:List UInt8):Option (Vector UInt8 32):=(qjh N a0).run some
def qxJ (N:Nat):List (Nat×qO):=[]
def qdI (N:Nat):Ent:=smF ⟨51,[],[.x .s],[],[]⟩ [.s] (Vector UInt8 32) (fun x=>qdq N x.1) cs1 fun _=>qw1
theorem qfL (N:Nat):zn Tryz.prog (qdI N):=
 zq (H:=qwU) (L:=qX (qxJ N)) (ts:=[.s]) (T:=fun x=>qjh N x.1) 0 qxh (qs7 N) (qC (by kernel_rfl) trivial) (rg0 (by kernel_rfl)) fun x=>by kernel_rfl
noncomputable def qu5:Code:=Tryz.f137.body.getD .skip
theorem qvJ:FnF Tryz.prog 137 Tryz.f137 qu5:=⟨qu,by kernel_rfl,by kernel_rfl,by kernel_rfl⟩
def qrg:TH:={ live:=[(0,[0,1]),(1,[4])] }
def qru (N:Nat):List Ent:=[]
theorem qnX (N:Nat):q9 Tryz.prog (qru N):=trivial
def qry (z:Int):TV×THp:=(.tv (.i .u32) z,[])
def qcK (a0:Int) (a1:Int):Tree (Int):=
 .chk (0≤(16:Int)) <|
 let w1:Int:=uOr .u32 (Yx .u32 (IntKind.u32.wrap a1) 16) (IntKind.u32.wrap a0)
 .ret w1
def qgQ (a0:Int) (a1:Int):Option (Int):=(qcK a0 a1).run some
def qrx:List (Nat×qO):=[]
def qiz:Ent:=smF ⟨137,[],[.x (.i .u16),.x (.i .u16)],[],[]⟩ [(.i .u16),(.i .u16)] (Int) (fun x=>qgQ x.1 x.2.1) cs1 fun _=>qry
theorem qoQ:zn Tryz.prog (qiz):=
 zq (H:=qrg) (L:=qX (qrx)) (ts:=[(.i .u16),(.i .u16)]) (T:=fun x=>qcK x.1 x.2.1) 0 qvJ (qnX 0) (qC (by kernel_rfl) trivial) (rg0 (by kernel_rfl)) fun x=>by kernel_rfl
noncomputable def qfN:Code:=Tryz.f115.body.getD .skip
theorem quB:FnF Tryz.prog 115 Tryz.f115 qfN:=⟨qu,by kernel_rfl,by kernel_rfl,by kernel_rfl⟩
def qer:TH:={ live:=[(0,[0]),(1,[0,3,4]),(2,[0,3,4,7,8]),(3,[0,3,4,7,8,9]),(4,[0,3,4,5,7,8]),(5,[0,3,4,7,8]),(6,[0,3,4,7,8]),(7,[0,3,4,7,8]),(8,[2])] }
def qlD (N:Nat):List Ent:=[qiz]
theorem qfM (N:Nat):q9 Tryz.prog (qlD N):=⟨qoQ,trivial⟩
abbrev X5:=List UInt8×Int
abbrev Zl:=Int×Int×Int×Bool
def JQ (f:X5) (y:Zl):Ex×TSt:=(.exit 0,⟨0,24,[],[(0,.tv .s f.1),(3,.tv (.i .u16) (y.1:Int)),(4,.tv (.i .u16) (y.2.1:Int)),(7,xi f.2),(8,xi y.2.2.1),(9,xb y.2.2.2)],[],false,[]⟩)
def qnQ (N:Nat):List (Nat×qO):=[]
abbrev J2:=Int×Int×Int
def qeY:SP:=⟨0,24,[],[(0,.x .s),(3,.x (.i .u16)),(4,.x (.i .u16)),(7,.x (.i .i64)),(8,.x (.i .i64))],[],false,[]⟩
def qnJ (f:X5) (v:J2):TSt:=jC qeY [dv .s f.1,dv (.i .u16) v.1,dv (.i .u16) v.2.1,dv (.i .i64) f.2,dv (.i .i64) v.2.2]
def XQ (N:Nat) (s0_3:List UInt8) (s7_3:Int) (v:J2):Tree (J2⊕Zl):=
 .cond (decide (v.2.2 < s7_3)) (
 .bind (zk s0_3 v.2.2) fun e1=>
 let w2:Int:=IntKind.u16.wrap ((e1.toNat:Nat):Int)
 .chk (qx (v.2.2 + 1)) <|
 .ret (.inl (ZG .u16 v.1 w2,ZG .u16 v.2.1 (ZG .u16 v.1 w2),v.2.2 + 1))) <|
 .ret (.inr (v.1,v.2.1,v.2.2,decide (v.2.2 < s7_3)))
def qeV (N n:Nat) (f:X5) (v:J2):Option Zl:=zi (XQ N f.1 f.2) some n v
theorem qnE (N:Nat) (f:X5) (n:Nat) (v:J2) (y:Zl) (h:qeV N n f v=some y):LG Tryz.prog qer 115 (zd qfN 3) (qnJ f v) (JQ f y):=
 jc qu (E:=qlD N) (L:=qX (qnQ N)) (st:=JQ f) (g:=some) (R:=JQ f) (qfM N) (qC (by kernel_rfl) trivial) (rg0 (by kernel_rfl)) (fun v=>by kernel_rfl) (zo (st:=JQ f) fun y=>by rfl) n v y h
def qcl (N:Nat) (s0_3:List UInt8) (s7_3:Int) (s3_3:Int) (s4_3:Int) (s8_3:Int):Option Zl:=qeV N N (s0_3,s7_3) (s3_3,s4_3,s8_3)
def qe0 (N:Nat):qO:=smL qeY [.s,(.i .u16),(.i .u16),(.i .i64),(.i .i64)] Zl (fun x=>qcl N x.1 x.2.2.2.1 x.2.1 x.2.2.1 x.2.2.2.2.1) cs1 fun x=>JQ (x.1,x.2.2.2.1)
theorem qmO (N:Nat):v5 Tryz.prog qer 115 (zd qfN 3) (qe0 N):=jx fun x z h=>qnE N (x.1,x.2.2.2.1) N (x.2.1,x.2.2.1,x.2.2.2.2.1) z h
def qsV (z:Int):TV×THp:=(.tv (.i .u32) z,[])
def qd9 (N:Nat) (a0:List UInt8):Tree (Int):=
 .bind (qcl N a0 ((a0.length:Nat):Int) 0 0 0) fun z1=>
 .bind (qgQ z1.1 z1.2.1) fun r2=>
 .ret r2
def qee (N:Nat) (a0:List UInt8):Option (Int):=(qd9 N a0).run some
def qtK (N:Nat):List (Nat×qO):=[(3,qe0 N)]
def qj8 (N:Nat):Ent:=smF ⟨115,[],[.x .s],[],[]⟩ [.s] (Int) (fun x=>qee N x.1) cs1 fun _=>qsV
theorem qq2 (N:Nat):zn Tryz.prog (qj8 N):=
 zq (H:=qer) (L:=qX (qtK N)) (ts:=[.s]) (T:=fun x=>qd9 N x.1) 0 quB (qfM N) (qC (by kernel_rfl) ⟨qmO N,trivial⟩) (rg0 (by kernel_rfl)) fun x=>by kernel_rfl
noncomputable def qyb:Code:=Tryz.f86.body.getD .skip
theorem qx0:FnF Tryz.prog 86 Tryz.f86 qyb:=⟨qu,by kernel_rfl,by kernel_rfl,by kernel_rfl⟩
def quc:TH:={ live:=[(0,[0,2]),(1,[2])] }
def qts (N:Nat):List Ent:=[qj8 N,qdI N]
theorem qqu (N:Nat):q9 Tryz.prog (qts N):=⟨qq2 N,qfL N,trivial⟩
def qtG (z:qQ):TV×THp:=(.tv js z,[])
def qeH (N:Nat) (a0:List UInt8):Tree (qQ):=
 .bind (qee N a0) fun r1=>
 .bind (qdq N a0) fun r2=>
 .ret (qQ.mk r1 r2)
def qdZ (N:Nat) (a0:List UInt8):Option (qQ):=(qeH N a0).run some
def qtm (N:Nat):List (Nat×qO):=[]
def qkS (N:Nat):Ent:=smF ⟨86,[],[.x .s],[],[]⟩ [.s] (qQ) (fun x=>qdZ N x.1) cs1 fun _=>qtG
theorem qrT (N:Nat):zn Tryz.prog (qkS N):=
 zq (H:=quc) (L:=qX (qtm N)) (ts:=[.s]) (T:=fun x=>qeH N x.1) 0 qx0 (qqu N) (qC (by kernel_rfl) trivial) (rg0 (by kernel_rfl)) fun x=>by kernel_rfl
noncomputable def qjT:Code:=Tryz.f52.body.getD .skip
theorem qxA:FnF Tryz.prog 52 Tryz.f52 qjT:=⟨qu,by kernel_rfl,by kernel_rfl,by kernel_rfl⟩
def qf3:TH:={ live:=[(0,[0]),(1,[0,6]),(2,[2]),(3,[0,3]),(4,[0,3,9]),(5,[0,3]),(6,[0,3]),(7,[2])],nil:=[(3,[⟨.sl 3,35,(.sl 33 js)⟩])] }
def qni (N:Nat):List Ent:=[qkS N]
theorem qio (N:Nat):q9 Tryz.prog (qni N):=⟨qrT N,trivial⟩
abbrev Ys:=Unit
abbrev Z2:=List qQ×List UInt8×Bool
def VF (f:Ys) (y:Z2):Ex×TSt:=(.exit 0,⟨0,19,[],[(0,.tv .s (y.2.1:List UInt8)),(3,.v 35 y.1.length),(9,xb y.2.2)],[(35,.vec false 33 (.sl 33 js) (y.1:List qQ))],false,[]⟩)
def qpq (N:Nat):List (Nat×qO):=[]
abbrev VD:=List qQ×List UInt8
def qfw:SP:=⟨0,19,[],[(0,.x .s),(3,.vs 35)],[(35,.vec false 33)],false,[]⟩
def qpu (f:Ys) (v:VD):TSt:=jC qfw [dv (.sl 33 js) v.1,dv .s v.2]
def W_ (N:Nat) (v:VD):Tree (VD⊕Z2):=
 .cond (decide (((8:Int))≤((v.2.length:Nat):Int))) (
 .chk (0≤(0:Int)∧(0:Int)≤(8:Int)∧(8:Int)≤((v.2.length:Nat):Int)) <|
 .bind (qdZ N ((v.2.take 8).drop 0)) fun r1=>
 .chk (jI v.1.length v.1.length ((v.1++[r1]).length) 36) <|
 .chk (0≤(8:Int)∧(8:Int)≤((v.2.length:Nat):Int)) <|
 .ret (.inl (v.1++[r1],v.2.drop 8))) <|
 .ret (.inr (v.1,v.2,decide (((8:Int))≤((v.2.length:Nat):Int))))
def qfD (N n:Nat) (f:Ys) (v:VD):Option Z2:=zi (W_ N) some n v
theorem qqK (N:Nat) (f:Ys) (n:Nat) (v:VD) (y:Z2) (h:qfD N n f v=some y):LG Tryz.prog qf3 52 (zd qjT 4) (qpu f v) (VF f y):=
 jc qu (E:=qni N) (L:=qX (qpq N)) (st:=VF f) (g:=some) (R:=VF f) (qio N) (qC (by kernel_rfl) trivial) (rg0 (by kernel_rfl)) (fun v=>by kernel_rfl) (zo (st:=VF f) fun y=>by rfl) n v y h
def qdH (N:Nat) (o_4:List qQ) (s0_4:List UInt8):Option Z2:=qfD N N () (o_4,s0_4)
def qfP (N:Nat):qO:=smL qfw [(.sl 33 js),.s] Z2 (fun x=>qdH N x.1 x.2.1) cs1 fun x=>VF ()
theorem qnO (N:Nat):v5 Tryz.prog qf3 52 (zd qjT 4) (qfP N):=jx fun x z h=>qqK N () N (x.1,x.2.1) z h
def qvS (z:List qQ):TV×THp:=(.tv (.sl 33 js) z,[])
def qfR (N:Nat) (a0:List UInt8):Tree (List qQ):=
 .cond (decide (((a0.length:Nat):Int) < ((24:Int)))) (
 .ret []) <|
 .bind (vN [(([]:List qQ).length,0)] (qdH N [] a0)) fun z1=>
 .chk (z1.1.length=z1.1.length) <|
 .ret z1.1
def qhA (N:Nat) (a0:List UInt8):Option (List qQ):=(qfR N a0).run some
def qvk (N:Nat):List (Nat×qO):=[(4,qfP N)]
def qm2 (N:Nat):Ent:=smF ⟨52,[],[.x .s],[],[]⟩ [.s] (List qQ) (fun x=>qhA N x.1) cs1 fun _=>qvS
theorem qtv (N:Nat):zn Tryz.prog (qm2 N):=
 zq (H:=qf3) (L:=qX (qvk N)) (ts:=[.s]) (T:=fun x=>qfR N x.1) 0 qxA (qio N) (qC (by kernel_rfl) ⟨qnO N,trivial⟩) (rg0 (by kernel_rfl)) fun x=>by kernel_rfl
noncomputable def qaP:Code:=Tryz.f21.body.getD .skip
theorem qxg:FnF Tryz.prog 21 Tryz.f21 qaP:=⟨qu,by kernel_rfl,by kernel_rfl,by kernel_rfl⟩
def JV:TH:={ live:=[(0,[1,2]),(1,[1,2,13]),(2,[2,3]),(3,[1,2,4]),(4,[2,4,19,20,21]),(5,[2,4,19,20,21,22]),(6,[2,4,6,19,20,21]),(7,[2,4,6,7,19,20,21]),(8,[2,4,7,19,20,21,31,32,33]),(9,[2,4,7,19,20,21,31,32,33,34]),(10,[2,4,7,9,19,20,21,31,32,33]),(11,[2,4,7,9,10,19,20,21,31,32,33]),(12,[2,4,7,19,20,21,31,32,33]),(13,[2,4,7,19,20,21,31,32,33]),(14,[2,4,19,20,21]),(15,[2,4,19,20,21]),(16,[2,3])],nil:=[(0,[⟨.ob 20 [1],24,(.sl 19 qT)⟩]),(2,[⟨.ob 20 [1],24,(.sl 19 qT)⟩]),(3,[⟨.ob 40 [1],44,(.sl 19 qT)⟩]),(7,[⟨.ob 70 [2],75,(.sl 37 qK)⟩])] }
def KU (N:Nat):List Ent:=[qd6 N,qdu N,qdI N,qm2 N]
theorem W4 (N:Nat):q9 Tryz.prog (KU N):=⟨qix N,qlR N,qfL N,qtv N,trivial⟩
abbrev Jp:=List qi×List qi×Vector UInt8 32×Vector UInt8 32×Vector UInt8 16×qd×List qf×Int×Int×List qk×Int
abbrev v3:=List qe×Int×Bool
def Zb (f:Jp) (y:v3):Ex×TSt:=(.exit 2,⟨0,66,[],[(2,.p 20 [] 0),(4,.p 40 [] 0),(7,.p 70 [] 0),(19,.tv (.sl 19 qW) f.2.2.2.2.2.2.1),(20,xi f.2.2.2.2.2.2.2.1),(21,xi f.2.2.2.2.2.2.2.2.1),(31,.tv (.sl 4 zN) f.2.2.2.2.2.2.2.2.2.1),(32,xi f.2.2.2.2.2.2.2.2.2.2),(33,xi y.2.1),(34,xb y.2.2)],[(20,.cell false (.ag [.tv (.ba 32) f.2.2.1,.v 24 f.1.length])),(24,.vec false 19 (.sl 19 qT) f.1),(40,.cell false (.ag [.tv (.ba 32) f.2.2.2.1,.v 44 f.2.1.length])),(44,.vec false 19 (.sl 19 qT) f.2.1),(70,.cell false (.ag [.tv (.ba 16) f.2.2.2.2.1,.tv qJ f.2.2.2.2.2.1,.v 75 y.1.length])),(75,.vec false 37 (.sl 37 qK) (y.1:List qe))],false,[]⟩)
def qiT (N:Nat):List (Nat×qO):=[]
abbrev Q9:=List qe×Int
def qbD:SP:=⟨0,66,[],[(2,.k (.p 20 [] 0)),(4,.k (.p 40 [] 0)),(7,.k (.p 70 [] 0)),(19,.x (.sl 19 qW)),(20,.x (.i .i64)),(21,.x (.i .i64)),(31,.x (.sl 4 zN)),(32,.x (.i .i64)),(33,.x (.i .i64))],[(20,.cell false (.ag [.x (.ba 32),.vs 24])),(24,.vec false 19),(40,.cell false (.ag [.x (.ba 32),.vs 44])),(44,.vec false 19),(70,.cell false (.ag [.x (.ba 16),.x qJ,.vs 75])),(75,.vec false 37)],false,[]⟩
def qiV (f:Jp) (v:Q9):TSt:=jC qbD [dv (.sl 19 qT) f.1,dv (.sl 19 qT) f.2.1,dv (.sl 37 qK) v.1,dv (.ba 32) f.2.2.1,dv (.ba 32) f.2.2.2.1,dv (.ba 16) f.2.2.2.2.1,dv qJ f.2.2.2.2.2.1,dv (.sl 19 qW) f.2.2.2.2.2.2.1,dv (.i .i64) f.2.2.2.2.2.2.2.1,dv (.i .i64) f.2.2.2.2.2.2.2.2.1,dv (.sl 4 zN) f.2.2.2.2.2.2.2.2.2.1,dv (.i .i64) f.2.2.2.2.2.2.2.2.2.2,dv (.i .i64) v.2]
def JG (N:Nat) (o_9:List qi) (o_9_2:List qi) (o_9_4:Vector UInt8 32) (o_9_5:Vector UInt8 32) (o_9_6:Vector UInt8 16) (o_9_7:qd) (s19_9:List qf) (s20_9:Int) (s21_9:Int) (s31_9:List qk) (s32_9:Int) (v:Q9):Tree (Q9⊕v3):=
 .cond (decide (v.2 < s32_9)) (
 .bind (zk s31_9 v.2) fun e1=>
 .bind (qdq N (qq.V (qk.C e1))) fun r2=>
 .bind (qhA N (qq.V (qk.C e1))) fun r3=>
 .chk (jI v.1.length v.1.length ((v.1++[qe.mk (qk.No e1) (qq.S (qk.C e1)) (((qq.V (qk.C e1)).length:Nat):Int) r2 r3]).length) 88) <|
 .chk (qx (v.2 + 1)) <|
 .ret (.inl (v.1++[qe.mk (qk.No e1) (qq.S (qk.C e1)) (((qq.V (qk.C e1)).length:Nat):Int) r2 r3],v.2 + 1))) <|
 .ret (.inr (v.1,v.2,decide (v.2 < s32_9)))
def qbr (N n:Nat) (f:Jp) (v:Q9):Option v3:=zi (JG N f.1 f.2.1 f.2.2.1 f.2.2.2.1 f.2.2.2.2.1 f.2.2.2.2.2.1 f.2.2.2.2.2.2.1 f.2.2.2.2.2.2.2.1 f.2.2.2.2.2.2.2.2.1 f.2.2.2.2.2.2.2.2.2.1 f.2.2.2.2.2.2.2.2.2.2) some n v
theorem qjp (N:Nat) (f:Jp) (n:Nat) (v:Q9) (y:v3) (h:qbr N n f v=some y):LG Tryz.prog JV 21 (zd (zd qaP 5) 9) (qiV f v) (Zb f y):=
 jc qu (E:=KU N) (L:=qX (qiT N)) (st:=Zb f) (g:=some) (R:=Zb f) (W4 N) (qC (by kernel_rfl) trivial) (rg0 (by kernel_rfl)) (fun v=>by kernel_rfl) (zo (st:=Zb f) fun y=>by rfl) n v y h
def Xe (N:Nat) (o_9:List qi) (o_9_2:List qi) (o_9_4:Vector UInt8 32) (o_9_5:Vector UInt8 32) (o_9_6:Vector UInt8 16) (o_9_7:qd) (s19_9:List qf) (s20_9:Int) (s21_9:Int) (s31_9:List qk) (s32_9:Int) (o_9_3:List qe) (s33_9:Int):Option v3:=qbr N N (o_9,o_9_2,o_9_4,o_9_5,o_9_6,o_9_7,s19_9,s20_9,s21_9,s31_9,s32_9) (o_9_3,s33_9)
def qa1 (N:Nat):qO:=smL qbD [(.sl 19 qT),(.sl 19 qT),(.sl 37 qK),(.ba 32),(.ba 32),(.ba 16),qJ,(.sl 19 qW),(.i .i64),(.i .i64),(.sl 4 zN),(.i .i64),(.i .i64)] v3 (fun x=>Xe N x.1 x.2.1 x.2.2.2.1 x.2.2.2.2.1 x.2.2.2.2.2.1 x.2.2.2.2.2.2.1 x.2.2.2.2.2.2.2.1 x.2.2.2.2.2.2.2.2.1 x.2.2.2.2.2.2.2.2.2.1 x.2.2.2.2.2.2.2.2.2.2.1 x.2.2.2.2.2.2.2.2.2.2.2.1 x.2.2.1 x.2.2.2.2.2.2.2.2.2.2.2.2.1) cs1 fun x=>Zb (x.1,x.2.1,x.2.2.2.1,x.2.2.2.2.1,x.2.2.2.2.2.1,x.2.2.2.2.2.2.1,x.2.2.2.2.2.2.2.1,x.2.2.2.2.2.2.2.2.1,x.2.2.2.2.2.2.2.2.2.1,x.2.2.2.2.2.2.2.2.2.2.1,x.2.2.2.2.2.2.2.2.2.2.2.1)
theorem qie (N:Nat):v5 Tryz.prog JV 21 (zd (zd qaP 5) 9) (qa1 N):=jx fun x z h=>qjp N (x.1,x.2.1,x.2.2.2.1,x.2.2.2.2.1,x.2.2.2.2.2.1,x.2.2.2.2.2.2.1,x.2.2.2.2.2.2.2.1,x.2.2.2.2.2.2.2.2.1,x.2.2.2.2.2.2.2.2.2.1,x.2.2.2.2.2.2.2.2.2.2.1,x.2.2.2.2.2.2.2.2.2.2.2.1) N (x.2.2.1,x.2.2.2.2.2.2.2.2.2.2.2.2.1) z h
abbrev Jw:=List qi×Vector UInt8 32×Vector UInt8 32×List qf×Int
abbrev vZ:=List qi×Int×Bool
def Q1 (f:Jw) (y:vZ):Ex×TSt:=(.exit 0,⟨0,66,[],[(2,.p 20 [] 0),(4,.p 40 [] 0),(19,.tv (.sl 19 qW) f.2.2.2.1),(20,xi f.2.2.2.2),(21,xi y.2.1),(22,xb y.2.2)],[(20,.cell false (.ag [.tv (.ba 32) f.2.1,.v 24 f.1.length])),(24,.vec false 19 (.sl 19 qT) f.1),(40,.cell false (.ag [.tv (.ba 32) f.2.2.1,.v 44 y.1.length])),(44,.vec false 19 (.sl 19 qT) (y.1:List qi))],false,[]⟩)
def qjY (N:Nat):List (Nat×qO):=[(9,qa1 N)]
abbrev Q2:=List qi×Int
def qbn:SP:=⟨0,66,[],[(2,.k (.p 20 [] 0)),(4,.k (.p 40 [] 0)),(19,.x (.sl 19 qW)),(20,.x (.i .i64)),(21,.x (.i .i64))],[(20,.cell false (.ag [.x (.ba 32),.vs 24])),(24,.vec false 19),(40,.cell false (.ag [.x (.ba 32),.vs 44])),(44,.vec false 19)],false,[]⟩
def qiW (f:Jw) (v:Q2):TSt:=jC qbn [dv (.sl 19 qT) f.1,dv (.sl 19 qT) v.1,dv (.ba 32) f.2.1,dv (.ba 32) f.2.2.1,dv (.sl 19 qW) f.2.2.2.1,dv (.i .i64) f.2.2.2.2,dv (.i .i64) v.2]
def Jn (N:Nat) (o_5:List qi) (o_5_3:Vector UInt8 32) (o_5_4:Vector UInt8 32) (s19_5:List qf) (s20_5:Int) (v:Q2):Tree (Q2⊕vZ):=
 .cond (decide (v.2 < s20_5)) (
 .bind (zk s19_5 v.2) fun e1=>
 .bind (vN [(o_5.length,o_5.length),(v.1.length,v.1.length),(([]:List qe).length,0)] (Xe N o_5 v.1 o_5_3 o_5_4 (qf.ID e1) (qf.jh e1) s19_5 s20_5 v.2 (qf.F e1) (((qf.F e1).length:Nat):Int) [] 0)) fun z2=>
 .chk (z2.1.length=z2.1.length) <|
 .chk (jI v.1.length v.1.length ((v.1++[qi.mk (qf.ID e1) (qf.jh e1) z2.1]).length) 56) <|
 .chk (qx (v.2 + 1)) <|
 .ret (.inl (v.1++[qi.mk (qf.ID e1) (qf.jh e1) z2.1],v.2 + 1))) <|
 .ret (.inr (v.1,v.2,decide (v.2 < s20_5)))
def qbA (N n:Nat) (f:Jw) (v:Q2):Option vZ:=zi (Jn N f.1 f.2.1 f.2.2.1 f.2.2.2.1 f.2.2.2.2) some n v
theorem qjg (N:Nat) (f:Jw) (n:Nat) (v:Q2) (y:vZ) (h:qbA N n f v=some y):LG Tryz.prog JV 21 (zd qaP 5) (qiW f v) (Q1 f y):=
 jc qu (E:=KU N) (L:=qX (qjY N)) (st:=Q1 f) (g:=some) (R:=Q1 f) (W4 N) (qC (by kernel_rfl) ⟨qie N,trivial⟩) (rg0 (by kernel_rfl)) (fun v=>by kernel_rfl) (zo (st:=Q1 f) fun y=>by rfl) n v y h
def Xc (N:Nat) (o_5:List qi) (o_5_3:Vector UInt8 32) (o_5_4:Vector UInt8 32) (s19_5:List qf) (s20_5:Int) (o_5_2:List qi) (s21_5:Int):Option vZ:=qbA N N (o_5,o_5_3,o_5_4,s19_5,s20_5) (o_5_2,s21_5)
def qaT (N:Nat):qO:=smL qbn [(.sl 19 qT),(.sl 19 qT),(.ba 32),(.ba 32),(.sl 19 qW),(.i .i64),(.i .i64)] vZ (fun x=>Xc N x.1 x.2.2.1 x.2.2.2.1 x.2.2.2.2.1 x.2.2.2.2.2.1 x.2.1 x.2.2.2.2.2.2.1) cs1 fun x=>Q1 (x.1,x.2.2.1,x.2.2.2.1,x.2.2.2.2.1,x.2.2.2.2.2.1)
theorem qhU (N:Nat):v5 Tryz.prog JV 21 (zd qaP 5) (qaT N):=jx fun x z h=>qjg N (x.1,x.2.2.1,x.2.2.2.1,x.2.2.2.2.1,x.2.2.2.2.2.1) N (x.2.1,x.2.2.2.2.2.2.1) z h
def qoe (z:qM×Bool):TV×THp:=(.tup [.tv z9 (z.1:qM),xb z.2],[])
def XS (N:Nat) (a0:qo):Tree (qM×Bool):=
 .bind (Y2 N a0) fun r1=>
 .cond (!r1) (
 .chk (0=0) <|
 .ret (qM.mk ((Vector.replicate 32 0)) [],false)) <|
 .bind (V8 N a0) fun r2=>
 .bind (vN [(([]:List qi).length,0),(([]:List qi).length,0)] (Xc N [] ((Vector.replicate 32 0)) r2 (qo.R a0) (((qo.R a0).length:Nat):Int) [] 0)) fun z3=>
 .chk (z3.1.length=z3.1.length) <|
 .ret (qM.mk r2 z3.1,true)
def J8 (N:Nat) (a0:qo):Option (qM×Bool):=(XS N a0).run some
def qn0 (N:Nat):List (Nat×qO):=[(5,qaT N)]
def qeZ (N:Nat):Ent:=smF ⟨21,[],[.x zg],[],[]⟩ [zg] (qM×Bool) (fun x=>J8 N x.1) cs1 fun _=>qoe
theorem qmW (N:Nat):zn Tryz.prog (qeZ N):=
 zq (H:=JV) (L:=qX (qn0 N)) (ts:=[zg]) (T:=fun x=>XS N x.1) 0 qxg (W4 N) (qC (by kernel_rfl) ⟨qhU N,trivial⟩) (rg0 (by kernel_rfl)) fun x=>by kernel_rfl
noncomputable def qw_:Code:=Tryz.f62.body.getD .skip
theorem qwi:FnF Tryz.prog 62 Tryz.f62 qw_:=⟨qu,by kernel_rfl,by kernel_rfl,by kernel_rfl⟩
def qh8:TH:={ live:=[(0,[1,2]),(1,[3])] }
def qhI (N:Nat):List Ent:=[]
theorem qfn (N:Nat):q9 Tryz.prog (qhI N):=trivial
def qhO (a0:Vector UInt8 16) (a1:qi) (z:Unit):TV×THp:=(xb (eqE (.ba 16) (qi.ID a1) a0),[(30,.cell false (.tv (.ba 16) a0))])
def Xu (a0:Vector UInt8 16) (a1:qi):Tree (Unit):=
 .ret ()
def Yu (a0:Vector UInt8 16) (a1:qi):Option (Unit):=(Xu a0 a1).run some
def qh4:List (Nat×qO):=[]
def qad:Ent:=smF ⟨62,[],[.x qT],[.k (.p 30 [] 0)],[(30,.cell false (.x (.ba 16)))]⟩ [(.ba 16),qT] (Unit) (fun x=>Yu x.1 x.2.1) cs1 fun x=>qhO x.1 x.2.1
theorem qfE:zn Tryz.prog (qad):=
 zq (H:=qh8) (L:=qX (qh4)) (ts:=[(.ba 16),qT]) (T:=fun x=>Xu x.1 x.2.1) 0 qwi (qfn 0) (qC (by kernel_rfl) trivial) (rg0 (by kernel_rfl)) fun x=>by kernel_rfl
noncomputable def qjj:Code:=Tryz.f61.body.getD .skip
theorem qwY:FnF Tryz.prog 61 Tryz.f61 qjj:=⟨qu,by kernel_rfl,by kernel_rfl,by kernel_rfl⟩
def Zh:TH:={ live:=[(0,[0,1]),(1,[0,1,7,8]),(2,[0,1,7,8,9]),(3,[0,1,5,7,8]),(4,[0,1,5,7,8,16]),(5,[4]),(6,[0,1,7,8]),(7,[4])] }
def Xq (N:Nat):List Ent:=[qad]
theorem Vn (N:Nat):q9 Tryz.prog (Xq N):=⟨qfE,trivial⟩
abbrev jY:=Vector UInt8 16×List qi×Int
abbrev zS:=Int⊕(Int×Bool)
def jl (f:jY):zS→Ex×TSt
 | .inl y=>(.ret,⟨1,19,[30],[(4,xi y)],[(30,.cell false (.tv (.ba 16) f.1))],false,[]⟩)
 | .inr y=>(.exit 0,⟨1,19,[30],[(0,.tv (.sl 19 qT) f.2.1),(1,.fn (.func 62) [] [.p 30 [] 0]),(7,xi f.2.2),(8,xi y.1),(9,xb y.2)],[(30,.cell false (.tv (.ba 16) f.1))],false,[]⟩)
def KM (N:Nat):List (Nat×qO):=[]
abbrev ji:=Int
def J7:SP:=⟨1,19,[30],[(0,.x (.sl 19 qT)),(1,.fn 62 [] [.k (.p 30 [] 0)]),(7,.x (.i .i64)),(8,.x (.i .i64))],[(30,.cell false (.x (.ba 16)))],false,[]⟩
def KV (f:jY) (v:ji):TSt:=jC J7 [dv (.ba 16) f.1,dv (.sl 19 qT) f.2.1,dv (.i .i64) f.2.2,dv (.i .i64) v]
def jj (N:Nat) (o_2:Vector UInt8 16) (s0_2:List qi) (s7_2:Int) (v:ji):Tree (ji⊕zS):=
 .cond (decide (v < s7_2)) (
 .bind (zk s0_2 v) fun e1=>
 .bind (Yu o_2 e1) fun r2=>
 .cond (eqE (.ba 16) (qi.ID e1) o_2) (
 .ret (.inr (.inl v))) <|
 .chk (qx (v + 1)) <|
 .ret (.inl (v + 1))) <|
 .ret (.inr (.inr ((v,decide (v < s7_2)))))
def J5 (N n:Nat) (f:jY) (v:ji):Option zS:=zi (jj N f.1 f.2.1 f.2.2) some n v
theorem KW (N:Nat) (f:jY) (n:Nat) (v:ji) (y:zS) (h:J5 N n f v=some y):LG Tryz.prog Zh 61 (zd qjj 2) (KV f v) (jl f y):=
 jc qu (E:=Xq N) (L:=qX (KM N)) (st:=jl f) (g:=some) (R:=jl f) (Vn N) (qC (by kernel_rfl) trivial) (rg0 (by kernel_rfl)) (fun v=>by kernel_rfl) (zo (st:=jl f) fun y=>by rcases y with _ | _<;>rfl) n v y h
def Q0 (N:Nat) (o_2:Vector UInt8 16) (s0_2:List qi) (s7_2:Int) (s8_2:Int):Option zS:=J5 N N (o_2,s0_2,s7_2) s8_2
def JZ (N:Nat):qO:=smL J7 [(.ba 16),(.sl 19 qT),(.i .i64),(.i .i64)] zS (fun x=>Q0 N x.1 x.2.1 x.2.2.1 x.2.2.2.1) (csS cs1) fun x=>jl (x.1,x.2.1,x.2.2.1)
theorem Kx (N:Nat):v5 Tryz.prog Zh 61 (zd qjj 2) (JZ N):=jx fun x z h=>KW N (x.1,x.2.1,x.2.2.1) N x.2.2.2.1 z h
def qbG (a0:Vector UInt8 16) (z:Int):TV×THp:=(xi z,[(30,.cell false (.tv (.ba 16) a0))])
def Zg (N:Nat) (a0:Vector UInt8 16) (a1:List qi):Tree (Int):=
 .bind (Q0 N a0 a1 ((a1.length:Nat):Int) 0) fun z1=>
 .sum z1 (fun z2=>
 .ret z2) fun z2=>
 .ret (-1)
def Qw (N:Nat) (a0:Vector UInt8 16) (a1:List qi):Option (Int):=(Zg N a0 a1).run some
def qbH (N:Nat):List (Nat×qO):=[(2,JZ N)]
def Xr (N:Nat):Ent:=smF ⟨61,[],[.x (.sl 19 qT),.fn 62 [] [.k (.p 30 [] 0)]],[],[(30,.cell false (.x (.ba 16)))]⟩ [(.ba 16),(.sl 19 qT)] (Int) (fun x=>Qw N x.1 x.2.1) cs1 fun x=>qbG x.1
theorem qbp (N:Nat):zn Tryz.prog (Xr N):=
 zq (H:=Zh) (L:=qX (qbH N)) (ts:=[(.ba 16),(.sl 19 qT)]) (T:=fun x=>Zg N x.1 x.2.1) 0 qwY (Vn N) (qC (by kernel_rfl) ⟨Kx N,trivial⟩) (rg0 (by kernel_rfl)) fun x=>by kernel_rfl
noncomputable def qx_:Code:=Tryz.f96.body.getD .skip
theorem qi0:FnF Tryz.prog 96 Tryz.f96 qx_:=⟨qu,by kernel_rfl,by kernel_rfl,by kernel_rfl⟩
def qeC:TH:={ live:=[(0,[0]),(1,[0,4]),(2,[2]),(3,[2])],vecs:=[5],esc:=true }
def qdS (N:Nat):List Ent:=[]
theorem qc0 (N:Nat):q9 Tryz.prog (qdS N):=trivial
def Yd (a0:List qe) (z:Unit):TV×THp:=(.v 100050 (((([]:List qe))++a0).length),[(100050,.vec false 37 (.sl 37 qK) ((([]:List qe))++a0:List qe))])
def Jl (a0:List qe):Tree (Unit):=
 .chk (List.isEmpty a0=false) <|
 .chk (jI ((([]:List qe)).length) 0 (((([]:List qe))++a0).length) 88) <|
 .ret ()
def VZ (a0:List qe):Option (Unit):=(Jl a0).run some
def qdD:List (Nat×qO):=[]
theorem qcH:X1 Tryz.prog ⟨96,[],[.x (.sl 37 qK)],[],[]⟩ [(.sl 37 qK)] (fun x=>Jl x.1) (fun x=>Yd x.1):=
 JT (H:=qeC) (L:=qX (qdD)) 0 qi0 (qc0 0) (qC (by kernel_rfl) trivial) (rg0 (by kernel_rfl)) fun x=>by kernel_rfl
def qcQ:TH:={ live:=[(0,[0]),(1,[0,4]),(2,[2]),(3,[2])],vecs:=[5],esc:=true }
def qcy (N:Nat):List Ent:=[]
theorem qaM (N:Nat):q9 Tryz.prog (qcy N):=trivial
def qcj (z:Unit):TV×THp:=(.v 100050 0,[(100050,.vec false 37 (.sl 37 qK) ([]:List qe))])
def XA:Tree (Unit):=
 .chk (0=0) <|
 .ret ()
def qeQ:Option (Unit):=(XA).run some
def qcz:List (Nat×qO):=[]
theorem qa4:X1 Tryz.prog ⟨96,[],[.k (.es 0)],[],[]⟩ [] (fun x=>XA) (fun _=>qcj):=
 JT (H:=qcQ) (L:=qX (qcz)) 0 qi0 (qaM 0) (qC (by kernel_rfl) trivial) (rg0 (by kernel_rfl)) fun x=>by kernel_rfl
def qco:TH:={ live:=[(0,[0]),(1,[0,4]),(2,[2]),(3,[2])],vecs:=[5],esc:=true }
def qc4 (N:Nat):List Ent:=[]
theorem qba (N:Nat):q9 Tryz.prog (qc4 N):=trivial
def qcm (z:Unit):TV×THp:=(.nils,[])
def XI:Tree (Unit):=
 .ret ()
def qeD:Option (Unit):=(XI).run some
def qcn:List (Nat×qO):=[]
theorem qaQ:X1 Tryz.prog ⟨96,[],[.k (.es 1)],[],[]⟩ [] (fun x=>XI) (fun _=>qcm):=
 JT (H:=qco) (L:=qX (qcn)) 0 qi0 (qba 0) (qC (by kernel_rfl) trivial) (rg0 (by kernel_rfl)) fun x=>by kernel_rfl
def Xz (z:Unit):Unit:=()
def qcV (z:Unit):Unit:=()
def jQ (a0:List qe):Option (Unit):=
 bif a0.isEmpty then
  (qeQ).bind fun z0=>(qeD).bind fun z1=>chk (Xz z0=qcV z1) (some (Xz z0))
 else VZ a0
def Wt:Ent:=smF ⟨96,[],[.x (.sl 37 qK)],[],[]⟩ [(.sl 37 qK)] (Unit) (fun x=>jQ x.1) cs1 fun x=>Yd x.1
theorem qc1:zn Tryz.prog (Wt):=qbm fun x z h l=>by
 obtain ⟨a0,_⟩:=x
 replace h:jQ a0=some z:=h
 unfold jQ at h
 rcases qb7 h with ⟨e,h2⟩ | ⟨_,h2⟩<;>clear h
 ·have e:=List.isEmpty_iff.1 e
  subst e
  obtain ⟨z0,c0,h2⟩:=bind_some h2
  obtain ⟨z1,c1,h2⟩:=bind_some h2
  obtain ⟨hE,h2⟩:=qaS h2
  obtain rfl:=Option.some.inj h2
  refine qbI (t:=(.sl 37 qK)) (x:=[]) rfl (TV.ers []) (TV.ers []) (by exact qa4 (()) _ c0 l) ?_
  rw [hE]
  exact (qsK (n:=100050) (sz:=37) (x:=qp (.sl 37 qK) ([]:List qe)) rfl (by kernel_rfl) (by kernel_rfl) (qaQ (()) _ c1 l))
 ·exact qcH (a0,()) z h2 l
noncomputable def qx2:Code:=Tryz.f97.body.getD .skip
theorem qjL:FnF Tryz.prog 97 Tryz.f97 qx2:=⟨qu,by kernel_rfl,by kernel_rfl,by kernel_rfl⟩
def qgs:TH:={ live:=[(0,[0]),(1,[0,4]),(2,[2]),(3,[2])],vecs:=[5] }
def qfF (N:Nat):List Ent:=[]
theorem qdE (N:Nat):q9 Tryz.prog (qfF N):=trivial
def Ku (a0:List qQ) (z:Unit):TV×THp:=(.tv (.sl 33 js) ((([]:List qQ))++a0:List qQ),[])
def VI (a0:List qQ):Tree (Unit):=
 .chk (List.isEmpty a0=false) <|
 .chk (jI ((([]:List qQ)).length) 0 (((([]:List qQ))++a0).length) 36) <|
 .chk (((([]:List qQ))++a0).length=((([]:List qQ))++a0).length) <|
 .ret ()
def Wb (a0:List qQ):Option (Unit):=(VI a0).run some
def qg5:List (Nat×qO):=[]
theorem qeI:X1 Tryz.prog ⟨97,[],[.x (.sl 33 js)],[],[]⟩ [(.sl 33 js)] (fun x=>VI x.1) (fun x=>Ku x.1):=
 JT (H:=qgs) (L:=qX (qg5)) 0 qjL (qdE 0) (qC (by kernel_rfl) trivial) (rg0 (by kernel_rfl)) fun x=>by kernel_rfl
def qdM:TH:={ live:=[(0,[0]),(1,[0,4]),(2,[2]),(3,[2])],vecs:=[5] }
def qeP (N:Nat):List Ent:=[]
theorem qcR (N:Nat):q9 Tryz.prog (qeP N):=trivial
def qep (z:Unit):TV×THp:=(.tv (.sl 33 js) ([]:List qQ),[])
def Yt:Tree (Unit):=
 .chk (0=0) <|
 .chk (0=0) <|
 .ret ()
def qfW:Option (Unit):=(Yt).run some
def qew:List (Nat×qO):=[]
theorem qcq:X1 Tryz.prog ⟨97,[],[.k (.es 0)],[],[]⟩ [] (fun x=>Yt) (fun _=>qep):=
 JT (H:=qdM) (L:=qX (qew)) 0 qjL (qcR 0) (qC (by kernel_rfl) trivial) (rg0 (by kernel_rfl)) fun x=>by kernel_rfl
def qev:TH:={ live:=[(0,[0]),(1,[0,4]),(2,[2]),(3,[2])],vecs:=[5] }
def qeG (N:Nat):List Ent:=[]
theorem qcI (N:Nat):q9 Tryz.prog (qeG N):=trivial
def qdL (z:Unit):TV×THp:=(.tv (.sl 33 js) ([]:List qQ),[])
def Yj:Tree (Unit):=
 .ret ()
def qgP:Option (Unit):=(Yj).run some
def qdN:List (Nat×qO):=[]
theorem qc2:X1 Tryz.prog ⟨97,[],[.k (.es 1)],[],[]⟩ [] (fun x=>Yj) (fun _=>qdL):=
 JT (H:=qev) (L:=qX (qdN)) 0 qjL (qcI 0) (qC (by kernel_rfl) trivial) (rg0 (by kernel_rfl)) fun x=>by kernel_rfl
def Yo (z:Unit):Unit:=()
def qes (z:Unit):Unit:=()
def vL (a0:List qQ):Option (Unit):=
 bif a0.isEmpty then
  (qfW).bind fun z0=>(qgP).bind fun z1=>chk (Yo z0=qes z1) (some (Yo z0))
 else Wb a0
def YC:Ent:=smF ⟨97,[],[.x (.sl 33 js)],[],[]⟩ [(.sl 33 js)] (Unit) (fun x=>vL x.1) cs1 fun x=>Ku x.1
theorem qec:zn Tryz.prog (YC):=qbm fun x z h l=>by
 obtain ⟨a0,_⟩:=x
 replace h:vL a0=some z:=h
 unfold vL at h
 rcases qb7 h with ⟨e,h2⟩ | ⟨_,h2⟩<;>clear h
 ·have e:=List.isEmpty_iff.1 e
  subst e
  obtain ⟨z0,c0,h2⟩:=bind_some h2
  obtain ⟨z1,c1,h2⟩:=bind_some h2
  obtain ⟨hE,h2⟩:=qaS h2
  obtain rfl:=Option.some.inj h2
  refine qbI (t:=(.sl 33 js)) (x:=[]) rfl (TV.ers []) (TV.ers []) (by exact qcq (()) _ c0 l) ?_
  rw [hE]
  exact (by exact qc2 (()) _ c1 l)
 ·exact qeI (a0,()) z h2 l
noncomputable def qjK:Code:=Tryz.f63.body.getD .skip
theorem qxU:FnF Tryz.prog 63 Tryz.f63 qjK:=⟨qu,by kernel_rfl,by kernel_rfl,by kernel_rfl⟩
def YR:TH:={ live:=[(0,[1,2]),(1,[1,2]),(2,[1,2,10,11]),(3,[1,2,10,11,12]),(4,[1,2,3,10,11]),(5,[1,2,10,11]),(6,[1,2,10,11]),(7,[2])],fresh:=[6],nil:=[(0,[⟨.ob 20 [2],25,(.sl 37 qK)⟩])] }
def qdn (N:Nat):List Ent:=[Wt,YC]
theorem qbz (N:Nat):q9 Tryz.prog (qdn N):=⟨qc1,qec,trivial⟩
abbrev ZQ:=List qe×Vector UInt8 16×qd×Nat×Vector UInt8 16×qd×Int
abbrev vJ:=List qe×Int×Bool
def QF (f:ZQ) (y:vJ):Ex×TSt:=(.exit 0,⟨0,28,[],[(1,.p 10 [] 0),(2,.p 20 [] 0),(10,xi f.2.2.2.2.2.2),(11,xi y.2.1),(12,xb y.2.2)],[(10,.cell false (.ag [.tv (.ba 16) f.2.1,.tv qJ f.2.2.1,.v 100050 f.2.2.2.1])),(20,.cell false (.ag [.tv (.ba 16) f.2.2.2.2.1,.tv qJ f.2.2.2.2.2.1,.v 25 f.1.length])),(25,.vec false 37 (.sl 37 qK) f.1),(100050,.vec false 37 (.sl 37 qK) (y.1:List qe))],false,[]⟩)
def qh7 (N:Nat):List (Nat×qO):=[]
abbrev QI:=List qe×Int
def qag:SP:=⟨0,28,[],[(1,.k (.p 10 [] 0)),(2,.k (.p 20 [] 0)),(10,.x (.i .i64)),(11,.x (.i .i64))],[(10,.cell false (.ag [.x (.ba 16),.x qJ,.v 100050])),(20,.cell false (.ag [.x (.ba 16),.x qJ,.vs 25])),(25,.vec false 37),(100050,.vec false 37)],false,[]⟩
def qhZ (f:ZQ) (v:QI):TSt:=jC qag [dv (.sl 37 qK) f.1,dv (.sl 37 qK) v.1,dv (.ba 16) f.2.1,dv qJ f.2.2.1,dv .nat f.2.2.2.1,dv (.ba 16) f.2.2.2.2.1,dv qJ f.2.2.2.2.2.1,dv (.i .i64) f.2.2.2.2.2.2,dv (.i .i64) v.2]
def ZS (N:Nat) (o_3:List qe) (o_3_3:Vector UInt8 16) (o_3_4:qd) (o_3_5:Nat) (o_3_6:Vector UInt8 16) (o_3_7:qd) (s10_3:Int) (v:QI):Tree (QI⊕vJ):=
 .cond (decide (v.2 < s10_3)) (
 .chk (0≤v.2∧v.2 < ((o_3_5:Nat):Int)) <|
 .bind (K1 v.1 o_3_5 v.2.toNat) fun e1=>
 .bind (vL (qe.B e1)) fun r2=>
 .chk (0≤v.2∧v.2 < ((o_3_5:Nat):Int)) <|
 .bind (K1 v.1 o_3_5 v.2.toNat) fun e3=>
 .chk (qx (v.2 + 1)) <|
 .ret (.inl (v.1.set v.2.toNat (qe.mk (qe.No e3) (qe.S e3) (qe.Len e3) (qe.D e3) ((([]:List qQ))++(qe.B e1))),v.2 + 1))) <|
 .ret (.inr (v.1,v.2,decide (v.2 < s10_3)))
def K9 (N n:Nat) (f:ZQ) (v:QI):Option vJ:=zi (ZS N f.1 f.2.1 f.2.2.1 f.2.2.2.1 f.2.2.2.2.1 f.2.2.2.2.2.1 f.2.2.2.2.2.2) some n v
theorem qib (N:Nat) (f:ZQ) (n:Nat) (v:QI) (y:vJ) (h:K9 N n f v=some y):LG Tryz.prog YR 63 (zd qjK 3) (qhZ f v) (QF f y):=
 jc qu (E:=qdn N) (L:=qX (qh7 N)) (st:=QF f) (g:=some) (R:=QF f) (qbz N) (qC (by kernel_rfl) trivial) (rg0 (by kernel_rfl)) (fun v=>by kernel_rfl) (zo (st:=QF f) fun y=>by rfl) n v y h
def WQ (N:Nat) (o_3:List qe) (o_3_3:Vector UInt8 16) (o_3_4:qd) (o_3_5:Nat) (o_3_6:Vector UInt8 16) (o_3_7:qd) (s10_3:Int) (o_3_2:List qe) (s11_3:Int):Option vJ:=K9 N N (o_3,o_3_3,o_3_4,o_3_5,o_3_6,o_3_7,s10_3) (o_3_2,s11_3)
def qaa (N:Nat):qO:=smL qag [(.sl 37 qK),(.sl 37 qK),(.ba 16),qJ,.nat,(.ba 16),qJ,(.i .i64),(.i .i64)] vJ (fun x=>WQ N x.1 x.2.2.1 x.2.2.2.1 x.2.2.2.2.1 x.2.2.2.2.2.1 x.2.2.2.2.2.2.1 x.2.2.2.2.2.2.2.1 x.2.1 x.2.2.2.2.2.2.2.2.1) cs1 fun x=>QF (x.1,x.2.2.1,x.2.2.2.1,x.2.2.2.2.1,x.2.2.2.2.2.1,x.2.2.2.2.2.2.1,x.2.2.2.2.2.2.2.1)
theorem qf5 (N:Nat):v5 Tryz.prog YR 63 (zd qjK 3) (qaa N):=jx fun x z h=>qib N (x.1,x.2.2.1,x.2.2.2.1,x.2.2.2.2.1,x.2.2.2.2.2.1,x.2.2.2.2.2.2.1,x.2.2.2.2.2.2.2.1) N (x.2.1,x.2.2.2.2.2.2.2.2.1) z h
def qmP (z:qi):TV×THp:=(.tv qT z,[])
def YS (N:Nat) (a0:qi):Tree (qi):=
 .bind (jQ (qi.F a0)) fun r1=>
 .bind (vN [(([]:List qe).length,0)] (WQ N [] (qi.ID a0) (qi.jh a0) (((([]:List qe))++(qi.F a0)).length) ((Vector.replicate 16 0)) (qd.mk 0 0) ((((([]:List qe))++(qi.F a0)).length:Nat):Int) ((([]:List qe))++(qi.F a0)) 0)) fun z2=>
 .chk (z2.1.length=((([]:List qe))++(qi.F a0)).length) <|
 .ret (qi.mk (qi.ID a0) (qi.jh a0) z2.1)
def Yy (N:Nat) (a0:qi):Option (qi):=(YS N a0).run some
def qme (N:Nat):List (Nat×qO):=[(3,qaa N)]
def qds (N:Nat):Ent:=smF ⟨63,[],[.x qT],[],[]⟩ [qT] (qi) (fun x=>Yy N x.1) cs1 fun _=>qmP
theorem qkh (N:Nat):zn Tryz.prog (qds N):=
 zq (H:=YR) (L:=qX (qme N)) (ts:=[qT]) (T:=fun x=>YS N x.1) 0 qxU (qbz N) (qC (by kernel_rfl) ⟨qf5 N,trivial⟩) (rg0 (by kernel_rfl)) fun x=>by kernel_rfl
noncomputable def qwX:Code:=Tryz.f26.body.getD .skip
theorem qwR:FnF Tryz.prog 26 Tryz.f26 qwX:=⟨qu,by kernel_rfl,by kernel_rfl,by kernel_rfl⟩
def qlg:TH:={ live:=[(0,[2,3,4]),(1,[2,4,6]),(2,[2,4,6,12]),(3,[4,5]),(4,[4,5])],nil:=[(0,[⟨.ob 40 [2],45,(.sl 37 qK)⟩]),(3,[⟨.ob 40 [2],45,(.sl 37 qK)⟩])] }
def qkW (N:Nat):List Ent:=[Xr N,qds N]
theorem qhL (N:Nat):q9 Tryz.prog (qkW N):=⟨qbp N,qkh N,trivial⟩
def qky (z:qi×Bool):TV×THp:=(.tup [.tv qT (z.1:qi),xb z.2],[])
def WY (N:Nat) (a0:qM) (a1:Vector UInt8 16):Tree (qi×Bool):=
 .bind (Qw N a1 (qM.L a0)) fun r1=>
 .cond (decide (r1 < ((0:Int)))) (
 .chk (0=0) <|
 .ret (qi.mk ((Vector.replicate 16 0)) (qd.mk 0 0) [],false)) <|
 .bind (zk (qM.L a0) r1) fun e2=>
 .bind (Yy N e2) fun r3=>
 .ret (r3,true)
def Zo (N:Nat) (a0:qM) (a1:Vector UInt8 16):Option (qi×Bool):=(WY N a0 a1).run some
def qkI (N:Nat):List (Nat×qO):=[]
def Vs (N:Nat):Ent:=smF ⟨26,[],[.x z9,.x (.ba 16)],[],[]⟩ [z9,(.ba 16)] (qi×Bool) (fun x=>Zo N x.1 x.2.1) cs1 fun _=>qky
theorem Wh (N:Nat):zn Tryz.prog (Vs N):=
 zq (H:=qlg) (L:=qX (qkI N)) (ts:=[z9,(.ba 16)]) (T:=fun x=>WY N x.1 x.2.1) 0 qwR (qhL N) (qC (by kernel_rfl) trivial) (rg0 (by kernel_rfl)) fun x=>by kernel_rfl
noncomputable def qw8:Code:=Tryz.f65.body.getD .skip
theorem qwF:FnF Tryz.prog 65 Tryz.f65 qw8:=⟨qu,by kernel_rfl,by kernel_rfl,by kernel_rfl⟩
def qhH:TH:={ live:=[(0,[1,2]),(1,[3])] }
def qh3 (N:Nat):List Ent:=[]
theorem qfv (N:Nat):q9 Tryz.prog (qh3 N):=trivial
def qh6 (a0:Int) (a1:qe) (z:Unit):TV×THp:=(xb (decide ((qe.No a1)=a0)),[(50,.cell false (xi a0))])
def Xv (a0:Int) (a1:qe):Tree (Unit):=
 .ret ()
def Yp (a0:Int) (a1:qe):Option (Unit):=(Xv a0 a1).run some
def qhW:List (Nat×qO):=[]
def qab:Ent:=smF ⟨65,[],[.x qK],[.k (.p 50 [] 0)],[(50,.cell false (.x (.i .i64)))]⟩ [(.i .i64),qK] (Unit) (fun x=>Yp x.1 x.2.1) cs1 fun x=>qh6 x.1 x.2.1
theorem qf1:zn Tryz.prog (qab):=
 zq (H:=qhH) (L:=qX (qhW)) (ts:=[(.i .i64),qK]) (T:=fun x=>Xv x.1 x.2.1) 0 qwF (qfv 0) (qC (by kernel_rfl) trivial) (rg0 (by kernel_rfl)) fun x=>by kernel_rfl
noncomputable def qaW:Code:=Tryz.f64.body.getD .skip
theorem qqr:FnF Tryz.prog 64 Tryz.f64 qaW:=⟨qu,by kernel_rfl,by kernel_rfl,by kernel_rfl⟩
def Q5:TH:={ live:=[(0,[0,1]),(1,[0,1,7,8]),(2,[0,1,7,8,9]),(3,[0,1,5,7,8]),(4,[0,1,5,7,8,16]),(5,[4]),(6,[0,1,7,8]),(7,[4])] }
def V6 (N:Nat):List Ent:=[qab]
theorem JW (N:Nat):q9 Tryz.prog (V6 N):=⟨qf1,trivial⟩
abbrev jN:=Int×List qe×Int
abbrev zM:=Int⊕(Int×Bool)
def jd (f:jN):zM→Ex×TSt
 | .inl y=>(.ret,⟨1,19,[50],[(4,xi y)],[(50,.cell false (xi f.1))],false,[]⟩)
 | .inr y=>(.exit 0,⟨1,19,[50],[(0,.tv (.sl 37 qK) f.2.1),(1,.fn (.func 65) [] [.p 50 [] 0]),(7,xi f.2.2),(8,xi y.1),(9,xb y.2)],[(50,.cell false (xi f.1))],false,[]⟩)
def Kt (N:Nat):List (Nat×qO):=[]
abbrev je:=Int
def Jk:SP:=⟨1,19,[50],[(0,.x (.sl 37 qK)),(1,.fn 65 [] [.k (.p 50 [] 0)]),(7,.x (.i .i64)),(8,.x (.i .i64))],[(50,.cell false (.x (.i .i64)))],false,[]⟩
def KE (f:jN) (v:je):TSt:=jC Jk [dv (.i .i64) f.1,dv (.sl 37 qK) f.2.1,dv (.i .i64) f.2.2,dv (.i .i64) v]
def jb (N:Nat) (o_2:Int) (s0_2:List qe) (s7_2:Int) (v:je):Tree (je⊕zM):=
 .cond (decide (v < s7_2)) (
 .bind (zk s0_2 v) fun e1=>
 .bind (Yp o_2 e1) fun r2=>
 .cond (decide ((qe.No e1)=o_2)) (
 .ret (.inr (.inl v))) <|
 .chk (qx (v + 1)) <|
 .ret (.inl (v + 1))) <|
 .ret (.inr (.inr ((v,decide (v < s7_2)))))
def Jj (N n:Nat) (f:jN) (v:je):Option zM:=zi (jb N f.1 f.2.1 f.2.2) some n v
theorem Kw (N:Nat) (f:jN) (n:Nat) (v:je) (y:zM) (h:Jj N n f v=some y):LG Tryz.prog Q5 64 (zd qaW 2) (KE f v) (jd f y):=
 jc qu (E:=V6 N) (L:=qX (Kt N)) (st:=jd f) (g:=some) (R:=jd f) (JW N) (qC (by kernel_rfl) trivial) (rg0 (by kernel_rfl)) (fun v=>by kernel_rfl) (zo (st:=jd f) fun y=>by rcases y with _ | _<;>rfl) n v y h
def QO (N:Nat) (o_2:Int) (s0_2:List qe) (s7_2:Int) (s8_2:Int):Option zM:=Jj N N (o_2,s0_2,s7_2) s8_2
def Jg (N:Nat):qO:=smL Jk [(.i .i64),(.sl 37 qK),(.i .i64),(.i .i64)] zM (fun x=>QO N x.1 x.2.1 x.2.2.1 x.2.2.2.1) (csS cs1) fun x=>jd (x.1,x.2.1,x.2.2.1)
theorem Y4 (N:Nat):v5 Tryz.prog Q5 64 (zd qaW 2) (Jg N):=jx fun x z h=>Kw N (x.1,x.2.1,x.2.2.1) N x.2.2.2.1 z h
def qbu (a0:Int) (z:Int):TV×THp:=(xi z,[(50,.cell false (xi a0))])
def Q4 (N:Nat) (a0:Int) (a1:List qe):Tree (Int):=
 .bind (QO N a0 a1 ((a1.length:Nat):Int) 0) fun z1=>
 .sum z1 (fun z2=>
 .ret z2) fun z2=>
 .ret (-1)
def Qk (N:Nat) (a0:Int) (a1:List qe):Option (Int):=(Q4 N a0 a1).run some
def qbB (N:Nat):List (Nat×qO):=[(2,Jg N)]
def VL (N:Nat):Ent:=smF ⟨64,[],[.x (.sl 37 qK),.fn 65 [] [.k (.p 50 [] 0)]],[],[(50,.cell false (.x (.i .i64)))]⟩ [(.i .i64),(.sl 37 qK)] (Int) (fun x=>Qk N x.1 x.2.1) cs1 fun x=>qbu x.1
theorem qaD (N:Nat):zn Tryz.prog (VL N):=
 zq (H:=Q5) (L:=qX (qbB N)) (ts:=[(.i .i64),(.sl 37 qK)]) (T:=fun x=>Q4 N x.1 x.2.1) 0 qqr (JW N) (qC (by kernel_rfl) ⟨Y4 N,trivial⟩) (rg0 (by kernel_rfl)) fun x=>by kernel_rfl
noncomputable def qxt:Code:=Tryz.f27.body.getD .skip
theorem qxm:FnF Tryz.prog 27 Tryz.f27 qxt:=⟨qu,by kernel_rfl,by kernel_rfl,by kernel_rfl⟩
def qlG:TH:={ live:=[(0,[3,4,5,6]),(1,[5,6,8]),(2,[6,8,10]),(3,[6,8,10,22]),(4,[6,7]),(5,[6,7])] }
def qk9 (N:Nat):List Ent:=[Vs N,VL N]
theorem qic (N:Nat):q9 Tryz.prog (qk9 N):=⟨Wh N,qaD N,trivial⟩
def qlF (z:qe×Bool):TV×THp:=(.tup [.tv qK (z.1:qe),xb z.2],[])
def WS (N:Nat) (a0:qM) (a1:Vector UInt8 16) (a2:Int):Tree (qe×Bool):=
 .bind (Zo N a0 a1) fun r1=>
 .bind (Qk N a2 (qi.F r1.1)) fun r2=>
 .cond (decide (r2 < ((0:Int)))) (
 .ret (qe.mk 0 (qd.mk 0 0) 0 ((Vector.replicate 32 0)) [],false)) <|
 .bind (zk (qi.F r1.1) r2) fun e3=>
 .ret (e3,true)
def XN (N:Nat) (a0:qM) (a1:Vector UInt8 16) (a2:Int):Option (qe×Bool):=(WS N a0 a1 a2).run some
def qlA (N:Nat):List (Nat×qO):=[]
def qb9 (N:Nat):Ent:=smF ⟨27,[],[.x z9,.x (.ba 16),.x (.i .i64)],[],[]⟩ [z9,(.ba 16),(.i .i64)] (qe×Bool) (fun x=>XN N x.1 x.2.1 x.2.2.1) cs1 fun _=>qlF
theorem qjF (N:Nat):zn Tryz.prog (qb9 N):=
 zq (H:=qlG) (L:=qX (qlA N)) (ts:=[z9,(.ba 16),(.i .i64)]) (T:=fun x=>WS N x.1 x.2.1 x.2.2.1) 0 qxm (qic N) (qC (by kernel_rfl) trivial) (rg0 (by kernel_rfl)) fun x=>by kernel_rfl
noncomputable def qwP:Code:=Tryz.f82.body.getD .skip
theorem qw0:FnF Tryz.prog 82 Tryz.f82 qwP:=⟨qu,by kernel_rfl,by kernel_rfl,by kernel_rfl⟩
def qhT:TH:={ live:=[(0,[1,2]),(1,[3])] }
def qhN (N:Nat):List Ent:=[]
theorem qfm (N:Nat):q9 Tryz.prog (qhN N):=trivial
def qhM (a0:Int) (a1:qe) (z:Unit):TV×THp:=(xb (decide ((qe.No a1)=a0)),[(50,.cell false (xi a0))])
def qac (a0:Int) (a1:qe):Tree (Unit):=
 .ret ()
def Yl (a0:Int) (a1:qe):Option (Unit):=(qac a0 a1).run some
def qhX:List (Nat×qO):=[]
def K_:Ent:=smF ⟨82,[],[.x qK],[.k (.p 50 [] 0)],[(50,.cell false (.x (.i .i64)))]⟩ [(.i .i64),qK] (Unit) (fun x=>Yl x.1 x.2.1) cs1 fun x=>qhM x.1 x.2.1
theorem qgV:zn Tryz.prog (K_):=
 zq (H:=qhT) (L:=qX (qhX)) (ts:=[(.i .i64),qK]) (T:=fun x=>qac x.1 x.2.1) 0 qw0 (qfm 0) (qC (by kernel_rfl) trivial) (rg0 (by kernel_rfl)) fun x=>by kernel_rfl
def QK:TH:={ live:=[(0,[0,1]),(1,[0,1,7,8]),(2,[0,1,7,8,9]),(3,[0,1,5,7,8]),(4,[0,1,5,7,8,16]),(5,[4]),(6,[0,1,7,8]),(7,[4])] }
def Vo (N:Nat):List Ent:=[K_]
theorem Ji (N:Nat):q9 Tryz.prog (Vo N):=⟨qgV,trivial⟩
abbrev jJ:=Int×List qe×Int
abbrev zG:=Int⊕(Int×Bool)
def zY (f:jJ):zG→Ex×TSt
 | .inl y=>(.ret,⟨1,19,[50],[(4,xi y)],[(50,.cell false (xi f.1))],false,[]⟩)
 | .inr y=>(.exit 0,⟨1,19,[50],[(0,.tv (.sl 37 qK) f.2.1),(1,.fn (.func 82) [] [.p 50 [] 0]),(7,xi f.2.2),(8,xi y.1),(9,xb y.2)],[(50,.cell false (xi f.1))],false,[]⟩)
def Y6 (N:Nat):List (Nat×qO):=[]
abbrev zX:=Int
def ZY:SP:=⟨1,19,[50],[(0,.x (.sl 37 qK)),(1,.fn 82 [] [.k (.p 50 [] 0)]),(7,.x (.i .i64)),(8,.x (.i .i64))],[(50,.cell false (.x (.i .i64)))],false,[]⟩
def Y8 (f:jJ) (v:zX):TSt:=jC ZY [dv (.i .i64) f.1,dv (.sl 37 qK) f.2.1,dv (.i .i64) f.2.2,dv (.i .i64) v]
def zW (N:Nat) (o_2:Int) (s0_2:List qe) (s7_2:Int) (v:zX):Tree (zX⊕zG):=
 .cond (decide (v < s7_2)) (
 .bind (zk s0_2 v) fun e1=>
 .bind (Yl o_2 e1) fun r2=>
 .cond (decide ((qe.No e1)=o_2)) (
 .ret (.inr (.inl v))) <|
 .chk (qx (v + 1)) <|
 .ret (.inl (v + 1))) <|
 .ret (.inr (.inr ((v,decide (v < s7_2)))))
def Z4 (N n:Nat) (f:jJ) (v:zX):Option zG:=zi (zW N f.1 f.2.1 f.2.2) some n v
theorem YO (N:Nat) (f:jJ) (n:Nat) (v:zX) (y:zG) (h:Z4 N n f v=some y):LG Tryz.prog QK 64 (zd qaW 2) (Y8 f v) (zY f y):=
 jc qu (E:=Vo N) (L:=qX (Y6 N)) (st:=zY f) (g:=some) (R:=zY f) (Ji N) (qC (by kernel_rfl) trivial) (rg0 (by kernel_rfl)) (fun v=>by kernel_rfl) (zo (st:=zY f) fun y=>by rcases y with _ | _<;>rfl) n v y h
def QE (N:Nat) (o_2:Int) (s0_2:List qe) (s7_2:Int) (s8_2:Int):Option zG:=Z4 N N (o_2,s0_2,s7_2) s8_2
def ZZ (N:Nat):qO:=smL ZY [(.i .i64),(.sl 37 qK),(.i .i64),(.i .i64)] zG (fun x=>QE N x.1 x.2.1 x.2.2.1 x.2.2.2.1) (csS cs1) fun x=>zY (x.1,x.2.1,x.2.2.1)
theorem YA (N:Nat):v5 Tryz.prog QK 64 (zd qaW 2) (ZZ N):=jx fun x z h=>YO N (x.1,x.2.1,x.2.2.1) N x.2.2.2.1 z h
def qaz (a0:Int) (z:Int):TV×THp:=(xi z,[(50,.cell false (xi a0))])
def QN (N:Nat) (a0:Int) (a1:List qe):Tree (Int):=
 .bind (QE N a0 a1 ((a1.length:Nat):Int) 0) fun z1=>
 .sum z1 (fun z2=>
 .ret z2) fun z2=>
 .ret (-1)
def vS (N:Nat) (a0:Int) (a1:List qe):Option (Int):=(QN N a0 a1).run some
def qax (N:Nat):List (Nat×qO):=[(2,ZZ N)]
def Vp (N:Nat):Ent:=smF ⟨64,[],[.x (.sl 37 qK),.fn 82 [] [.k (.p 50 [] 0)]],[],[(50,.cell false (.x (.i .i64)))]⟩ [(.i .i64),(.sl 37 qK)] (Int) (fun x=>vS N x.1 x.2.1) cs1 fun x=>qaz x.1
theorem KX (N:Nat):zn Tryz.prog (Vp N):=
 zq (H:=QK) (L:=qX (qax N)) (ts:=[(.i .i64),(.sl 37 qK)]) (T:=fun x=>QN N x.1 x.2.1) 0 qqr (Ji N) (qC (by kernel_rfl) ⟨YA N,trivial⟩) (rg0 (by kernel_rfl)) fun x=>by kernel_rfl
noncomputable def qwK:Code:=Tryz.f83.body.getD .skip
theorem qxx:FnF Tryz.prog 83 Tryz.f83 qwK:=⟨qu,by kernel_rfl,by kernel_rfl,by kernel_rfl⟩
def qsR:TH:={ live:=[(0,[2,3]),(1,[4])],dec:=[8] }
def qui (N:Nat):List Ent:=[Ye]
theorem qpo (N:Nat):q9 Tryz.prog (qui N):=⟨qbq,trivial⟩
def qs_ (z:Bool):TV×THp:=(xb z,[])
def qea (a0:Vector UInt8 32) (a1:Vector UInt8 32):Tree (Bool):=
 .cond (!(eqE (.ba 32) a0 a1)) (
 .bind (XM a0.toList a1.toList) fun r1=>
 .ret (decide (r1 < ((0:Int))))) <|
 .ret false
def qeo (a0:Vector UInt8 32) (a1:Vector UInt8 32):Option (Bool):=(qea a0 a1).run some
def qty:List (Nat×qO):=[]
def qkH:Ent:=smF ⟨83,[],[.x (.ba 32),.x (.ba 32)],[],[]⟩ [(.ba 32),(.ba 32)] (Bool) (fun x=>qeo x.1 x.2.1) cs1 fun _=>qs_
theorem qrf:zn Tryz.prog (qkH):=
 zq (H:=qsR) (L:=qX (qty)) (ts:=[(.ba 32),(.ba 32)]) (T:=fun x=>qea x.1 x.2.1) 0 qxx (qpo 0) (qC (by kernel_rfl) trivial) (rg0 (by kernel_rfl)) fun x=>by kernel_rfl
noncomputable def qxr:Code:=Tryz.f49.body.getD .skip
theorem qxF:FnF Tryz.prog 49 Tryz.f49 qxr:=⟨qu,by kernel_rfl,by kernel_rfl,by kernel_rfl⟩
def qlQ:TH:={ live:=[(0,[3,4,5]),(1,[3,4,7]),(2,[3,4,7,12]),(3,[6]),(4,[3,4,7,19]),(5,[6]),(6,[3,4,7,22]),(7,[6]),(8,[6])] }
def qk0 (N:Nat):List Ent:=[Vp N,WD N,qdI N,qkH]
theorem qh2 (N:Nat):q9 Tryz.prog (qk0 N):=⟨KX N,KO N,qfL N,qrf,trivial⟩
def qkj (z:Bool):TV×THp:=(xb z,[])
def WU (N:Nat) (a0:qq) (a1:qi) (a2:Int):Tree (Bool):=
 .bind (vS N a2 (qi.F a1)) fun r1=>
 .bind (vB N (qi.jh a1) (qq.S a0)) fun r2=>
 .cond (!r2) (
 .ret false) <|
 .cond (decide (r1 < ((0:Int)))) (
 .ret true) <|
 .bind (zk (qi.F a1) r1) fun e3=>
 .cond (!(eqE qJ (qe.S e3) (qq.S a0))) (
 .bind (zk (qi.F a1) r1) fun e4=>
 .bind (vB N (qe.S e4) (qq.S a0)) fun r5=>
 .ret r5) <|
 .bind (zk (qi.F a1) r1) fun e4=>
 .bind (qdq N (qq.V a0)) fun r5=>
 .bind (qeo (qe.D e4) r5) fun r6=>
 .ret r6
def XT (N:Nat) (a0:qq) (a1:qi) (a2:Int):Option (Bool):=(WU N a0 a1 a2).run some
def qkp (N:Nat):List (Nat×qO):=[]
def qbM (N:Nat):Ent:=smF ⟨49,[],[.x zT,.x qT,.x (.i .i64)],[],[]⟩ [zT,qT,(.i .i64)] (Bool) (fun x=>XT N x.1 x.2.1 x.2.2.1) cs1 fun _=>qkj
theorem qjo (N:Nat):zn Tryz.prog (qbM N):=
 zq (H:=qlQ) (L:=qX (qkp N)) (ts:=[zT,qT,(.i .i64)]) (T:=fun x=>WU N x.1 x.2.1 x.2.2.1) 0 qxF (qh2 N) (qC (by kernel_rfl) trivial) (rg0 (by kernel_rfl)) fun x=>by kernel_rfl
noncomputable def qwx:Code:=Tryz.f20.body.getD .skip
theorem qxf:FnF Tryz.prog 20 Tryz.f20 qwx:=⟨qu,by kernel_rfl,by kernel_rfl,by kernel_rfl⟩
def qkm:TH:={ live:=[(0,[3,4,5,6]),(1,[3,4,9]),(2,[8])] }
def qlc (N:Nat):List Ent:=[Vs N,qbM N]
theorem qhF (N:Nat):q9 Tryz.prog (qlc N):=⟨Wh N,qjo N,trivial⟩
def qlP (z:Bool):TV×THp:=(xb z,[])
def Ym (N:Nat) (a0:qq) (a1:qM) (a2:Vector UInt8 16) (a3:Int):Tree (Bool):=
 .bind (Zo N a1 a2) fun r1=>
 .bind (XT N a0 r1.1 a3) fun r2=>
 .ret r2
def X_ (N:Nat) (a0:qq) (a1:qM) (a2:Vector UInt8 16) (a3:Int):Option (Bool):=(Ym N a0 a1 a2 a3).run some
def qkR (N:Nat):List (Nat×qO):=[]
def qb3 (N:Nat):Ent:=smF ⟨20,[],[.x zT,.x z9,.x (.ba 16),.x (.i .i64)],[],[]⟩ [zT,z9,(.ba 16),(.i .i64)] (Bool) (fun x=>X_ N x.1 x.2.1 x.2.2.1 x.2.2.2.1) cs1 fun _=>qlP
theorem qi_ (N:Nat):zn Tryz.prog (qb3 N):=
 zq (H:=qkm) (L:=qX (qkR N)) (ts:=[zT,z9,(.ba 16),(.i .i64)]) (T:=fun x=>Ym N x.1 x.2.1 x.2.2.1 x.2.2.2.1) 0 qxf (qhF N) (qC (by kernel_rfl) trivial) (rg0 (by kernel_rfl)) fun x=>by kernel_rfl
noncomputable def qsj:Code:=Tryz.f6.body.getD .skip
theorem qyI:FnF Tryz.prog 6 Tryz.f6 qsj:=⟨qu,by kernel_rfl,by kernel_rfl,by kernel_rfl⟩
def qak:TH:={ live:=[(0,[3,4,5,6]),(1,[3,4,5,6,9]),(2,[3,4,5,6,9,10]),(3,[3,5,6,9,10,11,12]),(4,[3,5,6,9,11,41]),(5,[8]),(6,[3,5,6,11,13]),(7,[3,5,6,11,13,15,16]),(8,[5,13,15,16,17]),(9,[5,15,16,17,66]),(10,[8]),(11,[5,15,17,77]),(12,[8]),(13,[8])],dec:=[28,32,36,71,81] }
def qal (N:Nat):List Ent:=[qsG,Kz N,qeZ N,Vs N,qb9 N,qb3 N,WD N]
theorem Kq (N:Nat):q9 Tryz.prog (qal N):=⟨qxY,qfo N,qmW N,Wh N,qjF N,qi_ N,KO N,trivial⟩
def qaj (z:Bool):TV×THp:=(xb z,[])
def QJ (N:Nat) (a0:qo) (a1:qq) (a2:Vector UInt8 16) (a3:Int):Tree (Bool):=
 .bind (qtc) fun r1=>
 .bind (Jz N a0) fun r2=>
 .bind (J8 N a0) fun r3=>
 .cond (!r1) (
 .ret r1) <|
 .cond (!r2) (
 .ret r1) <|
 .cond (!r3.2) (
 .ret r1) <|
 .cond (decide (((300:Int)) < (((qq.V a1).length:Nat):Int))) (
 .ret r1) <|
 .bind (Zo N r3.1 a2) fun r4=>
 .bind (XN N r3.1 a2 a3) fun r5=>
 .bind (X_ N a1 r3.1 a2 a3) fun r6=>
 .bind (vB N (qi.jh r4.1) (qq.S a1)) fun r7=>
 .cond (!r7) (
 .ret !r6) <|
 .cond (!r5.2) (
 .ret r6) <|
 .bind (vB N (qe.S r5.1) (qq.S a1)) fun r8=>
 .cond r8 (
 .ret r6) <|
 .cond (!r6) (
 .ret true) <|
 .ret (eqE qJ (qe.S r5.1) (qq.S a1))
def jg (N:Nat) (a0:qo) (a1:qq) (a2:Vector UInt8 16) (a3:Int):Option (Bool):=(QJ N a0 a1 a2 a3).run some
def qai (N:Nat):List (Nat×qO):=[]
theorem KB (N:Nat):X1 Tryz.prog ⟨6,[],[.x zg,.x zT,.x (.ba 16),.x (.i .i64)],[],[]⟩ [zg,zT,(.ba 16),(.i .i64)] (fun x=>QJ N x.1 x.2.1 x.2.2.1 x.2.2.2.1) (fun _=>qaj):=
 JT (H:=qak) (L:=qX (qai N)) 0 qyI (Kq N) (qC (by kernel_rfl) trivial) (rg0 (by kernel_rfl)) fun x=>by kernel_rfl
end Go.Rx
end
set_option maxRecDepth 100000
noncomputable section
namespace Go.Rx
open Go.Proofs
abbrev Vl (q:Nat→Bool) (n:Nat):Bool:=qps q n 0
theorem YQ {q:Nat→Bool} {n:Nat}:Vl q n=true↔∀ j,j < n→q j=true:=by
 unfold Vl; rw [qqp]
 exact ⟨fun h j hj=>h j (Nat.zero_le _) (by omega),fun h j _ hj=>h j (by omega)⟩
theorem qvy {p q:Nat→Bool} {n:Nat} (h:Qn p n 0=none) (hq:∀ j,j < n→p j=!q j):Vl q n=true:=
 YQ.2 fun j hj=>by
  have:=qir h j (Nat.zero_le _) (by omega)
  rw [hq j hj] at this; simpa using this
theorem qu4 {p q:Nat→Bool} {n i:Nat} (h:Qn p n 0=some i) (hq:∀ j,j < n→p j=!q j):Vl q n=false:=by
 obtain ⟨h1,_,h2,_⟩:=qck h
 cases e:Vl q n with
 | false=>rfl
 | true=>
  have:=YQ.1 e i (by omega)
  rw [hq i (by omega),this] at h1; simp at h1
theorem qcc {α Y : Type} {B : Int → Tree (Int ⊕ (α ⊕ (Int × Bool)))} {g : α ⊕ (Int × Bool) → Option Y} {q : Nat → Bool} {n : Nat} {hit : α}
    (h1:∀ k,k < n→(B (k:Int)).run some=some (if q k then .inl ((k + 1:Nat):Int) else .inr (.inl hit))) (h2:(B (n:Int)).run some=some (.inr (.inr (((n:Nat):Int),false)))) {N:Nat} (hN:n < N) :
    zi B g N ((0:Nat):Int)=g (if Vl q n then .inr (((n:Nat):Int),false) else .inl hit):=by
 rw [Km (p:=fun k=>!q k) (hit:=fun _=>.inl hit) (fin:=.inr (((n:Nat):Int),false)) (n:=n) (fun k hk=>by rw [h1 k hk]; cases q k<;>rfl) h2 N 0 (Nat.zero_le _) (by omega),Nat.sub_zero]
 cases e:Qn (fun k=>!q k) n 0 with
 | none=>rw [qvy e fun _ _=>rfl]; rfl
 | some i=>rw [qu4 e fun _ _=>rfl]; rfl
class Vh (N:Nat):Prop where
 h:100000≤N
theorem Vh.of {N:Nat} (h:100000≤N):Vh N:=⟨h⟩
theorem big (N:Nat) [Vh N]:100000≤N:=Vh.h
abbrev zSt:qd:=((0:Int),(0:Int))
abbrev zE:qe:=qe.mk 0 zSt 0 (Vector.replicate 32 0) []
abbrev zL:qi:=qi.mk (Vector.replicate 16 0) zSt []
def qz6 (x:qi):Bool:=decide (x.F.length≤12)&&Vl (fun k=>decide ((x.F.getD k zE).B.length≤40)) x.F.length
def qmI (m:qM):Bool:=decide (m.L.length≤14)&&Vl (fun k=>qz6 (m.L.getD k zL)) m.L.length
theorem qmD {k:Nat} (h:k≤1000000):qx ((k + 1:Nat):Int):=by unfold qx; omega
theorem qxs {c n:Nat}:decide (((c:Nat):Int) < ((n:Nat):Int))=!decide (n≤c):=by
 by_cases h:n≤c
 ·rw [decide_eq_true h,decide_eq_false (by omega)]; rfl
 ·rw [decide_eq_false h,decide_eq_true (by omega)]; rfl
section n
variable {N:Nat} [Vh N]
def stB (a:qd):Bool:=decide (a=zSt)||(decide (0 < a.1)&&decide (a.1≤1099511627776)&&decide (0≤a.2)&&decide (a.2 < 8))
def slB (a b:qd):Bool:=decide (a.1 < b.1∨(a.1=b.1∧a.2 < b.2))
theorem qjU (a b:qd):eqE qJ a b=decide (a=b):=Bool.eq_iff_iff.2 ((Z7 qJ a b).trans (decide_eq_true_iff (p:=(a:Int×Int)=b)).symm)
theorem qz4 (a b:Vector UInt8 16):eqE (.ba 16) a b=decide (a=b):=Bool.eq_iff_iff.2 ((Z7 (.ba 16) a b).trans (decide_eq_true_iff (p:=(a:Vector UInt8 16)=b)).symm)
theorem qeM (a:qd):VM a=some (stB a):=by
 unfold VM qcG
 have e:=qjU a (qd.mk 0 0)
 simp only [Tree.run,e]
 show (bif decide (a=zSt) then _ else _)=some (decide (a=zSt)||_)
 cases decide (a=zSt) with
 | true=>rfl
 | false=>
  show (bif decide (0 < a.1) then _ else _)=_
  cases decide (0 < a.1) with
  | false=>rfl
  | true=>
   show (bif decide (a.1≤1099511627776) then _ else _)=_
   cases decide (a.1≤1099511627776) with
   | false=>rfl
   | true=>
    show (bif decide (0≤a.2) then _ else _)=_
    cases decide (0≤a.2)<;>rfl
def sgn (a b:Int):Int:=if a < b then -1 else if b < a then 1 else 0
theorem qz9 (a b:Int):Zs a b=some (sgn a b):=by
 unfold Zs Xw XO Yc
 simp only [Tree.run,Option.bind_some,decide_true,Bool.not_true,cond_false,sgn]
 by_cases h:a < b
 ·simp [h]
 ·by_cases h2:b < a
  ·simp [h,h2]
  ·simp [h,h2]
theorem quj (a b:Int):WH N [a,b]=some (if a=0 then b else a):=by
 obtain ⟨n,rfl⟩:∃ n,N=n + 3:=⟨N - 3,by have:=big N; omega⟩
 have e:KS (n + 3) [a,b] ((([a,b]:List Int).length:Nat):Int) 0=zi (vE (n + 3) [a,b] 2) some (n + 3) 0:=rfl
 have r0:(vE (n + 3) [a,b] 2 0).run some=if a=0 then some (.inl 1) else some (.inr (.inl a)):=by
  unfold vE
  have g:zk [a,b] 0=some a:=rfl
  have c:qx ((0:Int) + 1):=by unfold qx; omega
  rw [qB,show decide ((0:Int) < 2)=true from rfl,cond_true,run_bind,g,Option.bind_some,qB,qI,qa c]
  by_cases h:a=0
  ·rw [if_pos h,decide_eq_true h]; rfl
  ·rw [if_neg h,decide_eq_false h]; rfl
 have r1:(vE (n + 3) [a,b] 2 1).run some=if b=0 then some (.inl 2) else some (.inr (.inl b)):=by
  unfold vE
  have g:zk [a,b] 1=some b:=rfl
  have c:qx ((1:Int) + 1):=by unfold qx; omega
  rw [qB,show decide ((1:Int) < 2)=true from rfl,cond_true,run_bind,g,Option.bind_some,qB,qI,qa c]
  by_cases h:b=0
  ·rw [if_pos h,decide_eq_true h]; rfl
  ·rw [if_neg h,decide_eq_false h]; rfl
 have r2:(vE (n + 3) [a,b] 2 2).run some=some (.inr (.inr (2,false))):=rfl
 unfold WH qbj
 rw [run_bind,e]
 by_cases h:a=0
 ·rw [if_pos h] at r0
  rw [Vy r0,if_pos h]
  by_cases h2:b=0
  ·rw [if_pos h2] at r1
   rw [Vy r1,QS r2,h2]; rfl
  ·rw [if_neg h2] at r1
   rw [QS r1]; rfl
 ·rw [if_neg h] at r0
  rw [QS r0,if_neg h]; rfl
theorem qAt (a b:Int):sgn a b=-1∨sgn a b=0∨sgn a b=1:=by
 unfold sgn; split
 ·exact .inl rfl
 ·split
  ·exact .inr (.inr rfl)
  ·exact .inr (.inl rfl)
theorem Ky (a b:qd):vB N a b=some (slB a b):=by
 obtain ⟨a1,a2⟩:=a
 obtain ⟨b1,b2⟩:=b
 unfold vB qbw
 simp only [Tree.run,qjU,qz9,Option.bind_some]
 by_cases h:((a1,a2):qd)=(b1,b2)
 ·cases h
  have:slB ((a1,a2):qd) (a1,a2)=false:=decide_eq_false (by simp only; omega)
  rw [this,decide_eq_true rfl]; rfl
 ·rw [decide_eq_false h]
  simp only [Bool.not_false,cond_true]
  show ((WH N [sgn a1 b1,sgn a2 b2]).bind _)=_
  have hs:=qAt a2 b2
  by_cases h1:a1 < b1
  ·rw [show sgn a1 b1=-1 from if_pos h1,quj,show slB ((a1,a2):qd) (b1,b2)=true from decide_eq_true (.inl h1)]; rfl
  ·by_cases h2:b1 < a1
   ·rw [show sgn a1 b1=1 by unfold sgn; rw [if_neg h1,if_pos h2],quj,show slB ((a1,a2):qd) (b1,b2)=false from decide_eq_false (by simp only; omega)]; rfl
   ·have he:a1=b1:=by omega
    rw [show sgn a1 b1=0 by unfold sgn; rw [if_neg h1,if_neg h2],quj,if_pos rfl,Option.bind_some]
    congr 1
    show decide (sgn a2 b2 < 0)=decide (a1 < b1∨(a1=b1∧a2 < b2))
    rw [decide_eq_decide]
    simp only [he,Int.lt_irrefl,false_or,true_and]
    unfold sgn
    split
    ·rename_i h3; simp [h3]
    ·rename_i h3
     split
     ·simp; omega
     ·simp; omega
end n
theorem ql9 {m:qM}:qmI m=true↔m.L.length≤14∧∀ k,k < m.L.length→(m.L.getD k zL).F.length≤12∧∀ j,j < (m.L.getD k zL).F.length→((m.L.getD k zL).F.getD j zE).B.length≤40:=by
 unfold qmI
 rw [Bool.and_eq_true,decide_eq_true_iff,YQ]
 refine and_congr Iff.rfl (forall_congr' fun k=>imp_congr_right fun _=>?_)
 unfold qz6
 rw [Bool.and_eq_true,decide_eq_true_iff,YQ]
 exact and_congr Iff.rfl (forall_congr' fun j=>imp_congr_right fun _=>decide_eq_true_iff)
end Go.Rx
end
set_option maxRecDepth 100000
noncomputable section
namespace Go.Rx
open Go.Proofs
def lbB (a b:Vector UInt8 16):Bool:=!decide (a=b)&&decide (Go.Lib.compareBytes a.toList b.toList < 0)
section n
variable {N:Nat} [Vh N]
theorem qqq {k:Nat} (h:0 < k):(k:Int) - 1=((k - 1:Nat):Int):=by omega
theorem qyH {k:Nat}:decide ((0:Int) < (k:Int))=!decide (k=0):=by
 by_cases h:k=0
 ·subst h; rfl
 ·rw [decide_eq_false h,decide_eq_true (by omega)]; rfl
theorem qwA (a b:Vector UInt8 16):qb_ a b=some (lbB a b):=by
 unfold qb_ qcB XM WC qw9 lbB
 simp only [Tree.run,Option.bind_some,qz4]
 cases decide (a=b)<;>rfl
end n
end Go.Rx
end
set_option maxRecDepth 100000
noncomputable section
namespace Go.Rx
abbrev c32 (x:UInt32):Int:=((x.toNat:Nat):Int)
theorem qwk (x:UInt32):x.toNat < 4294967296:=x.toNat_lt
theorem qdV (n:Nat):IntKind.u32.wrap ((n:Nat):Int)=((n % 4294967296:Nat):Int):=by rw [IntKind.wrap_u32']; omega
theorem WB (x:UInt32):BitVec.ofInt 32 (c32 x)=x.toBitVec:=by
 apply BitVec.eq_of_toNat_eq
 rw [ofInt_u32 _ (qwk x)]
 rfl
theorem qjw (x:UInt32):IntKind.u32.wrap ((x.toNat:Nat):Int)=c32 x:=by rw [qdV,Nat.mod_eq_of_lt (qwk x)]
theorem qtn (x y:UInt32):ZG .u32 (c32 x) (c32 y)=c32 (x + y):=by
 unfold ZG
 show IntKind.u32.wrap (((x.toNat:Nat):Int) + ((y.toNat:Nat):Int))=_
 rw [← Int.natCast_add,qdV,c32,UInt32.toNat_add]
theorem qt9 (x y:UInt32):We .u32 (c32 x) (c32 y)=c32 (x ^^^ y):=by
 unfold We
 rw [show IntKind.u32.bits=32 from rfl,WB,WB]
 exact qjw (x ^^^ y)
theorem qAg (x y:UInt32):qa5 .u32 (c32 x) (c32 y)=c32 (x &&& y):=by
 unfold qa5
 rw [show IntKind.u32.bits=32 from rfl,WB,WB]
 exact qjw (x &&& y)
theorem qzL (x y:UInt32):uOr .u32 (c32 x) (c32 y)=c32 (x ||| y):=by
 unfold uOr
 rw [show IntKind.u32.bits=32 from rfl,WB,WB]
 exact qjw (x ||| y)
theorem qAo (x:UInt32):We .u32 4294967295 (c32 x)=c32 (~~~x):=by
 have h:(4294967295:Int)=c32 4294967295:=rfl
 rw [h,qt9]
 congr 2
theorem qoz (x:UInt32) (n:Nat) (h:n < 32):Yx .u32 (c32 x) n=c32 (x <<< UInt32.ofNat n):=by
 unfold Yx
 rw [show c32 x * 2 ^ n=((x.toNat * 2 ^ n:Nat):Int) by push_cast; rfl,qdV,c32,UInt32.toNat_shiftLeft,UInt32.toNat_ofNat_of_lt' (show n < UInt32.size by unfold UInt32.size; omega),Nat.mod_eq_of_lt h,Nat.shiftLeft_eq]
theorem qoG (x:UInt32) (n:Nat) (h:n < 32):Wd (c32 x) n=c32 (x >>> UInt32.ofNat n):=by
 unfold Wd
 rw [show ((2:Int) ^ n)=((2 ^ n:Nat):Int) by push_cast; rfl,Int.fdiv_eq_ediv_of_nonneg _ (Int.natCast_nonneg _),c32,← Int.natCast_ediv,c32,UInt32.toNat_shiftRight,UInt32.toNat_ofNat_of_lt' (show n < UInt32.size by unfold UInt32.size; omega),Nat.mod_eq_of_lt h,Nat.shiftRight_eq_div_pow]
theorem qoK (x:UInt32):inW (c32 x):=⟨Int.natCast_nonneg _,by have:=qwk x; show ((x.toNat:Nat):Int) < _; omega⟩
def rot (x:UInt32) (n:Nat):UInt32:=(x <<< UInt32.ofNat (32 - n)) ||| (x >>> UInt32.ofNat n)
end Go.Rx
end
set_option maxRecDepth 100000
noncomputable section
namespace Go.Rx
open Go.Proofs
theorem qzF:∀ n < 32,0 < n→qa5 .u64 (IntKind.u64.wrap (0 - ((n:Nat):Int))) 31=((32 - n:Nat):Int):=by decide +kernel
theorem qyt:∀ n < 32,0 < n→qz0 .u64 (32:Int) ((32 - n:Nat):Int)=((n:Nat):Int):=by decide +kernel
theorem qbF (x:UInt32) (n:Nat) (h:n < 32) (h0:0 < n):zy (c32 x) ((n:Nat):Int)=some (c32 (rot x n)):=by
 unfold zy qcr ZO Zc
 have h64:qx (0 - ((n:Nat):Int)):=by unfold qx; omega
 simp only [run_bind,qI,qL,qa h64,qzF n h h0,qyt n h h0]
 rw [qa (show (0:Int)≤((32 - n:Nat):Int) by omega),qa (show (0:Int)≤((n:Nat):Int) by omega),Int.toNat_natCast,Int.toNat_natCast,Nat.min_eq_left (show 32 - n≤32 by omega),Nat.min_eq_left (show n≤32 by omega),qoz x _ (by omega),qoG x n h,qzL]
 rfl
abbrev wAt {n:Nat} (v:Vector UInt32 n) (k:Nat):UInt32:=v.toList.getD k 0
abbrev bAt (l:List UInt8) (k:Nat):UInt32:=(l.getD k 0).toUInt32
def qmc (b:List UInt8) (k:Nat) (w:Vector UInt32 64):Vector UInt32 64:=
 if k < 16 then w.setIfInBounds k ((bAt b (4 * k) <<< UInt32.ofNat 24) ||| (bAt b (4 * k + 1) <<< UInt32.ofNat 16) ||| (bAt b (4 * k + 2) <<< UInt32.ofNat 8) ||| bAt b (4 * k + 3))
 else w.setIfInBounds k (wAt w (k - 16) + wAt w (k - 7) + (rot (wAt w (k - 15)) 7 ^^^ rot (wAt w (k - 15)) 18 ^^^ (wAt w (k - 15) >>> UInt32.ofNat 3)) + (rot (wAt w (k - 2)) 17 ^^^ rot (wAt w (k - 2)) 19 ^^^ (wAt w (k - 2) >>> UInt32.ofNat 10)))
def qjm (b:List UInt8):Vector UInt32 64:=Zx (qmc b) 64 0 (Vector.replicate 64 0)
theorem qzA (c:UInt8):IntKind.u32.wrap ((c.toNat:Nat):Int)=c32 c.toUInt32:=by
 rw [qdV,Nat.mod_eq_of_lt (by have:=c.toNat_lt; omega),c32,UInt8.toNat_toUInt32]
theorem qzn {N:Nat} {o:Vector UInt32 64} {b:List UInt8} {w:Vector UInt32 64} {k:Nat} (hb:b.length=64) (hk:k < 16):(jL N o b (w,(k:Int))).run some=some (.inl (qmc b k w,((k + 1:Nat):Int))):=by
 have g:∀ j < 4,zk b ((4:Int) * (k:Int) + ((j:Nat):Int))=some (b.getD (4 * k + j) 0):=fun j hj=>by
  rw [show (4:Int) * (k:Int) + ((j:Nat):Int)=((4 * k + j:Nat):Int) by omega]; exact vV (by omega)
 have g0:zk b ((4:Int) * (k:Int))=some (b.getD (4 * k) 0):=by have:=g 0 (by omega); simpa using this
 have g1:zk b ((4:Int) * (k:Int) + 1)=some (b.getD (4 * k + 1) 0):=g 1 (by omega)
 have g2:zk b ((4:Int) * (k:Int) + 2)=some (b.getD (4 * k + 2) 0):=g 2 (by omega)
 have g3:zk b ((4:Int) * (k:Int) + 3)=some (b.getD (4 * k + 3) 0):=g 3 (by omega)
 have c0:qx ((4:Int) * (k:Int)):=by unfold qx; omega
 have c1:qx ((4:Int) * (k:Int) + 1):=by unfold qx; omega
 have c2:qx ((4:Int) * (k:Int) + 2):=by unfold qx; omega
 have c3:qx ((4:Int) * (k:Int) + 3):=by unfold qx; omega
 have c4:qx ((k:Int) + 1):=by unfold qx; omega
 have d1:decide ((k:Int) < 64)=true:=decide_eq_true (by omega)
 have d2:decide ((k:Int) < 16)=true:=decide_eq_true (by omega)
 have p8:(0:Int)≤8:=by omega
 have p16:(0:Int)≤16:=by omega
 have p24:(0:Int)≤24:=by omega
 have pk:(0:Int)≤(k:Int)∧(k:Int) < ((64:Nat):Int):=by omega
 have pk2:k < 64:=by omega
 unfold jL qmc
 rw [if_pos hk]
 simp only [qB,run_bind,qI,qL,d1,d2,cond_true,qa c0,qa c1,qa c2,qa c3,g0,g1,g2,g3,Option.bind_some,qa p8,qa p16,qa p24,qzA,qoz _ 24 (by omega),qoz _ 16 (by omega),qoz _ 8 (by omega),qzL,qa (qoK _),qa pk,UInt32.ofNat_toNat,Int.toNat_natCast,qa pk2,qa c4]
 rw [zU]
theorem qzs {N:Nat} {o:Vector UInt32 64} {b:List UInt8} {w:Vector UInt32 64} {k:Nat} (h1:¬ k < 16) (hk:k < 64):(jL N o b (w,(k:Int))).run some=some (.inl (qmc b k w,((k + 1:Nat):Int))):=by
 have c4:qx ((k:Int) + 1):=by unfold qx; omega
 have d1:decide ((k:Int) < 64)=true:=decide_eq_true (by omega)
 have d2:decide ((k:Int) < 16)=false:=decide_eq_false (by omega)
 have e15:(k:Int) - 15=((k - 15:Nat):Int):=by omega
 have e2:(k:Int) - 2=((k - 2:Nat):Int):=by omega
 have e16:(k:Int) - 16=((k - 16:Nat):Int):=by omega
 have e7:(k:Int) - 7=((k - 7:Nat):Int):=by omega
 have i15:qx (((k - 15:Nat)):Int):=by unfold qx; omega
 have i2:qx (((k - 2:Nat)):Int):=by unfold qx; omega
 have i16:qx (((k - 16:Nat)):Int):=by unfold qx; omega
 have i7:qx (((k - 7:Nat)):Int):=by unfold qx; omega
 have p15:(0:Int)≤((k - 15:Nat):Int)∧((k - 15:Nat):Int) < ((64:Nat):Int):=by omega
 have p2:(0:Int)≤((k - 2:Nat):Int)∧((k - 2:Nat):Int) < ((64:Nat):Int):=by omega
 have p16:(0:Int)≤((k - 16:Nat):Int)∧((k - 16:Nat):Int) < ((64:Nat):Int):=by omega
 have p7:(0:Int)≤((k - 7:Nat):Int)∧((k - 7:Nat):Int) < ((64:Nat):Int):=by omega
 have q15:k - 15 < 64:=by omega
 have q2:k - 2 < 64:=by omega
 have q16:k - 16 < 64:=by omega
 have q7:k - 7 < 64:=by omega
 have p3:(0:Int)≤3:=by omega
 have p10:(0:Int)≤10:=by omega
 have pk:(0:Int)≤(k:Int)∧(k:Int) < ((64:Nat):Int):=by omega
 have r7:=fun x=>qbF x 7 (by omega) (by omega)
 have r18:=fun x=>qbF x 18 (by omega) (by omega)
 have r17:=fun x=>qbF x 17 (by omega) (by omega)
 have r19:=fun x=>qbF x 19 (by omega) (by omega)
 unfold jL qmc
 rw [if_neg h1]
 simp only [qB,run_bind,qI,qL,d1,d2,cond_true,cond_false]
 rw [e15,e2,e16,e7]
 rw [qa i15,qa p15,Int.toNat_natCast,qa q15,qa i2,qa p2,Int.toNat_natCast,qa q2,qa i16,qa p16,Int.toNat_natCast,qa q16,qa i7,qa p7,Int.toNat_natCast,qa q7]
 show (Option.bind (zy (c32 (wAt w (k - 15))) ((7:Nat):Int)) _)=_
 rw [r7,Option.bind_some]
 show (Option.bind (zy (c32 (wAt w (k - 15))) ((18:Nat):Int)) _)=_
 rw [r18,Option.bind_some,qa p3]
 show (Option.bind (zy (c32 (wAt w (k - 2))) ((17:Nat):Int)) _)=_
 rw [r17,Option.bind_some]
 show (Option.bind (zy (c32 (wAt w (k - 2))) ((19:Nat):Int)) _)=_
 rw [r19,Option.bind_some,qa p10,qa pk]
 simp only [qt9,qtn,qoG _ 3 (by omega),qoG _ 10 (by omega),qa (qoK _),Int.toNat_natCast,UInt32.ofNat_toNat,qa hk,qa c4]
 rw [zU]
theorem qwW {N:Nat} {b:List UInt8} (hN:64 < N) (hb:b.length=64):Yk N b=some (qjm b):=by
 have key:WG N (Vector.replicate 64 0) b (Vector.replicate 64 0) 0=some (qjm b,(64:Int),false):=by
  refine (ZA (σ:=Vector UInt32 64) (B:=jL N (Vector.replicate 64 0) b) (g:=some) (at_:=fun k s=>(s,(k:Int))) (I:=fun _ _=>True) (f:=qmc b) (n:=64)
   (fin:=fun s=>(s,(64:Int),false)) (fun k s hk _=>⟨?_,trivial⟩) (fun s _=>?_) N 0 (Vector.replicate 64 0) trivial (Nat.zero_le _) (by omega))
  ·by_cases h:k < 16
   ·exact qzn hb h
   ·exact qzs h hk
  ·unfold jL
   rfl
 unfold Yk YF
 rw [run_bind,key,Option.bind_some,qL]
def tW (K w:Vector UInt32 64) (i:Nat) (x:Vector UInt32 8):UInt32:=wAt x 7 + (rot (wAt x 4) 6 ^^^ rot (wAt x 4) 11 ^^^ rot (wAt x 4) 25) + ((wAt x 4 &&& wAt x 5) ^^^ (~~~(wAt x 4) &&& wAt x 6)) + wAt K i + wAt w i
def uW (x:Vector UInt32 8):UInt32:=(rot (wAt x 0) 2 ^^^ rot (wAt x 0) 13 ^^^ rot (wAt x 0) 22) + ((wAt x 0 &&& wAt x 1) ^^^ (wAt x 0 &&& wAt x 2) ^^^ (wAt x 1 &&& wAt x 2))
def qqb (K w:Vector UInt32 64) (i:Nat) (x:Vector UInt32 8):Vector UInt32 8:=
 ((JY x 1 7).setIfInBounds 0 (tW K w i x + uW x)).setIfInBounds 4 (wAt ((JY x 1 7).setIfInBounds 0 (tW K w i x + uW x)) 4 + tW K w i x)
def qtd (x:Vector UInt32 8) (k:Nat) (s:Vector UInt32 8):Vector UInt32 8:=s.setIfInBounds k (wAt s k + wAt x k)
def qoC (s:Vector UInt32 8) (K:Vector UInt32 64) (b:List UInt8):Vector UInt32 8:=Zx (qtd (Zx (qqb K (qjm b)) 64 0 s)) 8 0 s
theorem qzm {N:Nat} {s:Vector UInt32 8} {K w:Vector UInt32 64} {x:Vector UInt32 8} {k:Nat} (hk:k < 64):(vU N s K w (x,(k:Int))).run some=some (.inl (qqb K w k x,((k + 1:Nat):Int))):=by
 have c4:qx ((k:Int) + 1):=by unfold qx; omega
 have d1:decide ((k:Int) < 64)=true:=decide_eq_true (by omega)
 have pk:(0:Int)≤(k:Int)∧(k:Int) < ((64:Nat):Int):=by omega
 have hj:∀ j < 8,(0:Int)≤((j:Nat):Int)∧((j:Nat):Int) < ((8:Nat):Int):=fun j hj=>by omega
 have j0:(0:Int)≤(0:Int)∧(0:Int) < ((8:Nat):Int):=hj 0 (by omega)
 have j1:(0:Int)≤(1:Int)∧(1:Int) < ((8:Nat):Int):=hj 1 (by omega)
 have j2:(0:Int)≤(2:Int)∧(2:Int) < ((8:Nat):Int):=hj 2 (by omega)
 have j4:(0:Int)≤(4:Int)∧(4:Int) < ((8:Nat):Int):=hj 4 (by omega)
 have j5:(0:Int)≤(5:Int)∧(5:Int) < ((8:Nat):Int):=hj 5 (by omega)
 have j6:(0:Int)≤(6:Int)∧(6:Int) < ((8:Nat):Int):=hj 6 (by omega)
 have j7:(0:Int)≤(7:Int)∧(7:Int) < ((8:Nat):Int):=hj 7 (by omega)
 have n0:0 < 8:=by omega
 have n1:1 < 8:=by omega
 have n2:2 < 8:=by omega
 have n4:4 < 8:=by omega
 have n5:5 < 8:=by omega
 have n6:6 < 8:=by omega
 have n7:7 < 8:=by omega
 have r:=fun x n h h0=>qbF x n h h0
 unfold vU qqb tW uW
 rw [qB,d1,cond_true]
 simp only [run_bind,qI,qL]
 rw [qa j0,qa n0,qa j4,qa n4,qa j7,qa n7]
 show (Option.bind (zy (c32 (wAt x 4)) ((6:Nat):Int)) _)=_
 rw [r _ 6 (by omega) (by omega),Option.bind_some]
 show (Option.bind (zy (c32 (wAt x 4)) ((11:Nat):Int)) _)=_
 rw [r _ 11 (by omega) (by omega),Option.bind_some]
 show (Option.bind (zy (c32 (wAt x 4)) ((25:Nat):Int)) _)=_
 rw [r _ 25 (by omega) (by omega),Option.bind_some,qa j5,qa n5,qa j6,qa n6,qa pk,Int.toNat_natCast,qa hk]
 rw [qa pk,qa hk]
 show (Option.bind (zy (c32 (wAt x 0)) ((2:Nat):Int)) _)=_
 rw [r _ 2 (by omega) (by omega),Option.bind_some]
 show (Option.bind (zy (c32 (wAt x 0)) ((13:Nat):Int)) _)=_
 rw [r _ 13 (by omega) (by omega),Option.bind_some]
 show (Option.bind (zy (c32 (wAt x 0)) ((22:Nat):Int)) _)=_
 rw [r _ 22 (by omega) (by omega),Option.bind_some]
 rw [qa j1,qa n1,qa j2,qa n2,qa j1,qa n1,qa j2,qa n2,qa j0]
 simp only [qt9,qAg,qAo,qtn,qa (qoK _),Int.toNat_natCast,UInt32.ofNat_toNat,qa n0,qa j4,qa n4,qa c4]
 rw [zU]
theorem qsf {N:Nat} {s:Vector UInt32 8} {K:Vector UInt32 64} {b:List UInt8} (hN:64 < N) (hb:b.length=64):Jd N s K b=some (qoC s K b):=by
 have k1:Xt N s K (qjm b) s 0=some (Zx (qqb K (qjm b)) 64 0 s,(64:Int),false):=by
  refine (ZA (σ:=Vector UInt32 8) (B:=vU N s K (qjm b)) (g:=some) (at_:=fun k s=>(s,(k:Int))) (I:=fun _ _=>True) (f:=qqb K (qjm b)) (n:=64)
   (fin:=fun s=>(s,(64:Int),false)) (fun k x hk _=>⟨qzm hk,trivial⟩) (fun x _=>?_) N 0 s trivial (Nat.zero_le _) (by omega))
  unfold vU
  rfl
 have k2:∀ x:Vector UInt32 8,VO N K x s 0=some (Zx (qtd x) 8 0 s,(8:Int),false):=fun x=>by
  refine (ZA (σ:=Vector UInt32 8) (B:=QM N K x) (g:=some) (at_:=fun k s=>(s,(k:Int))) (I:=fun _ _=>True) (f:=qtd x) (n:=8)
   (fin:=fun s=>(s,(8:Int),false)) (fun k y hk _=>⟨?_,trivial⟩) (fun y _=>?_) N 0 s trivial (Nat.zero_le _) (by omega))
  ·have c4:qx ((k:Int) + 1):=by unfold qx; omega
   have d1:decide ((k:Int) < 8)=true:=decide_eq_true (by omega)
   have pk:(0:Int)≤(k:Int)∧(k:Int) < ((8:Nat):Int):=by omega
   unfold QM qtd
   simp only [qB,run_bind,qI,qL,d1,cond_true]
   rw [qa pk,Int.toNat_natCast,qa hk,qa pk,qa hk,qa pk]
   simp only [qtn,qa (qoK _),Int.toNat_natCast,UInt32.ofNat_toNat,qa hk,qa c4]
   rw [zU]
  ·unfold QM
   rfl
 unfold Jd Wm
 rw [run_bind,qwW hN hb,Option.bind_some,run_bind,k1,Option.bind_some,run_bind,k2,Option.bind_some,qL]
 rfl
end Go.Rx
end
set_option maxRecDepth 100000
noncomputable section
namespace Go.Rx
open Go.Proofs
def qAv:Vector UInt32 8:=#v[1779033703,3144134277,1013904242,2773480762,1359893119,2600822924,528734635,1541459225]
def qAw:Vector UInt32 64:=#v[1116352408,1899447441,3049323471,3921009573,961987163,1508970993,2453635748,2870763221,
 3624381080,310598401,607225278,1426881987,1925078388,2162078206,2614888103,3248222580,
 3835390401,4022224774,264347078,604807628,770255983,1249150122,1555081692,1996064986,
 2554220882,2821834349,2952996808,3210313671,3336571891,3584528711,113926993,338241895,
 666307205,773529912,1294757372,1396182291,1695183700,1986661051,2177026350,2456956037,
 2730485921,2820302411,3259730800,3345764771,3516065817,3600352804,4094571909,275423344,
 430227734,506948616,659060556,883997877,958139571,1322822218,1537002063,1747873779,
 1955562222,2024104815,2227730452,2361852424,2428436474,2756734187,3204031479,3329325298]
def Vk (L:Nat):Nat:=(119 - L % 64) % 64
theorem qbh (n:Int):inB (IntKind.u8.wrap n):=by
 unfold inB
 have:IntKind.u8.wrap n=n % 256:=by simp [IntKind.wrap,IntKind.bits,IntKind.signed]
 rw [this]; omega
theorem qwr (a b:Nat):((a:Nat):Int).tmod ((b:Nat):Int)=((a % b:Nat):Int):=rfl
theorem qxe (a b:Nat):((a:Nat):Int).tdiv ((b:Nat):Int)=((a / b:Nat):Int):=rfl
theorem Kb {n k:Nat} (h:k≤2000000000):jI n n k 1:=⟨rfl,by unfold q0; omega⟩
theorem qzk {N:Nat} {o:Vector UInt8 32} {b:List UInt8} (hb:b.length≤1000000000) (hN:64 < N):qay N o b (b++[128])=some (b++[128]++List.replicate (Vk b.length) 0,false):=by
 have hz:Vk b.length < 64:=Nat.mod_lt _ (by omega)
 have h56:(b.length + 1 + Vk b.length) % 64=56:=by unfold Vk; omega
 have hlen:∀ k,(b++[128]++List.replicate k (0:UInt8)).length=b.length + 1 + k:=fun k=>by simp; omega
 have hne:∀ k,k < Vk b.length→(b.length + 1 + k) % 64≠56:=fun k hk=>by unfold Vk at *; omega
 have e0:qay N o b (b++[128])=zi (Vw N o b) some N (b++[128]++List.replicate 0 (0:UInt8)):=by rw [List.replicate_zero,List.append_nil]; rfl
 rw [e0]
 refine (ZA (σ:=Unit) (B:=Vw N o b) (g:=some) (at_:=fun k _=>b++[128]++List.replicate k (0:UInt8)) (I:=fun _ _=>True) (f:=fun _ s=>s) (n:=Vk b.length)
  (fin:=fun _=>(b++[128]++List.replicate (Vk b.length) 0,false)) (fun k s hk _=>⟨?_,trivial⟩) (fun s _=>?_) N 0 () trivial (Nat.zero_le _) (by omega))
 ·unfold Vw
  have c1:(64:Int)≠0:=by omega
  have e:decide ((((b++[128]++List.replicate k (0:UInt8)).length:Nat):Int).tmod 64=56)=false:=decide_eq_false (by
   rw [hlen]
   have:=hne k hk
   show ¬ (((b.length + 1 + k) % 64:Nat):Int)=56
   omega)
  have c2:jI (b++[128]++List.replicate k (0:UInt8)).length (b++[128]++List.replicate k (0:UInt8)).length ((b++[128]++List.replicate k (0:UInt8))++[UInt8.ofNat 0]).length 1:=Kb (by rw [List.length_append,hlen]; simp; omega)
  rw [qI,qa c1,qB,e,Bool.not_false,cond_true,qI,qa c2,qL]
  rw [List.replicate_succ',← List.append_assoc]
  rfl
 ·unfold Vw
  have c1:(64:Int)≠0:=by omega
  have e:decide ((((b++[128]++List.replicate (Vk b.length) (0:UInt8)).length:Nat):Int).tmod 64=56)=true:=decide_eq_true (by
   rw [hlen]
   show (((b.length + 1 + Vk b.length) % 64:Nat):Int)=56
   omega)
  rw [qI,qa c1,qB,e,Bool.not_true,cond_false,qL]
def qxl (L k:Nat):UInt8:=UInt8.ofNat (IntKind.u8.wrap (Wd (qz2 .u64 (IntKind.u64.wrap ((L:Nat):Int)) 8) (min ((8:Int) * ((7:Int) - (k:Int))).toNat 64))).toNat
def qdK (L k:Nat) (l:List UInt8):List UInt8:=l++[qxl L k]
theorem qpt {L:Nat}:∀ (m k:Nat) (l:List UInt8),(Zx (qdK L) m k l).length=l.length + m
 | 0,_,_=>rfl
 | m + 1,k,l=>by
  show (Zx (qdK L) m (k + 1) (qdK L k l)).length=_
  rw [qpt m]; unfold qdK; rw [List.length_append]; simp; omega
theorem qy4 {N:Nat} {o:Vector UInt8 32} {b l:List UInt8} (hl:l.length≤1500000000) (hN:64 < N):qdR N o b l 0=some (Zx (qdK b.length) 8 0 l,(8:Int),false):=by
 refine (ZA (σ:=List UInt8) (B:=Yz N o b) (g:=some) (at_:=fun k s=>(s,(k:Int))) (I:=fun k s=>s.length=l.length + k) (f:=qdK b.length) (n:=8)
  (fin:=fun s=>(s,(8:Int),false)) (fun k s hk hs=>⟨?_,?_⟩) (fun s _=>?_) N 0 l rfl (Nat.zero_le _) (by omega))
 ·have d1:decide ((k:Int) < 8)=true:=decide_eq_true (by omega)
  have c1:qx ((7:Int) - (k:Int)):=by unfold qx; omega
  have c2:qx ((8:Int) * ((7:Int) - (k:Int))):=by unfold qx; omega
  have c3:(0:Int)≤(8:Int) * ((7:Int) - (k:Int)):=by omega
  have c4:qx ((k:Int) + 1):=by unfold qx; omega
  have c5:jI s.length s.length (s++[qxl b.length k]).length 1:=Kb (by rw [List.length_append,hs]; simp; omega)
  unfold Yz
  rw [qB,d1,cond_true]
  simp only [qI,qL]
  rw [qa c1,qa c2,qa c3,qa (qbh _)]
  show chk (jI s.length s.length (s++[qxl b.length k]).length 1) _=_
  rw [qa c5,qa c4,zU]
  rfl
 ·unfold qdK; rw [List.length_append,hs]; simp; omega
 ·unfold Yz
  rfl
def chF (K:Vector UInt32 64):Nat→Vector UInt32 8→List UInt8→Vector UInt32 8
 | 0,s,_=>s
 | m + 1,s,l=>chF K m (qoC s K (l.take 64)) (l.drop 64)
theorem qyj {N : Nat} {o : List UInt8} {o2 : Vector UInt8 32} {o3 : Vector UInt32 8} {K : Vector UInt32 64} (hN : 64 < N) : ∀ (m n : Nat) (s : Vector UInt32 8) (l : List UInt8), l.length = 64 * m → m < n →
    zi (Jv N o o2 o3 K) some n (s,l)=some (.inr (chF K m s l,[],false))
 | 0,n + 1,s,l,hl,_=>by
  have:l=[]:=List.length_eq_zero_iff.1 (by omega)
  subst this
  exact QS (by unfold Jv; rfl) n
 | m + 1,n + 1,s,l,hl,hn=>by
  have d1:decide ((0:Int) < ((l.length:Nat):Int))=true:=decide_eq_true (by omega)
  have c1:(0:Int)≤0∧(0:Int)≤64∧(64:Int)≤((l.length:Nat):Int):=by omega
  have c2:(0:Int)≤64∧(64:Int)≤((l.length:Nat):Int):=by omega
  have ht:((l.take 64).drop 0).length=64:=by rw [List.drop_zero,List.length_take]; omega
  rw [Vy (v':=(qoC s K (l.take 64),l.drop 64)) (by
   unfold Jv
   rw [qB,d1,cond_true,qI,qa c1,run_bind,qsf hN ht,Option.bind_some,qI,qa c2,qL,List.drop_zero]) n]
  exact qyj hN m n _ _ (by rw [List.length_drop]; omega) (by omega)
 | _,0,_,_,_,hn=>by omega
theorem qwb {N m : Nat} {all : List UInt8} {o2 : Vector UInt8 32} {s : Vector UInt32 8} {K : Vector UInt32 64} (hN : 64 < N) (hm : m + 1 < N) (hl : all.length = 64 * (m + 1)) :
    XD N all o2 s K=some (.inr (chF K (m + 1) s all,[],false)):=by
 have d1:decide ((0:Int) < ((all.length:Nat):Int))=true:=decide_eq_true (by omega)
 have c1:(0:Int)≤0∧(0:Int)≤64∧(64:Int)≤((all.length:Nat):Int):=by omega
 have c2:(0:Int)≤64∧(64:Int)≤((all.length:Nat):Int):=by omega
 have ht:((all.take 64).drop 0).length=64:=by rw [List.drop_zero,List.length_take]; omega
 have hrun:(X7 N all o2 s K ()).run some=some (.inr (.inl (qoC s K (all.take 64),all.drop 64))):=by
  unfold X7
  rw [qB,d1,cond_true,qI,qa c1,qI,qa rfl,run_bind,qsf hN ht,Option.bind_some,qI,qa c2,qI,qa rfl,qL,List.drop_zero]
 obtain ⟨N',rfl⟩:∃ N',N=N' + 1:=⟨N - 1,by omega⟩
 have e:XD (N' + 1) all o2 s K=zi (X7 (N' + 1) all o2 s K) (K0 (N' + 1) (N' + 1) (all,o2,s,K)) (N' + 1) ():=rfl
 rw [e,QS hrun]
 exact qyj (o:=all) (o2:=o2) (o3:=s) hN m (N' + 1) _ _ (by rw [List.length_drop]; omega) (by omega)
def qzv (s:Vector UInt32 8) (k:Nat):UInt8:=UInt8.ofNat (IntKind.u8.wrap (c32 (wAt s (k / 4) >>> UInt32.ofNat (24 - 8 * (k % 4))))).toNat
def qwS (s:Vector UInt32 8) (k:Nat) (o:Vector UInt8 32):Vector UInt8 32:=o.setIfInBounds k (qzv s k)
def qz3 (s:Vector UInt32 8):Vector UInt8 32:=Zx (qwS s) 32 0 (Vector.replicate 32 0)
theorem qAa {N:Nat} {o:Vector UInt8 32} {s:Vector UInt32 8} (hN:64 < N):Kd N o s (Vector.replicate 32 0) 0=some (qz3 s,(32:Int),false):=by
 refine (ZA (σ:=Vector UInt8 32) (B:=X4 N o s) (g:=some) (at_:=fun k s=>(s,(k:Int))) (I:=fun _ _=>True) (f:=qwS s) (n:=32)
  (fin:=fun s=>(s,(32:Int),false)) (fun k x hk _=>⟨?_,trivial⟩) (fun x _=>?_) N 0 (Vector.replicate 32 0) trivial (Nat.zero_le _) (by omega))
 ·have d1:decide ((k:Int) < 32)=true:=decide_eq_true (by omega)
  have e1:(k:Int).tdiv 4=((k / 4:Nat):Int):=qxe k 4
  have e2:(k:Int).tmod 4=((k % 4:Nat):Int):=qwr k 4
  have h4:(4:Int)≠0:=by omega
  have c1:qx (((k / 4:Nat)):Int):=by unfold qx; omega
  have c2:(0:Int)≤((k / 4:Nat):Int)∧((k / 4:Nat):Int) < ((8:Nat):Int):=by omega
  have c3:k / 4 < 8:=by omega
  have c4:qx ((8:Int) * ((k % 4:Nat):Int)):=by unfold qx; omega
  have e3:(24:Int) - (8:Int) * ((k % 4:Nat):Int)=((24 - 8 * (k % 4):Nat):Int):=by omega
  have c5:qx ((24 - 8 * (k % 4):Nat):Int):=by unfold qx; omega
  have c6:(0:Int)≤((24 - 8 * (k % 4):Nat):Int):=by omega
  have c7:(0:Int)≤(k:Int)∧(k:Int) < ((32:Nat):Int):=by omega
  have c8:qx ((k:Int) + 1):=by unfold qx; omega
  unfold X4 qwS qzv
  rw [qB,d1,cond_true]
  simp only [qI,qL]
  rw [e1,e2,e3,qa h4,qa c1,qa c2,Int.toNat_natCast,qa c3,qa h4,qa c4,qa c5,qa c6,qa c7,qa (qbh _),Int.toNat_natCast,qa hk,qa c8,Int.toNat_natCast,Nat.min_eq_left (show 24 - 8 * (k % 4)≤32 by omega)]
  rw [zU]
  show some (Sum.inl (x.setIfInBounds k (UInt8.ofNat (IntKind.u8.wrap (Wd (c32 (wAt s (k / 4))) (24 - 8 * (k % 4)))).toNat),_))=_
  rw [qoG _ _ (by omega)]
 ·unfold X4
  rfl
def qje (b:List UInt8):List UInt8:=Zx (qdK b.length) 8 0 (b++[128]++List.replicate (Vk b.length) 0)
def YT (b:List UInt8):Vector UInt8 32:=qz3 (chF qAw ((qje b).length / 64) qAv (qje b))
theorem qyO (b:List UInt8):∃ m,(qje b).length=64 * (m + 1)∧m≤b.length:=by
 have h:(qje b).length=b.length + 1 + Vk b.length + 8:=by unfold qje; rw [qpt]; simp; omega
 rw [h]
 refine ⟨(b.length + 1 + Vk b.length + 8) / 64 - 1,?_,?_⟩
 ·unfold Vk; omega
 ·unfold Vk; omega
theorem qxn {l:List UInt8} (h:l.length≤1000000000):ZW l=some ():=by
 unfold ZW
 cases l with
 | nil=>kernel_rfl
 | cons x r=>
  show qcA (x::r)=_
  unfold qcA KN
  have h2:jI ([]:List UInt8).length 0 ([]++x::r).length 1:=⟨rfl,by rw [List.nil_append]; unfold q0; omega⟩
  rw [qI,qa (List.isEmpty_cons),qI,qa h2,qL]
theorem qg6 {Z:Type} {a:Nat} {o:Option Z}:vN [(a,a)] o=o:=(Jf rfl).trans (qnz o)
theorem qx6:qgf=some ():=by kernel_rfl
theorem qxL:qfS=some ():=by kernel_rfl
theorem qv0 {N:Nat} {b:List UInt8} (hb:b.length≤1000000000) (hN:b.length + 100 < N):Z9 N b=some (YT b):=by
 obtain ⟨m,hm,hmb⟩:=qyO b
 have c1:jI (([]:List UInt8)++b).length (([]:List UInt8)++b).length ((([]:List UInt8)++b)++[UInt8.ofNat 128]).length 1:=Kb (by rw [List.nil_append,List.length_append]; simp; omega)
 have hpad:=qzk (N:=N) (o:=Vector.replicate 32 0) hb (by omega)
 have hlen:=qy4 (N:=N) (o:=Vector.replicate 32 0) (b:=b) (l:=b++[128]++List.replicate (Vk b.length) 0) (by have:Vk b.length < 64:=Nat.mod_lt _ (by omega); simp; omega) (by omega)
 have hch:∀ (s:Vector UInt32 8) (K:Vector UInt32 64),XD N (Zx (qdK b.length) 8 0 (b++[128]++List.replicate (Vk b.length) 0)) (Vector.replicate 32 0) s K=some (.inr (chF K (m + 1) s (qje b),[],false)):=fun s K=>qwb (by omega) (by omega) hm
 have hd:(qje b).length / 64=m + 1:=by rw [hm]; omega
 have e1:(([]:List UInt8)++b)++[UInt8.ofNat 128]=b++[128]:=rfl
 unfold Z9 qhb YT
 rw [run_bind,qxn hb,Option.bind_some,qI,qa c1,run_bind,e1,qg6,hpad,Option.bind_some]
 dsimp only
 rw [run_bind,qg6,hlen,Option.bind_some]
 dsimp only
 rw [run_bind,qx6,Option.bind_some,run_bind,qxL,Option.bind_some,run_bind,qg6,hch,Option.bind_some,qpC,run_bind,qAa (by omega),Option.bind_some,qL,hd]
 rfl
end Go.Rx
end
set_option maxRecDepth 100000
noncomputable section
namespace Go.Rx
open Go.Proofs
section n
variable {N:Nat} [Vh N]
theorem qv9 {n:Int} (h0:0≤n) (h1:n < 18446744073709551616):∃ r:Nat,Kk N n=some (r:Int)∧1≤r∧r≤10:=by
 have key:∃ y,Y1 N (Wd n 7) 1=some y∧1≤y.2.1∧y.2.1≤10:=by
  refine Wj (B:=Jm N) (g:=some) (I:=fun v=>0≤v.1∧1≤v.2∧v.2≤10∧v.1 < (128:Int) ^ (10 - v.2.toNat)) (fun v=>11 - v.2.toNat) ?_ N _ ⟨?_,by omega,by omega,?_⟩ (by have:=big N; simp; omega)
  ·rintro ⟨a,k⟩ ⟨g0,g1,g2,g3⟩
   simp only at g0 g1 g2 g3
   by_cases h:0 < a
   ·left
    have hk:k≤9:=by
     by_cases e:k=10
     ·subst e
      have:(128:Int) ^ (10 - (10:Int).toNat)=1:=rfl
      omega
     ·omega
    have c1:qx (k + 1):=by unfold qx; omega
    have c2:(0:Int)≤7:=by omega
    refine ⟨(Wd a 7,k + 1),?_,⟨?_,?_,?_,?_⟩,?_⟩
    ·unfold Jm
     rw [qB,decide_eq_true h,cond_true,qI,qa c1,qI,qa c2,qL]
    ·show 0≤a.fdiv (2 ^ 7)
     rw [Int.fdiv_eq_ediv_of_nonneg _ (by omega)]; omega
    ·simp only; omega
    ·simp only; omega
    ·show a.fdiv (2 ^ 7) < (128:Int) ^ (10 - (k + 1).toNat)
     rw [Int.fdiv_eq_ediv_of_nonneg _ (by omega)]
     have e:10 - k.toNat=(10 - (k + 1).toNat) + 1:=by omega
     rw [e,Int.pow_succ] at g3
     have:(2:Int) ^ 7=128:=rfl
     omega
    ·simp only; omega
   ·right
    refine ⟨(a,k,false),_,?_,rfl,g1,g2⟩
    unfold Jm
    rw [qB,decide_eq_false h,cond_false,qL]
  ·show 0≤n.fdiv (2 ^ 7)
   rw [Int.fdiv_eq_ediv_of_nonneg _ (by omega)]; omega
  ·show n.fdiv (2 ^ 7) < (128:Int) ^ (10 - (1:Int).toNat)
   rw [Int.fdiv_eq_ediv_of_nonneg _ (by omega)]
   have:(128:Int) ^ (10 - (1:Int).toNat)=9223372036854775808:=rfl
   rw [this]; omega
 obtain ⟨y,e,h2,h3⟩:=key
 refine ⟨y.2.1.toNat,?_,by omega,by omega⟩
 unfold Kk KT
 rw [qI,qa (by omega),run_bind,e,Option.bind_some,qL,Int.toNat_of_nonneg (by omega)]
theorem qvK (a b:Int):inB (uOr .u8 a b):=qbh _
theorem qvz (a b:Int):inB (qhi .u8 a b):=qbh _
theorem qzB {n:Int} {r:Nat} (hr:r≤10):∀ l:List UInt8,l.length=r→∃ y,Ka N n (r:Int) r (r:Int) l 0=some y∧y.1.length=r:=fun l hl=>by
 refine Wj (B:=XX N n (r:Int) r (r:Int)) (g:=some) (I:=fun v=>v.1.length=r∧∃ k:Nat,k≤r∧v.2=(k:Int)) (fun v=>r - v.2.toNat) ?_ N _ ⟨hl,0,Nat.zero_le _,rfl⟩ (by have:=big N; simp; omega)
 rintro ⟨l,v⟩ ⟨hl,k,hk,hv⟩
 simp only at hl hv
 subst hv
 by_cases h:k < r
 ·left
  have c1:qx ((r:Int) - 1):=by unfold qx; omega
  have c2:qx ((r:Int) - 1 - (k:Int)):=by unfold qx; omega
  have c3:qx ((7:Int) * (k:Int)):=by unfold qx; omega
  have c4:(0:Int)≤(7:Int) * (k:Int):=by omega
  have c5:(0:Int)≤(r:Int) - 1 - (k:Int)∧(r:Int) - 1 - (k:Int) < ((r:Nat):Int):=by omega
  have c6:qbQ l.length r ((r:Int) - 1 - (k:Int)).toNat:=⟨hl,by omega⟩
  have c7:qx ((k:Int) + 1):=by unfold qx; omega
  refine ⟨(l.set ((r:Int) - 1 - (k:Int)).toNat (UInt8.ofNat (uOr .u8 (IntKind.u8.wrap (Wd n (min ((7:Int) * (k:Int)).toNat 64))) 128).toNat),((k + 1:Nat):Int)),?_,⟨?_,k + 1,h,rfl⟩,?_⟩
  ·unfold XX
   rw [qB,dec_lt h,cond_true,qI,qa c1,qI,qa c2,qI,qa c3,qI,qa c4]
   show chk _ (chk _ (chk _ (chk _ _)))=_
   rw [qa c5,qa c6,qa (qvK _ _),qa c7,zU]
   rfl
  ·simp only [List.length_set]; exact hl
  ·simp only [Int.toNat_natCast]; omega
 ·right
  obtain rfl:k=r:=by omega
  refine ⟨(l,((k:Nat):Int),false),_,?_,rfl,hl⟩
  unfold XX
  rw [qB,Zn (Nat.lt_irrefl k),cond_false,qL]
theorem qyE {α:Type} {l:List α} {n k:Nat} (hn:l.length=n) (hk:k < n):∃ x,K1 l n k=some x:=by
 unfold K1; rw [if_pos hn,List.getElem?_eq_getElem (by omega)]; exact ⟨_,rfl⟩
theorem qdg {n:Int} (h0:0≤n) (h1:n < 18446744073709551616):∃ l:List UInt8,v9 N n=some (l,l.length)∧l.length≤10:=by
 obtain ⟨r,e1,h2,h3⟩:=qv9 (N:=N) h0 h1
 obtain ⟨y,e2,hy⟩:=qzB (N:=N) (n:=n) h3 (List.replicate r 0) (by simp)
 have hrl:(List.replicate ((r:Nat):Int).toNat (0:UInt8)).length=r:=by simp
 have c1:qqC ((r:Nat):Int) ((r:Nat):Int) 1:=⟨rfl,by omega,by unfold q0; omega⟩
 have c2:qx (((r:Nat):Int) - 1):=by unfold qx; omega
 have c3:(0:Int)≤((r:Nat):Int) - 1∧((r:Nat):Int) - 1 < ((r:Nat):Int):=by omega
 obtain ⟨x,hx⟩:=qyE (l:=y.1) (n:=r) (k:=(((r:Nat):Int) - 1).toNat) hy (by omega)
 have c4:qbQ y.1.length r (((r:Nat):Int) - 1).toNat:=⟨hy,by omega⟩
 unfold v9 qdG
 rw [run_bind,e1,Option.bind_some,qI,qa c1,run_bind]
 rw [show Ka N n ((r:Nat):Int) (List.replicate ((r:Nat):Int).toNat (0:UInt8)).length ((r:Nat):Int) (List.replicate ((r:Nat):Int).toNat (0:UInt8)) 0=some y by rw [hrl]; exact e2,Option.bind_some,qI,qa c2,hrl,qI,qa c3,run_bind,hx,Option.bind_some]
 have hs:(y.1.set (((r:Nat):Int) - 1).toNat (UInt8.ofNat (qhi .u8 ((x.toNat:Nat):Int) 128).toNat)).length=r:=by rw [List.length_set]; exact hy
 refine ⟨y.1.set (((r:Nat):Int) - 1).toNat (UInt8.ofNat (qhi .u8 ((x.toNat:Nat):Int) 128).toNat),?_,by rw [hs]; exact h3⟩
 show chk _ (chk _ (chk _ _))=_
 rw [qa c3,qa c4,qa (qvz _ _),hs]
 rfl
theorem wrap64_in (n:Int):0≤IntKind.u64.wrap n∧IntKind.u64.wrap n < 18446744073709551616:=by
 have:IntKind.u64.wrap n=n % 18446744073709551616:=by simp [IntKind.wrap,IntKind.bits,IntKind.signed]
 rw [this]; omega
theorem qyJ {l:List UInt8} (h:l.length≤1000000):∃ r:List UInt8,Kp N l=some r∧r.length≤l.length + 10:=by
 obtain ⟨p,e,hp⟩:=qdg (N:=N) (wrap64_in ((l.length:Nat):Int)).1 (wrap64_in ((l.length:Nat):Int)).2
 refine ⟨p++l,?_,by rw [List.length_append]; omega⟩
 unfold Kp qcY
 show Option.bind (v9 N (IntKind.u64.wrap ((l.length:Nat):Int))) _=_
 have hpl:(p++l).length≤2000000000:=by rw [List.length_append]; omega
 rw [e,Option.bind_some,qI,qa (Kb hpl),qI,qa rfl,qL]
theorem qw2 (s:qd):∃ r:List UInt8×Bool,qbK N s=some r∧r.1.length≤10:=by
 unfold qbK qct
 rw [run_bind,qeM,Option.bind_some]
 cases stB s with
 | false=>exact ⟨([],false),rfl,Nat.zero_le _⟩
 | true=>
  obtain ⟨p,e,hp⟩:=qdg (N:=N) (n:=uOr .u64 (Yx .u64 (IntKind.u64.wrap (qd.N s)) 3) (IntKind.u64.wrap (qd.Rep s))) (wrap64_in _).1 (wrap64_in _).2
  refine ⟨(p,true),?_,hp⟩
  rw [qB,Bool.not_true,cond_false,qI,qa (by omega)]
  show Option.bind (v9 N (uOr .u64 (Yx .u64 (IntKind.u64.wrap (qd.N s)) 3) (IntKind.u64.wrap (qd.Rep s)))) _=_
  rw [e,Option.bind_some,qI,qa rfl,qL]
theorem qv3 (s:qd):XF N s=some (.inl ())∨∃ p:List UInt8,XF N s=some (.inr (p,p.length))∧p.length≤10:=by
 unfold XF KY
 rw [run_bind,qeM,Option.bind_some]
 cases stB s with
 | false=>exact .inl rfl
 | true=>
  right
  obtain ⟨p,e,hp⟩:=qdg (N:=N) (n:=uOr .u64 (Yx .u64 (IntKind.u64.wrap (qd.N s)) 3) (IntKind.u64.wrap (qd.Rep s))) (wrap64_in _).1 (wrap64_in _).2
  refine ⟨p,?_,hp⟩
  rw [qB,Bool.not_true,cond_false,qI,qa (by omega)]
  show Option.bind (v9 N (uOr .u64 (Yx .u64 (IntKind.u64.wrap (qd.N s)) 3) (IntKind.u64.wrap (qd.Rep s)))) _=_
  rw [e,Option.bind_some,qL]
def X2 (c:qq):Bool:=!decide (c.S=zSt)&&(stB c.S&&decide (c.V.length≤200))
theorem qr4 (c:qq):VE c=some (X2 c):=by
 unfold VE qdF X2
 have e:eqE qJ c.S (qd.mk 0 0)=decide (c.S=zSt):=qjU _ _
 have e2:decide (((c.V.length:Nat):Int)≤200)=decide (c.V.length≤200):=decide_eq_decide.2 (by omega)
 rw [qB,e,run_bind,qeM,Option.bind_some,qB,qL,e2,qL]
 cases decide (c.S=zSt)<;>cases stB c.S<;>rfl
theorem qyU {c:qq} (h:X2 c=true):∃ r:List UInt8×Bool,qeK N c=some r∧r.1.length≤220:=by
 have hV:c.V.length≤200:=by
  unfold X2 at h
  simp only [Bool.and_eq_true,decide_eq_true_iff] at h
  exact h.2.2
 obtain ⟨t,et,ht⟩:=qyJ (N:=N) (l:=c.V) (by omega)
 unfold qeK qey
 rw [run_bind,qr4,h,Option.bind_some,qB,Bool.not_true,cond_false,run_bind]
 rcases qv3 (N:=N) c.S with e | ⟨p,e,hp⟩
 ·refine ⟨(t,true),?_,by simp only; omega⟩
  have c1:jI ([]:List UInt8).length 0 ([]++t).length 1:=⟨rfl,by rw [List.nil_append]; unfold q0; omega⟩
  rw [e,Option.bind_some,qxc,run_bind,et,Option.bind_some,qI,qa c1,qI,qa rfl,qL]
  rfl
 ·refine ⟨(p++t,true),?_,by simp only [List.length_append]; omega⟩
  have hpl:(p++t).length≤2000000000:=by rw [List.length_append]; omega
  rw [e,Option.bind_some,qpC,run_bind,et,Option.bind_some,qI,qa (Kb hpl),qI,qa rfl,qL]
end n
end Go.Rx
end
set_option maxRecDepth 100000
noncomputable section
namespace Go.Rx
open Go.Proofs
abbrev zF:qk:=qk.mk 0 (qq.mk zSt [])
abbrev zR:qf:=qf.mk (Vector.replicate 16 0) zSt []
def qgC (l:List qk) (dead:qd) (k:Nat):Bool:=
 (if k=0 then decide (0≤(l.getD k zF).No) else decide ((l.getD (k - 1) zF).No < (l.getD k zF).No))&&(!decide (8≤(l.getD k zF).No)&&(X2 (l.getD k zF).C&&slB dead (l.getD k zF).C.S))
def KQ (r:qf):Bool:=stB r.jh&&(!(decide (r.F.length=0)&&decide (r.jh=zSt))&&Vl (qgC r.F r.jh) r.F.length)
def qqH (l:List qf) (k:Nat):Bool:=KQ (l.getD k zR)&&(decide (k=0)||lbB (l.getD (k - 1) zR).ID (l.getD k zR).ID)
def XY (b:qo):Bool:=Vl (qqH b.R) b.R.length&&decide (b.R.length≤10)
section n
variable {N:Nat} [Vh N]
theorem qwq {f : qk} {dead : qd} {k : Nat} (h64 : qx ((k : Int) + 1)) :
    (Tree.cond (decide (((8:Int))≤(qk.No f))) (.ret (.inr (.inl ())))
     (Tree.bind (VE (qk.C f)) fun r2=>Tree.cond (!r2) (.ret (.inr (.inl ())))
      (Tree.bind (vB N dead (qq.S (qk.C f))) fun r3=>Tree.cond (!r3) (.ret (.inr (.inl ())))
       (Tree.chk (qx ((k:Int) + 1)) (.ret (.inl ((k:Int) + 1):Int⊕(Unit⊕(Int×Bool)))))))).run some =
    some (if (!decide (8≤f.No)&&(X2 f.C&&slB dead f.C.S))=true then .inl ((k:Int) + 1) else .inr (.inl ())):=by
 rw [qB,qL,run_bind,qr4,Option.bind_some,qB,qL,run_bind,Ky,Option.bind_some,qB,qL,qI,qa h64,qL]
 cases decide (8≤f.No)<;>cases X2 f.C<;>cases slB dead f.C.S<;>rfl
theorem qzf {r : qf} (hN : r.F.length < N) (h62 : r.F.length ≤ 4611686018427387904) :
    qam N r r.F ((r.F.length:Nat):Int) 0=some (if Vl (qgC r.F r.jh) r.F.length then .inr (((r.F.length:Nat):Int),false) else .inl ()):=by
 refine qcc (B:=Yw N r r.F ((r.F.length:Nat):Int)) (g:=some) (q:=qgC r.F r.jh) (fun k hk=>?_) ?_ hN
 ·have h64:qx ((k:Int) + 1):=by unfold qx; omega
  have ht:=qwq (N:=N) (f:=r.F.getD k zF) (dead:=r.jh) h64
  unfold Yw
  rw [qB,dec_lt hk,cond_true,run_bind,vV (d:=zF) hk,Option.bind_some,← zU]
  unfold qgC
  by_cases h0:k=0
  ·have d0:decide ((k:Int)=0)=true:=decide_eq_true (by omega)
   rw [qB,d0,cond_true,if_pos h0,qB]
   by_cases h1:(0:Int)≤(r.F.getD k zF).No
   ·rw [decide_eq_true h1,cond_true,ht,Bool.true_and]
   ·have d1:decide ((0:Int) < (k:Int))=false:=decide_eq_false (by omega)
    rw [decide_eq_false h1,cond_false,qB,d1,cond_false,qL]
    rfl
  ·have d0:decide ((k:Int)=0)=false:=decide_eq_false (by omega)
   have d1:decide ((0:Int) < (k:Int))=true:=decide_eq_true (by omega)
   have hp:qx ((k:Int) - 1):=by unfold qx; omega
   have hk1:k - 1 < r.F.length:=by omega
   rw [qB,d0,cond_false,if_neg h0,qB,d1,cond_true,qI,qa hp,run_bind,qqq (Nat.pos_of_ne_zero h0),vV (d:=zF) hk1,Option.bind_some,qB]
   by_cases h2:(r.F.getD (k - 1) zF).No < (r.F.getD k zF).No
   ·rw [decide_eq_true h2,Bool.not_true,cond_false,ht,Bool.true_and]
   ·rw [decide_eq_false h2,Bool.not_false,cond_true,qL]
    rfl
 ·unfold Yw
  rw [qB,Zn (Nat.lt_irrefl _),cond_false,qL]
theorem qyT {r:qf} (hN:r.F.length < N) (h62:r.F.length≤4611686018427387904):qhB N r=some (KQ r):=by
 have e0:eqE qJ r.jh (qd.mk 0 0)=decide (r.jh=zSt):=qjU _ _
 have d0:decide (((r.F.length:Nat):Int)=0)=decide (r.F.length=0):=decide_eq_decide.2 (by omega)
 unfold qhB qhd KQ
 rw [run_bind,qeM,Option.bind_some,qB,qL,qB,d0,qB,e0,qL,run_bind,qzf hN h62,Option.bind_some]
 cases stB r.jh<;>cases decide (r.F.length=0)<;>cases decide (r.jh=zSt)<;>cases Vl (qgC r.F r.jh) r.F.length<;>rfl
theorem qy_ {b : qo} (hN : b.R.length < N) (h62 : b.R.length ≤ 4611686018427387904) (hF : ∀ k, k < b.R.length → (b.R.getD k zR).F.length < N ∧ (b.R.getD k zR).F.length ≤ 4611686018427387904) :
    qcO N b b.R ((b.R.length:Nat):Int) 0=some (if Vl (qqH b.R) b.R.length then .inr (((b.R.length:Nat):Int),false) else .inl ()):=by
 refine qcc (B:=XV N b b.R ((b.R.length:Nat):Int)) (g:=some) (q:=qqH b.R) (fun k hk=>?_) ?_ hN
 ·have h64:qx ((k:Int) + 1):=by unfold qx; omega
  unfold XV
  rw [qB,dec_lt hk,cond_true,run_bind,vV (d:=zR) hk,Option.bind_some,run_bind,qyT (hF k hk).1 (hF k hk).2,Option.bind_some,qB,qL,qB,qyH,qI,qI,qa h64,qL,zU]
  unfold qqH
  cases KQ (b.R.getD k zR) with
  | false=>rfl
  | true=>
   by_cases h0:k=0
   ·rw [decide_eq_true h0]; rfl
   ·have hp:qx ((k:Int) - 1):=by unfold qx; omega
    have hk1:k - 1 < b.R.length:=by omega
    rw [decide_eq_false h0,Bool.not_true,cond_false,Bool.not_false,cond_true,qa hp,run_bind,qqq (Nat.pos_of_ne_zero h0),vV (d:=zR) hk1,Option.bind_some,run_bind,qwA,Option.bind_some,qB,qL,qI,qa (show qx ((k + 1:Nat):Int) by rw [← zU]; exact h64),qL]
    cases lbB (b.R.getD (k - 1) zR).ID (b.R.getD k zR).ID<;>rfl
 ·unfold XV
  rw [qB,Zn (Nat.lt_irrefl _),cond_false,qL]
theorem qyB {b:qo} (hN:b.R.length < N) (h62:b.R.length≤4611686018427387904) (hF:∀ k,k < b.R.length→(b.R.getD k zR).F.length < N∧(b.R.getD k zR).F.length≤4611686018427387904):Y2 N b=some (XY b):=by
 have e2:decide (((b.R.length:Nat):Int)≤10)=decide (b.R.length≤10):=decide_eq_decide.2 (by omega)
 unfold Y2 qdX XY
 rw [run_bind,qy_ hN h62 hF,Option.bind_some]
 cases Vl (qqH b.R) b.R.length with
 | false=>rfl
 | true=>show (Tree.run some (Tree.ret (decide (((b.R.length:Nat):Int)≤10))))=_; rw [qL,e2]; rfl
end n
theorem YL {r:qf}:KQ r=true↔stB r.jh=true∧(r.F.length≠0∨r.jh≠zSt)∧∀ k,k < r.F.length→qgC r.F r.jh k=true:=by
 unfold KQ
 rw [Bool.and_eq_true,Bool.and_eq_true,YQ,Bool.not_eq_true',Bool.and_eq_false_iff,decide_eq_false_iff_not,decide_eq_false_iff_not]
theorem YI {l:List qk} {dead:qd} {k:Nat}:qgC l dead k=true↔(if k=0 then 0≤(l.getD k zF).No else (l.getD (k - 1) zF).No < (l.getD k zF).No)∧(l.getD k zF).No < 8∧X2 (l.getD k zF).C=true∧slB dead (l.getD k zF).C.S=true:=by
 unfold qgC
 rw [Bool.and_eq_true,Bool.and_eq_true,Bool.and_eq_true,Bool.not_eq_true',decide_eq_false_iff_not,Int.not_le]
 refine and_congr ?_ Iff.rfl
 split<;>exact decide_eq_true_iff
theorem quJ {r:qf} (h:KQ r=true):∀ k,k < r.F.length→(k:Int)≤(r.F.getD k zF).No
 | 0,hk=>by
  have:=(YI.1 ((YL.1 h).2.2 0 hk)).1
  rw [if_pos rfl] at this; exact this
 | k + 1,hk=>by
  have:=(YI.1 ((YL.1 h).2.2 (k + 1) hk)).1
  rw [if_neg (by omega)] at this
  have ih:=quJ h k (by omega)
  rw [show k + 1 - 1=k by omega] at this
  omega
theorem qmk {r:qf} (h:KQ r=true):r.F.length≤8:=by
 by_cases e:r.F.length=0
 ·omega
 ·have h1:=quJ h (r.F.length - 1) (by omega)
  have h2:=(YI.1 ((YL.1 h).2.2 (r.F.length - 1) (by omega))).2.1
  omega
theorem qgJ {b:qo}:XY b=true↔(∀ k,k < b.R.length→KQ (b.R.getD k zR)=true∧(k=0∨lbB (b.R.getD (k - 1) zR).ID (b.R.getD k zR).ID=true))∧b.R.length≤10:=by
 unfold XY
 rw [Bool.and_eq_true,decide_eq_true_iff,YQ]
 refine and_congr (forall_congr' fun k=>imp_congr_right fun _=>?_) Iff.rfl
 show (KQ (b.R.getD k zR)&&(decide (k=0)||lbB (b.R.getD (k - 1) zR).ID (b.R.getD k zR).ID))=true↔_
 rw [Bool.and_eq_true,Bool.or_eq_true,decide_eq_true_iff]
theorem qqd {c:qq} (h:X2 c=true):c.V.length≤200:=by
 unfold X2 at h
 simp only [Bool.and_eq_true,decide_eq_true_iff] at h
 exact h.2.2
end Go.Rx
end
set_option maxRecDepth 100000
noncomputable section
namespace Go.Rx
open Go.Proofs
section n
variable {N:Nat} [Vh N]
theorem qwH {l : List qk} {R : List qf} {s23 s24 : Int} (h8 : l.length ≤ 8) (hc : ∀ k, k < l.length → X2 (l.getD k zF).C = true) {o : List UInt8} (ho : o.length ≤ 1000000) :
    ∃ p:List UInt8,KP N R s23 s24 l ((l.length:Nat):Int) o o.length 0=some (p,p.length,((l.length:Nat):Int),false)∧p.length≤o.length + 221 * l.length:=by
 have key:∃ y,zi (Vu N R s23 s24 l ((l.length:Nat):Int)) some N (o,o.length,((0:Nat):Int))=some y∧∃ p:List UInt8,y=(p,p.length,((l.length:Nat):Int),false)∧p.length≤o.length + 221 * l.length:=by
  refine Wj (I:=fun v=>∃ (k:Nat) (p:List UInt8),k≤l.length∧v=(p,p.length,(k:Int))∧p.length≤o.length + 221 * k) (fun v=>l.length - v.2.2.toNat) ?_ N _ ⟨0,o,Nat.zero_le _,rfl,by omega⟩ (by have:=big N; simp; omega)
  rintro v ⟨k,p,hk,rfl,hp⟩
  by_cases h:k < l.length
  ·left
   obtain ⟨r,er,hr⟩:=qyU (N:=N) (hc k h)
   have h64:qx ((k:Int) + 1):=by unfold qx; omega
   have l1:(p++[UInt8.ofNat (IntKind.u8.wrap (qk.No (l.getD k zF))).toNat]).length=p.length + 1:=by rw [List.length_append]; rfl
   have l2:((p++[UInt8.ofNat (IntKind.u8.wrap (qk.No (l.getD k zF))).toNat])++r.1).length=p.length + 1 + r.1.length:=by rw [List.length_append,l1]
   refine ⟨((p++[UInt8.ofNat (IntKind.u8.wrap (qk.No (l.getD k zF))).toNat])++r.1,((p++[UInt8.ofNat (IntKind.u8.wrap (qk.No (l.getD k zF))).toNat])++r.1).length,((k + 1:Nat):Int)),?_,⟨k + 1,_,h,rfl,by rw [l2]; omega⟩,by simp only [Int.toNat_natCast]; omega⟩
   unfold Vu
   rw [qB,dec_lt h,cond_true,run_bind,vV (d:=zF) h,Option.bind_some,run_bind,er,Option.bind_some,qI,qa (qbh _),qI,qa (Kb (by rw [l1]; omega)),qI,qa (Kb (by rw [l2]; omega)),qI,qa h64,qL,zU]
  ·right
   obtain rfl:k=l.length:=by omega
   refine ⟨(p,p.length,((l.length:Nat):Int),false),_,?_,rfl,p,rfl,hp⟩
   unfold Vu
   rw [qB,Zn (Nat.lt_irrefl _),cond_false,qL]
 obtain ⟨y,e,p,rfl,hp⟩:=key
 exact ⟨p,e,hp⟩
theorem qyx {R : List qf} (h10 : R.length ≤ 10) (hr : ∀ k, k < R.length → KQ (R.getD k zR) = true) {o : List UInt8} (ho : o.length ≤ 10) :
    ∃ p:List UInt8,qbo N R ((R.length:Nat):Int) o o.length 0=some (p,p.length,((R.length:Nat):Int),false)∧p.length≤30000:=by
 have key:∃ y,zi (Xi N R ((R.length:Nat):Int)) some N (o,o.length,((0:Nat):Int))=some y∧∃ p:List UInt8,y=(p,p.length,((R.length:Nat):Int),false)∧p.length≤30000:=by
  refine Wj (I:=fun v=>∃ (k:Nat) (p:List UInt8),k≤R.length∧v=(p,p.length,(k:Int))∧p.length≤10 + 2000 * k) (fun v=>R.length - v.2.2.toNat) ?_ N _ ⟨0,o,Nat.zero_le _,rfl,by omega⟩ (by have:=big N; simp; omega)
  rintro v ⟨k,p,hk,rfl,hp⟩
  by_cases h:k < R.length
  ·left
   have hrec:=hr k h
   have h8:=qmk hrec
   obtain ⟨s,es,hs⟩:=qw2 (N:=N) (R.getD k zR).jh
   obtain ⟨w,ew,hw⟩:=qdg (N:=N) (wrap64_in (((R.getD k zR).F.length:Nat):Int)).1 (wrap64_in (((R.getD k zR).F.length:Nat):Int)).2
   have h64:qx ((k:Int) + 1):=by unfold qx; omega
   have l1:(p++(R.getD k zR).ID.toList).length=p.length + 16:=by rw [List.length_append]; simp
   have l2:(p++(R.getD k zR).ID.toList++s.1).length=p.length + 16 + s.1.length:=by rw [List.length_append,l1]
   have l3:(p++(R.getD k zR).ID.toList++s.1++w).length=p.length + 16 + s.1.length + w.length:=by rw [List.length_append,l2]
   obtain ⟨q,eq,hq⟩:=qwH (N:=N) (l:=(R.getD k zR).F) (R:=R) (s23:=((R.length:Nat):Int)) (s24:=(k:Int)) h8 (fun j hj=>(YI.1 ((YL.1 hrec).2.2 j hj)).2.2.1) (o:=p++(R.getD k zR).ID.toList++s.1++w) (by rw [l3]; omega)
   refine ⟨(q,q.length,((k + 1:Nat):Int)),?_,⟨k + 1,q,h,rfl,by rw [l3] at hq; omega⟩,by simp only [Int.toNat_natCast]; omega⟩
   unfold Xi
   rw [qB,dec_lt h,cond_true,run_bind,vV (d:=zR) h,Option.bind_some,run_bind,es,Option.bind_some,qI,qa (Kb (by rw [l1]; omega)),qI,qa (Kb (by rw [l2]; omega))]
   show Option.bind (v9 N (IntKind.u64.wrap (((R.getD k zR).F.length:Nat):Int))) _=_
   rw [ew,Option.bind_some,qI,qa rfl,qI,qa (Kb (by rw [l3]; omega)),run_bind,eq,Option.bind_some,qI,qa h64,qL,zU]
  ·right
   obtain rfl:k=R.length:=by omega
   refine ⟨(p,p.length,((R.length:Nat):Int),false),_,?_,rfl,p,rfl,by omega⟩
   unfold Xi
   rw [qB,Zn (Nat.lt_irrefl _),cond_false,qL]
 obtain ⟨y,e,p,rfl,hp⟩:=key
 exact ⟨p,e,hp⟩
def qa2 (N:Nat) (b:qo):Prop:=b.R.length < N∧b.R.length≤4611686018427387904∧∀ k,k < b.R.length→(b.R.getD k zR).F.length < N∧(b.R.getD k zR).F.length≤4611686018427387904
theorem qtr {b:qo} (h:qa2 N b):Y2 N b=some (XY b):=qyB h.1 h.2.1 h.2.2
theorem qzd {b:qo} (hf:qa2 N b) (h:XY b=true):∃ p:List UInt8,qbT N b=some (p,true)∧p.length≤30000:=by
 have hb:=qgJ.1 h
 obtain ⟨w,ew,hw⟩:=qdg (N:=N) (wrap64_in ((b.R.length:Nat):Int)).1 (wrap64_in ((b.R.length:Nat):Int)).2
 obtain ⟨p,ep,hp⟩:=qyx (N:=N) hb.2 (fun k hk=>(hb.1 k hk).1) hw
 refine ⟨p,?_,hp⟩
 unfold qbT qcM
 rw [run_bind,qtr hf,h,Option.bind_some,qB,Bool.not_true,cond_false]
 show Option.bind (v9 N (IntKind.u64.wrap ((b.R.length:Nat):Int))) _=_
 rw [ew,Option.bind_some,run_bind,ep,Option.bind_some,qI,qa rfl,qL]
theorem qzQ {b:qo} (hf:qa2 N b) (h:XY b=true):∃ D:Vector UInt8 32,V8 N b=some D:=by
 obtain ⟨p,e,hp⟩:=qzd hf h
 refine ⟨YT p,?_⟩
 unfold V8 YW
 have hs:Z9 N p=some (YT p):=qv0 (by omega) (by have:=big N; omega)
 rw [run_bind,e,Option.bind_some,run_bind]
 show Option.bind (Z9 N p) _=_
 rw [hs,Option.bind_some,qL]
theorem qjB {l:List UInt8} (h:l.length≤50000):qdq N l=some (YT l):=by
 unfold qdq qjh
 rw [qI,qa (show qhE l.length by unfold qhE; omega),run_bind,qv0 (by omega) (by have:=big N; omega),Option.bind_some,qL]
def qkf (l:List UInt8) (k:Nat) (s:Int×Int):Int×Int:=(ZG .u16 s.1 (IntKind.u16.wrap (((l.getD k 0).toNat:Nat):Int)),ZG .u16 s.2 (ZG .u16 s.1 (IntKind.u16.wrap (((l.getD k 0).toNat:Nat):Int))))
def qym (l:List UInt8):Int:=uOr .u32 (Yx .u32 (IntKind.u32.wrap (Zx (qkf l) l.length 0 (0,0)).2) 16) (IntKind.u32.wrap (Zx (qkf l) l.length 0 (0,0)).1)
theorem qyF {l:List UInt8} (h:l.length≤50000):qee N l=some (qym l):=by
 have key:qcl N l ((l.length:Nat):Int) 0 0 0=some ((Zx (qkf l) l.length 0 (0,0)).1,(Zx (qkf l) l.length 0 (0,0)).2,((l.length:Nat):Int),false):=by
  refine (ZA (σ:=Int×Int) (B:=XQ N l ((l.length:Nat):Int)) (g:=some) (at_:=fun k s=>(s.1,s.2,(k:Int))) (I:=fun _ _=>True) (f:=qkf l) (n:=l.length)
   (fin:=fun s=>(s.1,s.2,((l.length:Nat):Int),false)) (fun k s hk _=>⟨?_,trivial⟩) (fun s _=>?_) N 0 (0,0) trivial (Nat.zero_le _) (by have:=big N; omega))
  ·have h64:qx ((k:Int) + 1):=by unfold qx; omega
   unfold XQ
   rw [qB,dec_lt hk,cond_true,run_bind,vV (d:=0) hk,Option.bind_some]
   show chk (qx ((k:Int) + 1)) _=_
   rw [qa h64,zU]
   rfl
  ·unfold XQ
   rw [qB,Zn (Nat.lt_irrefl _),cond_false,qL]
 unfold qee qd9 qgQ qcK
 rw [run_bind,key,Option.bind_some,run_bind,qI,qa (by omega)]
 rfl
def qa_ (l:List UInt8):qQ:=qQ.mk (qym l) (YT l)
theorem qzG {l:List UInt8} (h:l.length≤50000):qdZ N l=some (qa_ l):=by
 unfold qdZ qeH
 rw [run_bind,qyF h,Option.bind_some,run_bind,qjB h,Option.bind_some,qL]
 rfl
def qfT:Nat→List UInt8→List qQ
 | 0,_=>[]
 | m + 1,l=>qa_ (l.take 8)::qfT m (l.drop 8)
theorem qqa:∀ (m:Nat) (l:List UInt8),(qfT m l).length=m
 | 0,_=>rfl
 | m + 1,l=>by unfold qfT; rw [List.length_cons,qqa m]
def qqf (l:List UInt8):List qQ:=if l.length < 24 then [] else qfT (l.length / 8) l
theorem qvU:∀ (m n:Nat) (l:List UInt8) (acc:List qQ),l.length / 8=m→l.length≤50000→acc.length + m≤50000→m < n→∃ r,zi (W_ N) some n (acc,l)=some (acc++qfT m l,r,false)
 | 0,n + 1,l,acc,hm,_,_,_=>by
  have d:decide ((8:Int)≤((l.length:Nat):Int))=false:=decide_eq_false (by omega)
  refine ⟨l,?_⟩
  rw [QS (x:=(acc,l,false)) (by unfold W_; rw [qB,d,cond_false,qL]) n]
  show some (acc,l,false)=some (acc++[],l,false)
  rw [List.append_nil]
 | m + 1,n + 1,l,acc,hm,hl,ha,hn=>by
  have d:decide ((8:Int)≤((l.length:Nat):Int))=true:=decide_eq_true (by omega)
  have c1:(0:Int)≤0∧(0:Int)≤8∧(8:Int)≤((l.length:Nat):Int):=by omega
  have c2:(0:Int)≤8∧(8:Int)≤((l.length:Nat):Int):=by omega
  have ht:(l.take 8).length≤50000:=by rw [List.length_take]; omega
  have hacc:(acc++[qa_ (l.take 8)]).length=acc.length + 1:=by rw [List.length_append]; rfl
  have cav:jI acc.length acc.length (acc++[qa_ (l.take 8)]).length 36:=⟨rfl,by rw [hacc]; unfold q0; omega⟩
  obtain ⟨r,e⟩:=qvU m n (l.drop 8) (acc++[qa_ (l.take 8)]) (by rw [List.length_drop]; omega) (by rw [List.length_drop]; omega) (by rw [hacc]; omega) (by omega)
  refine ⟨r,?_⟩
  rw [Vy (v':=(acc++[qa_ (l.take 8)],l.drop 8)) (by
   unfold W_
   rw [qB,d,cond_true,qI,qa c1,run_bind,List.drop_zero,qzG ht,Option.bind_some,qI,qa cav,qI,qa c2,qL]) n,e]
  show some (acc++[qa_ (l.take 8)]++qfT m (l.drop 8),r,false)=some (acc++qfT (m + 1) l,r,false)
  rw [List.append_assoc]
  rfl
 | _,0,_,_,_,_,_,hn=>by omega
theorem quM {l:List UInt8} (h:l.length≤50000):qhA N l=some (qqf l):=by
 unfold qhA qfR qqf
 by_cases h24:l.length < 24
 ·have d:decide (((l.length:Nat):Int) < 24)=true:=decide_eq_true (by omega)
  rw [qB,d,cond_true,qL,if_pos h24]
 ·have d:decide (((l.length:Nat):Int) < 24)=false:=decide_eq_false (by omega)
  obtain ⟨r,e⟩:=qvU (N:=N) (l.length / 8) N l [] rfl h (by simp; omega) (by have:=big N; omega)
  have e':vN [(([]:List qQ).length,0)] (qdH N [] l)=some ([]++qfT (l.length / 8) l,r,false):=(Jf rfl).trans e
  rw [qB,d,cond_false,if_neg h24,run_bind,e',Option.bind_some,qI,qa rfl,qL]
  rfl
def Ql (f:qk):qe:=qe.mk f.No f.C.S ((f.C.V.length:Nat):Int) (YT f.C.V) (qqf f.C.V)
def zV (r:qf):qi:=qi.mk r.ID r.jh (r.F.map Ql)
theorem qAd {l : List qk} (h8 : l.length ≤ 8) (hc : ∀ k, k < l.length → X2 (l.getD k zF).C = true) (o1 o2 : List qi) (o3 o4 : Vector UInt8 32) (o5 : Vector UInt8 16) (o6 : qd) (R : List qf) (s20 s21 : Int) :
    Xe N o1 o2 o3 o4 o5 o6 R s20 s21 l ((l.length:Nat):Int) [] 0=some (l.map Ql,((l.length:Nat):Int),false):=by
 have key:∃ y,zi (JG N o1 o2 o3 o4 o5 o6 R s20 s21 l ((l.length:Nat):Int)) some N ([],((0:Nat):Int))=some y∧y=(l.map Ql,((l.length:Nat):Int),false):=by
  refine Wj (I:=fun v=>∃ k:Nat,k≤l.length∧v=((l.take k).map Ql,(k:Int))) (fun v=>l.length - v.2.toNat) ?_ N _ ⟨0,Nat.zero_le _,rfl⟩ (by have:=big N; simp; omega)
  rintro v ⟨k,hk,rfl⟩
  by_cases h:k < l.length
  ·left
   have hV:(l.getD k zF).C.V.length≤50000:=by have:=qqd (hc k h); omega
   have h64:qx ((k:Int) + 1):=by unfold qx; omega
   have el:(l.take (k + 1)).map Ql=(l.take k).map Ql++[Ql (l.getD k zF)]:=by
    rw [List.take_succ_eq_append_getElem h,List.map_append,List.getD_eq_getElem?_getD,List.getElem?_eq_getElem h]; rfl
   have hlen:((l.take k).map Ql++[Ql (l.getD k zF)]).length≤8:=by rw [← el,List.length_map,List.length_take]; omega
   have cav:jI ((l.take k).map Ql).length ((l.take k).map Ql).length ((l.take k).map Ql++[Ql (l.getD k zF)]).length 88:=⟨rfl,by unfold q0; omega⟩
   refine ⟨((l.take (k + 1)).map Ql,((k + 1:Nat):Int)),?_,⟨k + 1,h,rfl⟩,by simp only [Int.toNat_natCast]; omega⟩
   unfold JG
   rw [qB,dec_lt h,cond_true,run_bind,vV (d:=zF) h,Option.bind_some,run_bind,qjB hV,Option.bind_some,run_bind,quM hV,Option.bind_some,qI,el]
   show chk (jI ((l.take k).map Ql).length ((l.take k).map Ql).length ((l.take k).map Ql++[Ql (l.getD k zF)]).length 88) _=_
   rw [qa cav,qI,qa h64,qL,zU]
   rfl
  ·right
   obtain rfl:k=l.length:=by omega
   refine ⟨(l.map Ql,((l.length:Nat):Int),false),_,?_,rfl,rfl⟩
   unfold JG
   rw [qB,Zn (Nat.lt_irrefl _),cond_false,qL,List.take_of_length_le (Nat.le_refl _)]
 obtain ⟨y,e,rfl⟩:=key
 exact e
theorem qAe {R : List qf} (h10 : R.length ≤ 10) (hr : ∀ k, k < R.length → KQ (R.getD k zR) = true) (o1 : List qi) (o3 o4 : Vector UInt8 32) (ho : o1 = []) :
    Xc N o1 o3 o4 R ((R.length:Nat):Int) [] 0=some (R.map zV,((R.length:Nat):Int),false):=by
 have key:∃ y,zi (Jn N o1 o3 o4 R ((R.length:Nat):Int)) some N ([],((0:Nat):Int))=some y∧y=(R.map zV,((R.length:Nat):Int),false):=by
  refine Wj (I:=fun v=>∃ k:Nat,k≤R.length∧v=((R.take k).map zV,(k:Int))) (fun v=>R.length - v.2.toNat) ?_ N _ ⟨0,Nat.zero_le _,rfl⟩ (by have:=big N; simp; omega)
  rintro v ⟨k,hk,rfl⟩
  by_cases h:k < R.length
  ·left
   have hrec:=hr k h
   have h64:qx ((k:Int) + 1):=by unfold qx; omega
   have el:(R.take (k + 1)).map zV=(R.take k).map zV++[zV (R.getD k zR)]:=by
    rw [List.take_succ_eq_append_getElem h,List.map_append,List.getD_eq_getElem?_getD,List.getElem?_eq_getElem h]; rfl
   have hlen:((R.take k).map zV++[zV (R.getD k zR)]).length≤10:=by rw [← el,List.length_map,List.length_take]; omega
   have cav:jI ((R.take k).map zV).length ((R.take k).map zV).length ((R.take k).map zV++[zV (R.getD k zR)]).length 56:=⟨rfl,by unfold q0; omega⟩
   have e9:=qAd (N:=N) (qmk hrec) (fun j hj=>(YI.1 ((YL.1 hrec).2.2 j hj)).2.2.1) o1 ((R.take k).map zV) o3 o4 (R.getD k zR).ID (R.getD k zR).jh R ((R.length:Nat):Int) (k:Int)
   refine ⟨((R.take (k + 1)).map zV,((k + 1:Nat):Int)),?_,⟨k + 1,h,rfl⟩,by simp only [Int.toNat_natCast]; omega⟩
   unfold Jn
   rw [qB,dec_lt h,cond_true,run_bind,vV (d:=zR) h,Option.bind_some,run_bind]
   rw [show vN [(o1.length,o1.length),(((R.take k).map zV,(k:Int)).1.length,((R.take k).map zV,(k:Int)).1.length),(([]:List qe).length,0)] (Xe N o1 ((R.take k).map zV,(k:Int)).1 o3 o4 (qf.ID (R.getD k zR)) (qf.jh (R.getD k zR)) R ((R.length:Nat):Int) ((R.take k).map zV,(k:Int)).2 (qf.F (R.getD k zR)) (((qf.F (R.getD k zR)).length:Nat):Int) [] 0)=some ((R.getD k zR).F.map Ql,(((R.getD k zR).F.length:Nat):Int),false) from (Jf rfl).trans ((Jf rfl).trans ((Jf rfl).trans e9)),Option.bind_some,qI,qa rfl,qI,el]
   show chk (jI ((R.take k).map zV).length ((R.take k).map zV).length ((R.take k).map zV++[zV (R.getD k zR)]).length 56) _=_
   rw [qa cav,qI,qa h64,qL,zU]
   rfl
  ·right
   obtain rfl:k=R.length:=by omega
   refine ⟨(R.map zV,((R.length:Nat):Int),false),_,?_,rfl,rfl⟩
   unfold Jn
   rw [qB,Zn (Nat.lt_irrefl _),cond_false,qL,List.take_of_length_le (Nat.le_refl _)]
 obtain ⟨y,e,rfl⟩:=key
 exact e
theorem qAj {b:qo} (hf:qa2 N b) (h:XY b=false):J8 N b=some (qM.mk (Vector.replicate 32 0) [],false):=by
 unfold J8 XS
 rw [run_bind,qtr hf,h,Option.bind_some,qB,Bool.not_false,cond_true,qI,qa rfl,qL]
theorem qzY {b:qo} (hf:qa2 N b) (h:XY b=true) {D:Vector UInt8 32} (hD:V8 N b=some D):J8 N b=some (qM.mk D (b.R.map zV),true):=by
 have hb:=qgJ.1 h
 have e5:=qAe (N:=N) hb.2 (fun k hk=>(hb.1 k hk).1) [] (Vector.replicate 32 0) D rfl
 unfold J8 XS
 rw [run_bind,qtr hf,h,Option.bind_some,qB,Bool.not_true,cond_false,run_bind,hD,Option.bind_some,run_bind]
 rw [show vN [(([]:List qi).length,0),(([]:List qi).length,0)] (Xc N [] (Vector.replicate 32 0) D (qo.R b) (((qo.R b).length:Nat):Int) [] 0)=some (b.R.map zV,((b.R.length:Nat):Int),false) from (Jf rfl).trans ((Jf rfl).trans e5),Option.bind_some,qI,qa rfl,qL]
end n
end Go.Rx
end
noncomputable section
namespace Go.Rx
section
variable {α R:Type} {n:α→Option R} {y:Option R}
theorem qhh {a:α} (h:n a=y):(Tree.ret a).run n=y:=h
theorem qAf {p:Prop} [Decidable p] {t:Tree α} (h:p) (ht:t.run n=y):(Tree.chk p t).run n=y:=(qa h).trans ht
theorem jK {β:Type} {o:Option β} {k:β→Tree α} {x:β} (h:o=some x) (ht:(k x).run n=y):(Tree.bind o k).run n=y:=by subst h; exact ht
theorem w_t {b:Bool} {s t:Tree α} (h:b=true) (hs:s.run n=y):(Tree.cond b s t).run n=y:=by subst h; exact hs
theorem w_f {b:Bool} {s t:Tree α} (h:b=false) (ht:t.run n=y):(Tree.cond b s t).run n=y:=by subst h; exact ht
theorem qzl {b:Bool} {s t:Tree α} {c:Bool} (h:b=c) (hs:c=true→s.run n=y) (ht:c=false→t.run n=y):(Tree.cond b s t).run n=y:=by
 subst h; cases b
 ·exact ht rfl
 ·exact hs rfl
end
theorem qyR {k:Nat} (h:k≤4611686018427387904):qx ((k:Int) + 1):=by unfold qx; omega
end Go.Rx
end
set_option maxRecDepth 100000
noncomputable section
namespace Go.Rx
open Go.Proofs
open Go.Lib (compareBytes)
theorem qsv:∀ l:List UInt8,compareBytes l l=0
 | []=>rfl
 | x::l=>by
  unfold compareBytes
  rw [if_neg (UInt8.lt_irrefl x),if_neg (UInt8.lt_irrefl x)]
  exact qsv l
def ltB (a b:List UInt8):Bool:=decide (compareBytes a b < 0)
theorem qyC (a:List UInt8):ltB a a=false:=by unfold ltB; rw [qsv]; rfl
def ltD (a b:Vector UInt8 32):Bool:=ltB a.toList b.toList
theorem eqD (a b:Vector UInt8 32):eqE (.ba 32) a b=decide (a=b):=Bool.eq_iff_iff.2 ((Z7 (.ba 32) a b).trans (decide_eq_true_iff (p:=(a:Vector UInt8 32)=b)).symm)
theorem qyP (a:qd):slB a a=false:=by
 unfold slB
 exact decide_eq_false (by omega)
end Go.Rx
end
set_option maxRecDepth 100000
noncomputable section
namespace Go.Rx
open Go.Proofs
theorem qw4 {α:Type} {x:Option α} [Decidable True]:chk True x=x:=if_pos trivial
theorem qjM {n:Nat} [Decidable (((n:Nat):Int) < ((n:Nat):Int))]:decide (((n:Nat):Int) < ((n:Nat):Int))=false:=decide_eq_false (Int.lt_irrefl _)
theorem qvH {l:List qQ} (h:l.length≤1000000):vL l=some ():=by
 unfold vL
 cases l with
 | nil=>kernel_rfl
 | cons x r=>
  show Wb (x::r)=_
  unfold Wb VI
  have h2:jI ([]:List qQ).length 0 ([]++x::r).length 36:=⟨rfl,by rw [List.nil_append]; unfold q0; omega⟩
  simp only [Tree.run,qa h2,List.isEmpty_cons,qw4]
theorem qvx {l:List qe} (h:l.length≤1000000):jQ l=some ():=by
 unfold jQ
 cases l with
 | nil=>kernel_rfl
 | cons x r=>
  show VZ (x::r)=_
  unfold VZ Jl
  have h2:jI ([]:List qe).length 0 ([]++x::r).length 88:=⟨rfl,by rw [List.nil_append]; unfold q0; omega⟩
  simp only [Tree.run,qa h2,List.isEmpty_cons,qw4]
theorem qu6 {α:Type} {l:List α} {k:Nat} {d:α} (h:k < l.length):l.set k (l.getD k d)=l:=by
 rw [List.getD_eq_getElem?_getD,List.getElem?_eq_getElem h]; simp
section n
variable {N:Nat} [Vh N]
theorem qzD {x:qi} (h12:x.F.length≤12) (hB:∀ j,j < x.F.length→(x.F.getD j zE).B.length≤40):Yy N x=some x:=by
 unfold Yy YS
 have key:WQ N [] x.ID x.jh x.F.length (Vector.replicate 16 0) (qd.mk 0 0) ((x.F.length:Nat):Int) x.F 0=some (x.F,((x.F.length:Nat):Int),false):=by
  refine (ZA (σ:=Unit) (B:=ZS N [] x.ID x.jh x.F.length (Vector.replicate 16 0) (qd.mk 0 0) ((x.F.length:Nat):Int)) (g:=some) (at_:=fun k _=>(x.F,(k:Int))) (I:=fun _ _=>True) (f:=fun _ s=>s) (n:=x.F.length)
   (fin:=fun _=>(x.F,((x.F.length:Nat):Int),false)) (fun k s hk _=>⟨?_,trivial⟩) (fun s _=>?_) N 0 () trivial (Nat.zero_le _) (by have:=big N; omega))
  ·unfold ZS
   have c1:(0:Int)≤(k:Int)∧(k:Int) < ((x.F.length:Nat):Int):=by omega
   have h64:qx ((k + 1:Nat):Int):=qmD (by omega)
   have hb:=hB k hk
   simp only [Tree.run,dec_lt hk,cond_true,qa c1,Int.toNat_natCast,qzy (d:=zE) rfl hk,Option.bind_some,qvH (show (x.F.getD k zE).B.length≤1000000 by omega),zU,qa h64,List.nil_append]
   have e:qe.mk (x.F.getD k zE).No (x.F.getD k zE).S (x.F.getD k zE).Len (x.F.getD k zE).D (x.F.getD k zE).B=x.F.getD k zE:=rfl
   rw [e,qu6 hk]
  ·unfold ZS
   simp only [Tree.run,qjM,cond_false]
 simp only [Tree.run,qvx (show x.F.length≤1000000 by omega),Option.bind_some,List.nil_append,List.length_nil,Jf,qnz,key,qw4]
 rfl
def qoX (l:List qi) (id:Vector UInt8 16):Option Nat:=Qn (fun k=>decide ((l.getD k zL).ID=id)) l.length 0
def qcx (l:List qe) (no:Int):Option Nat:=Qn (fun k=>decide ((l.getD k zE).No=no)) l.length 0
def qxO:Option Nat→Int
 | some i=>(i:Int)
 | none=>-1
def vQ (m:qM) (id:Vector UInt8 16):qi×Bool:=match qoX m.L id with
 | some i=>(m.L.getD i zL,true)
 | none=>(zL,false)
def qup (m:qM) (id:Vector UInt8 16) (no:Int):qe×Bool:=match qcx (vQ m id).1.F no with
 | some i=>((vQ m id).1.F.getD i zE,true)
 | none=>(zE,false)
theorem qvj {l:List qi} {id:Vector UInt8 16} (h:l.length≤600):Qw N id l=some (qxO (qoX l id)):=by
 have key:=Km (B:=jj N id l ((l.length:Nat):Int)) (g:=some) (p:=fun k=>decide ((l.getD k zL).ID=id)) (n:=l.length) (hit:=fun k=>.inl (k:Int)) (fin:=.inr (((l.length:Nat):Int),false)) (fun k hk=>by
  unfold jj Yu Xu
  have h64:qx ((k + 1:Nat):Int):=qmD (by omega)
  simp only [Tree.run,dec_lt hk,cond_true,vV (d:=zL) hk,Option.bind_some,zU,qa h64,qz4]
  cases decide ((l.getD k zL).ID=id)<;>rfl) (by
  unfold jj
  simp only [Tree.run,qjM,cond_false]) N 0 (Nat.zero_le _) (by have:=big N; omega)
 have e:Q0 N id l ((l.length:Nat):Int) 0=zi (jj N id l ((l.length:Nat):Int)) some N ((0:Nat):Int):=rfl
 unfold Qw Zg
 simp only [Tree.run]
 rw [e,key,Nat.sub_zero]
 unfold qoX
 cases Qn (fun k=>decide ((l.getD k zL).ID=id)) l.length 0<;>rfl
theorem qkL {p:Nat→Bool} {n i:Nat} (h:Qn p n 0=some i):i < n∧p i=true:=by
 obtain ⟨h1,_,h2,_⟩:=qck h
 exact ⟨by omega,h1⟩
section f
variable {m:qM} (hf:qmI m=true)
include hf
theorem qiN (id:Vector UInt8 16):Zo N m id=some (vQ m id):=by
 obtain ⟨h14,hF⟩:=ql9.1 hf
 unfold Zo WY vQ
 simp only [Tree.run,qvj (show m.L.length≤600 by omega),Option.bind_some]
 cases e:qoX m.L id with
 | none=>rfl
 | some i=>
  have hi:=(qkL e).1
  have hx:=hF i hi
  have hn:¬ (((i:Nat):Int) < 0):=by omega
  show (bif decide (((i:Nat):Int) < 0) then _ else _)=_
  rw [decide_eq_false hn]
  show ((zk _ ((i:Nat):Int)).bind _)=_
  simp only [ vV (d:=zL) hi,Option.bind_some,qzD hx.1 hx.2]
theorem qno (id:Vector UInt8 16):(vQ m id).1.F.length≤12∧∀ j,j < (vQ m id).1.F.length→((vQ m id).1.F.getD j zE).B.length≤40:=by
 obtain ⟨h14,hF⟩:=ql9.1 hf
 unfold vQ
 cases e:qoX m.L id with
 | none=>exact ⟨Nat.zero_le _,fun j hj=>absurd hj (Nat.not_lt_zero _)⟩
 | some i=>exact hF i (qkL e).1
end f
end n
end Go.Rx
end
set_option maxRecDepth 100000
noncomputable section
namespace Go.Rx
open Go.Proofs
section n
variable {N:Nat} [Vh N]
theorem qyM (r:qf):∃ b,j_ N r=some b:=by
 unfold j_ Vx
 by_cases h:r.F.length≤12
 ·have d:decide ((12:Int) < ((r.F.length:Nat):Int))=false:=decide_eq_false (by omega)
  have key:Vi N r 0=some (if Vl (fun k=>decide ((r.F.getD k zF).C.V.length≤300)) r.F.length then .inr (((r.F.length:Nat):Int),false) else .inl ()):=by
   refine qcc (B:=Qt N r) (g:=some) (q:=fun k=>decide ((r.F.getD k zF).C.V.length≤300)) (fun k hk=>?_) ?_ (by have:=big N; omega)
   ·unfold Qt
    have e:decide ((300:Int) < (((r.F.getD k zF).C.V.length:Nat):Int))=!decide ((r.F.getD k zF).C.V.length≤300):=qxs (c:=300)
    rw [qB,dec_lt hk,cond_true,run_bind,vV (d:=zF) hk,Option.bind_some,qB,qL,e,qI,qa (show qx ((k:Int) + 1) by unfold qx; omega),qL,zU]
    cases decide ((r.F.getD k zF).C.V.length≤300)<;>rfl
   ·unfold Qt
    rw [qB,Zn (Nat.lt_irrefl _),cond_false,qL]
  rw [qB,d,cond_false,run_bind,key,Option.bind_some]
  cases Vl (fun k=>decide ((r.F.getD k zF).C.V.length≤300)) r.F.length
  ·exact ⟨_,rfl⟩
  ·exact ⟨_,rfl⟩
 ·have d:decide ((12:Int) < ((r.F.length:Nat):Int))=true:=decide_eq_true (by omega)
  exact ⟨false,by rw [qB,d,cond_true,qL]⟩
theorem qzi (b:qo):∃ x,Jz N b=some x:=by
 unfold Jz VX
 by_cases h:b.R.length≤14
 ·have d:decide ((14:Int) < ((b.R.length:Nat):Int))=false:=decide_eq_false (by omega)
  have key:Vj N b 0=some (if Vl (fun k=>(j_ N (b.R.getD k zR)).getD false) b.R.length then .inr (((b.R.length:Nat):Int),false) else .inl ()):=by
   refine qcc (B:=Qr N b) (g:=some) (q:=fun k=>(j_ N (b.R.getD k zR)).getD false) (fun k hk=>?_) ?_ (by have:=big N; omega)
   ·obtain ⟨x,e⟩:=qyM (N:=N) (b.R.getD k zR)
    unfold Qr
    rw [qB,dec_lt hk,cond_true,run_bind,vV (d:=zR) hk,Option.bind_some,run_bind,e,Option.bind_some,qB,qL,qI,qa (show qx ((k:Int) + 1) by unfold qx; omega),qL,zU]
    cases x<;>rfl
   ·unfold Qr
    rw [qB,Zn (Nat.lt_irrefl _),cond_false,qL]
  rw [qB,d,cond_false,run_bind,key,Option.bind_some]
  cases Vl (fun k=>(j_ N (b.R.getD k zR)).getD false) b.R.length
  ·exact ⟨_,rfl⟩
  ·exact ⟨_,rfl⟩
 ·have d:decide ((14:Int) < ((b.R.length:Nat):Int))=true:=decide_eq_true (by omega)
  exact ⟨false,by rw [qB,d,cond_true,qL]⟩
end n
theorem qo6 {α β:Type} {f:α→β} {l:List α} {k:Nat} {d:α} {e:β} (h:k < l.length):(l.map f).getD k e=f (l.getD k d):=by
 rw [List.getD_eq_getElem?_getD,List.getD_eq_getElem?_getD,List.getElem?_map,List.getElem?_eq_getElem h]; rfl
theorem qwy {l:List UInt8} (h:l.length≤200):(qqf l).length≤40:=by
 unfold qqf
 split
 ·exact Nat.zero_le _
 ·rw [qqa]; omega
theorem qwm {b:qo} (h:XY b=true):(b.R.map zV).length≤10∧∀ k,k < (b.R.map zV).length→((b.R.map zV).getD k zL).F.length≤8∧∀ j,j < ((b.R.map zV).getD k zL).F.length→(((b.R.map zV).getD k zL).F.getD j zE).B.length≤40:=by
 have hb:=qgJ.1 h
 rw [List.length_map]
 refine ⟨hb.2,fun k hk=>?_⟩
 have hrec:=(hb.1 k hk).1
 rw [qo6 (d:=zR) hk]
 have e:(zV (b.R.getD k zR)).F=(b.R.getD k zR).F.map Ql:=rfl
 rw [e,List.length_map]
 refine ⟨qmk hrec,fun j hj=>?_⟩
 rw [qo6 (d:=zF) hj]
 exact qwy (qqd (YI.1 ((YL.1 hrec).2.2 j hj)).2.2.1)
theorem qns:∀ l:List qf,∃ M:Nat,∀ k,k < l.length→(l.getD k zR).F.length≤M
 | []=>⟨0,fun k hk=>by simp at hk⟩
 | r::l=>by
  obtain ⟨M,h⟩:=qns l
  refine ⟨r.F.length + M,fun k hk=>?_⟩
  cases k with
  | zero=>simp
  | succ k=>
   have:=h k (by simpa using hk)
   simp only [List.getD_cons_succ]; omega
theorem qAl (b:qo) (h1:b.R.length≤4611686018427387904) (h2:∀ k,k < b.R.length→(b.R.getD k zR).F.length≤4611686018427387904):∃ M:Nat,∀ N,M≤N→qa2 N b:=by
 obtain ⟨M,h⟩:=qns b.R
 refine ⟨M + b.R.length + 1,fun N hN=>⟨by omega,h1,fun k hk=>⟨by have:=h k hk; omega,h2 k hk⟩⟩⟩
end Go.Rx
end
set_option maxRecDepth 100000
noncomputable section
namespace Go.Rx
open Go.Proofs
abbrev JO (D:Vector UInt8 32) (b:qo):qM:=qM.mk D (b.R.map zV)
theorem quS {b:qo} (h:XY b=true) (D:Vector UInt8 32):qmI (JO D b)=true:=by
 have hs:=qwm h
 refine ql9.2 ⟨by show (b.R.map zV).length≤14; omega,fun k hk=>⟨by show ((b.R.map zV).getD k zL).F.length≤12; have:=(hs.2 k hk).1; omega,fun j hj=>(hs.2 k hk).2 j hj⟩⟩
end Go.Rx
end
set_option maxRecDepth 100000
noncomputable section
namespace Go.Rx
open Go.Proofs
end Go.Rx
end
set_option maxRecDepth 100000
noncomputable section
namespace Go.Rx
open Go.Proofs
open Go.Lib (compareBytes)
end Go.Rx
end
set_option maxRecDepth 100000
noncomputable section
namespace Go.Rx
open Go.Proofs
end Go.Rx
end
set_option maxRecDepth 100000
noncomputable section
namespace Go.Rx
open Go.Proofs
def exB (c:qq) (x:qi) (no:Int):Bool:=slB x.jh c.S&&(match qcx x.F no with
 | none=>true
 | some i=>if (x.F.getD i zE).S=c.S then ltD (x.F.getD i zE).D (YT c.V) else slB (x.F.getD i zE).S c.S)
end Go.Rx
end
set_option maxRecDepth 100000
noncomputable section
namespace Go.Rx
open Go.Proofs
end Go.Rx
end
set_option maxRecDepth 100000
noncomputable section
namespace Go.Rx
open Go.Proofs
open Go.Lib (compareBytes)
section
variable {N:Nat} [Vh N]
theorem qsO (a b:Vector UInt8 32):qeo a b=some (ltD a b):=by
 unfold qeo qea ltD
 rw [qB,eqD]
 by_cases h:a=b
 ·subst h; rw [decide_eq_true rfl,qyC]; rfl
 ·rw [decide_eq_false h]; rfl
end
end Go.Rx
end
set_option maxRecDepth 100000
noncomputable section
namespace Go.Rx
open Go.Proofs
section
variable {N:Nat} [Vh N]
theorem qvD {l:List qe} {no:Int} (h:l.length≤600):vS N no l=some (qxO (qcx l no)):=by
 have key:=Km (B:=zW N no l ((l.length:Nat):Int)) (g:=some) (p:=fun k=>decide ((l.getD k zE).No=no)) (n:=l.length) (hit:=fun k=>.inl (k:Int)) (fin:=.inr (((l.length:Nat):Int),false)) (fun k hk=>by
  unfold zW
  refine w_t (dec_lt hk) <| jK (vV (d:=zE) hk) <| jK (show Yl no (l.getD k zE)=some () from rfl) <| qzl (c:=decide ((l.getD k zE).No=no)) rfl (fun h=>qhh ?_) fun h=>qAf (qyR (by omega)) <| qhh ?_
  ·rw [h]; rfl
  ·rw [h,zU]; rfl) (by
  unfold zW
  exact w_f (Zn (Nat.lt_irrefl _)) (qhh (by rw [Zn (Nat.lt_irrefl _)]))) N 0 (Nat.zero_le _) (by have:=big N; omega)
 rw [Nat.sub_zero] at key
 have e:QE N no l ((l.length:Nat):Int) 0=zi (zW N no l ((l.length:Nat):Int)) some N ((0:Nat):Int):=rfl
 unfold vS QN
 refine jK (e.trans key) ?_
 unfold qcx
 cases Qn (fun k=>decide ((l.getD k zE).No=no)) l.length 0<;>rfl
theorem qzE {c:qq} {x:qi} {no:Int} (hx:x.F.length≤600) (hc:c.V.length≤50000):XT N c x no=some (exB c x no):=by
 unfold XT WU exB
 refine jK (qvD hx) (jK (Ky _ _) ?_)
 cases slB (qi.jh x) (qq.S c) with
 | false=>rfl
 | true=>
  refine w_f rfl ?_
  show _=some (match qcx x.F no with | none=>true | some i=>if (x.F.getD i zE).S=c.S then ltD (x.F.getD i zE).D (YT c.V) else slB (x.F.getD i zE).S c.S)
  cases e:qcx x.F no with
  | none=>rfl
  | some i=>
   have hi:=(qkL e).1
   have g:=vV (d:=zE) hi
   refine w_f (decide_eq_false (by show ¬ ((i:Nat):Int) < 0; omega)) (jK g ?_)
   show _=some (if (x.F.getD i zE).S=c.S then ltD (x.F.getD i zE).D (YT c.V) else slB (x.F.getD i zE).S c.S)
   by_cases h:(x.F.getD i zE).S=c.S
   ·rw [if_pos h]
    exact w_f (by rw [qjU]; show (!decide ((x.F.getD i zE).S=c.S))=false; rw [decide_eq_true h]; rfl) <| jK g <| jK (qjB hc) <| jK (qsO _ _) <| qhh rfl
   ·rw [if_neg h]
    exact w_t (by rw [qjU]; show (!decide ((x.F.getD i zE).S=c.S))=true; rw [decide_eq_false h]; rfl) <| jK g <| jK (Ky _ _) <| qhh rfl
end
end Go.Rx
end
set_option maxRecDepth 100000
noncomputable section
namespace Go.Rx
open Go.Proofs
section
variable {N:Nat} [Vh N]
section f
variable {m:qM} (hf:qmI m=true)
include hf
theorem qs5 {c:qq} {id:Vector UInt8 16} {no:Int} (hc:c.V.length≤50000):X_ N c m id no=some (exB c (vQ m id).1 no):=by
 unfold X_ Ym
 exact jK (qiN hf id) <| jK (qzE (by have:=(qno hf id).1; omega) hc) <| qhh rfl
end f
end
end Go.Rx
end
set_option maxRecDepth 100000
noncomputable section
namespace Go.Rx
open Go.Proofs
section n
variable {N:Nat} [Vh N]
theorem quU {l:List qe} {no:Int} (h:l.length≤600):Qk N no l=some (qxO (qcx l no)):=by
 have key:=Km (B:=jb N no l ((l.length:Nat):Int)) (g:=some) (p:=fun k=>decide ((l.getD k zE).No=no)) (n:=l.length) (hit:=fun k=>.inl (k:Int)) (fin:=.inr (((l.length:Nat):Int),false)) (fun k hk=>by
  unfold jb Yp Xv
  have h64:qx ((k + 1:Nat):Int):=qmD (by omega)
  simp only [Tree.run,dec_lt hk,cond_true,vV (d:=zE) hk,Option.bind_some,zU,qa h64]
  cases decide ((l.getD k zE).No=no)<;>rfl) (by
  unfold jb
  simp only [Tree.run,qjM,cond_false]) N 0 (Nat.zero_le _) (by have:=big N; omega)
 have e:QO N no l ((l.length:Nat):Int) 0=zi (jb N no l ((l.length:Nat):Int)) some N ((0:Nat):Int):=rfl
 unfold Qk Q4
 simp only [Tree.run]
 rw [e,key,Nat.sub_zero]
 unfold qcx
 cases Qn (fun k=>decide ((l.getD k zE).No=no)) l.length 0<;>rfl
section f
variable {m:qM} (hf:qmI m=true)
include hf
theorem quR (id:Vector UInt8 16) (no:Int):XN N m id no=some (qup m id no):=by
 have hl:=(qno hf id).1
 unfold XN WS qup
 simp only [Tree.run,qiN hf,Option.bind_some,quU (show (vQ m id).1.F.length≤600 by omega)]
 cases e:qcx (vQ m id).1.F no with
 | none=>rfl
 | some i=>
  have hi:=(qkL e).1
  have hn:¬ (((i:Nat):Int) < 0):=by omega
  show (bif decide (((i:Nat):Int) < 0) then _ else _)=_
  rw [decide_eq_false hn]
  show ((zk _ ((i:Nat):Int)).bind _)=_
  simp only [ vV (d:=zE) hi,Option.bind_some]
end f
end n
end Go.Rx
end
set_option maxRecDepth 100000
noncomputable section
namespace Go.Rx
open Go.Proofs
section
variable {N:Nat} [Vh N]
theorem qnI {b:qo} (fb:qa2 N b) (c:qq) (id:Vector UInt8 16) (no:Int):jg N b c id no=some true:=by
 obtain ⟨p,ep⟩:=qzi (N:=N) b
 unfold jg QJ
 refine jK (show qtc=some true from rfl) <| jK ep ?_
 cases hb:XY b with
 | false=>
  refine jK (qAj fb hb) <| w_f rfl ?_
  cases p<;>rfl
 | true=>
  obtain ⟨D,eD⟩:=qzQ fb hb
  refine jK (qzY fb hb eD) <| w_f rfl ?_
  cases p with
  | false=>rfl
  | true=>
   refine w_f rfl <| w_f rfl <| qzl (c:=decide ((300:Int) < ((c.V.length:Nat):Int))) rfl (fun _=>rfl) fun h300=>?_
   have hV:c.V.length≤300:=by have:=of_decide_eq_false h300; omega
   have hf:=quS hb D
   refine jK (qiN hf id) <| jK (quR hf id no) <| jK (qs5 hf (by omega)) <| jK (Ky _ _) ?_
   unfold exB qup
   cases h1:slB (vQ (JO D b) id).1.jh c.S with
   | false=>exact w_t rfl rfl
   | true=>
    refine w_f rfl ?_
    cases qcx (vQ (JO D b) id).1.F no with
    | none=>rfl
    | some i=>
     refine w_f rfl <| jK (Ky _ _) ?_
     show (Tree.cond (slB ((vQ (JO D b) id).1.F.getD i zE).S c.S) (Tree.ret (true&&if ((vQ (JO D b) id).1.F.getD i zE).S=c.S then ltD ((vQ (JO D b) id).1.F.getD i zE).D (YT c.V) else slB ((vQ (JO D b) id).1.F.getD i zE).S c.S))
      (Tree.cond (!(true&&if ((vQ (JO D b) id).1.F.getD i zE).S=c.S then ltD ((vQ (JO D b) id).1.F.getD i zE).D (YT c.V) else slB ((vQ (JO D b) id).1.F.getD i zE).S c.S)) (Tree.ret true) (Tree.ret (eqE qJ ((vQ (JO D b) id).1.F.getD i zE).S c.S)))).run some=some true
     generalize (vQ (JO D b) id).1.F.getD i zE=e
     rw [qjU]
     by_cases hS:e.S=c.S
     ·rw [if_pos hS,decide_eq_true (show (e.S:qd)=c.S from hS),hS,qyP]
      cases ltD e.D (YT c.V)<;>rfl
     ·rw [if_neg hS]
      cases slB e.S c.S<;>rfl
end
theorem qta (b:qo) (c:qq) (id:Vector UInt8 16) (no:Int) (h1:b.R.length≤4611686018427387904) (h2:∀ k,k < b.R.length→(b.R.getD k zR).F.length≤4611686018427387904):∃ N:Nat,jg N b c id no=some true:=by
 obtain ⟨M,hM⟩:=qAl b h1 h2
 have:Vh (100000 + M):=Vh.of (by omega)
 exact ⟨_,qnI (hM (100000 + M) (by omega)) c id no⟩
end Go.Rx
end
