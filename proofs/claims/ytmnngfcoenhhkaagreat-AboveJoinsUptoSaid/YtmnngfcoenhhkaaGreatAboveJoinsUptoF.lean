/- A part of the proof of AboveJoinsUpto: the law returns true for every input of its bounded bulk, and its arguments read as before. No condition beyond that bound. -/
import Derived.Test.YtmnngfcoenhhkaaGreatProg
import Derived.Laws.BitsAllLaws
import Derived.Test.YtmnngfcoenhhkaaGreatComE
set_option linter.unusedSimpArgs false
set_option linter.unusedVariables false
set_option linter.unusedSectionVars false
noncomputable section
namespace Go.Rx
theorem KB {α R:Type} (n:α→Option R):∀ t:Tree α,t.run n=(t.run some).bind n
 | .ret a=>rfl
 | .no=>rfl
 | .cond b s t=>by
  simp only [Tree.run]
  cases b
  ·exact KB n t
  ·exact KB n s
 | @Tree.chk _ p d t=>by
  simp only [Tree.run,chk]
  split
  ·exact KB n t
  ·rfl
 | .bind o k=>by
  simp only [Tree.run]
  cases o with
  | none=>rfl
  | some x=>exact KB n (k x)
 | .opt o s k=>by
  simp only [Tree.run]
  cases o with
  | none=>exact KB n s
  | some x=>exact KB n (k x)
 | .sum x f g=>by
  cases x with
  | inl a=>exact KB n (f a)
  | inr b=>exact KB n (g b)
section r
variable {α R:Type} {n:α→Option R}
theorem qP {a:α}:(Tree.ret a).run n=n a:=rfl
theorem qF {b:Bool} {s t:Tree α}:(Tree.cond b s t).run n=bif b then s.run n else t.run n:=rfl
theorem qS {p:Prop} [Decidable p] {t:Tree α}:(Tree.chk p t).run n=chk p (t.run n):=rfl
theorem run_bind {β:Type} {o:Option β} {k:β→Tree α}:(Tree.bind o k).run n=o.bind fun x=>(k x).run n:=rfl
theorem qN6 {β γ:Type} {x:β} {f:β→Tree α} {g:γ→Tree α}:(Tree.sum (.inl x) f g).run n=(f x).run n:=rfl
theorem qCT {β γ:Type} {x:γ} {f:β→Tree α} {g:γ→Tree α}:(Tree.sum (.inr x) f g).run n=(g x).run n:=rfl
end r
theorem J1 {V W Y:Type} {B:V→Tree (V⊕W)} {g:W→Option Y} {v v':V} (h:(B v).run some=some (.inl v')) (N:Nat):qY B g (N + 1) v=qY B g N v':=by
 simp only [qY]
 rw [KB,h]; rfl
theorem zV {V W Y:Type} {B:V→Tree (V⊕W)} {g:W→Option Y} {v:V} {x:W} (h:(B v).run some=some (.inr x)) (N:Nat):qY B g (N + 1) v=g x:=by
 simp only [qY]
 rw [KB,h]; rfl
theorem Vq {V W Y : Type} {B : V → Tree (V ⊕ W)} {g : W → Option Y} {I : V → Prop} {Q : Y → Prop} (m : V → Nat)
    (h:∀ v,I v→(∃ v',(B v).run some=some (.inl v')∧I v'∧m v' < m v)∨∃ x y,(B v).run some=some (.inr x)∧g x=some y∧Q y) :
    ∀ (N:Nat) (v:V),I v→m v < N→∃ y,qY B g N v=some y∧Q y
 | 0,v,_,hm=>by omega
 | N + 1,v,hi,hm=>by
  rcases h v hi with ⟨v',h1,h2,h3⟩ | ⟨x,y,h1,h2,h3⟩
  ·rw [J1 h1]
   exact Vq m h N v' h2 (by omega)
  ·rw [zV h1]
   exact ⟨y,h2,h3⟩
theorem qj4 {W Y : Type} {B : Int → Tree (Int ⊕ W)} {g : W → Option Y} {p : Nat → Bool} {n : Nat} {hit : Nat → W} {fin : W}
    (h1:∀ k,k < n→(B (k:Int)).run some=some (if p k then .inr (hit k) else .inl ((k + 1:Nat):Int))) (h2:(B (n:Int)).run some=some (.inr fin)) :
    ∀ (N k:Nat),k≤n→n < N + k→qY B g N (k:Int)=g (match Qo p (n - k) k with | some j=>hit j | none=>fin)
 | 0,k,hk,hN=>by omega
 | N + 1,k,hk,hN=>by
  by_cases e:k=n
  ·subst e
   rw [zV h2,Nat.sub_self]; rfl
  ·obtain ⟨m,hm⟩:∃ m,n - k=m + 1:=⟨n - k - 1,by omega⟩
   have h3:=h1 k (by omega)
   rw [hm]
   unfold Qo
   cases hp:p k with
   | true=>
    rw [hp,if_pos rfl] at h3
    rw [zV h3,if_pos rfl]
   | false=>
    rw [hp,if_neg (by simp)] at h3
    rw [J1 h3,qj4 h1 h2 N (k + 1) (by omega) (by omega),if_neg (by simp),show n - (k + 1)=m by omega]
def ZH {σ:Type} (f:Nat→σ→σ):Nat→Nat→σ→σ
 | 0,_,s=>s
 | m + 1,k,s=>ZH f m (k + 1) (f k s)
theorem jY {σ W Y : Type} {V : Type} {B : V → Tree (V ⊕ W)} {g : W → Option Y} {at_ : Nat → σ → V} {I : Nat → σ → Prop} {f : Nat → σ → σ} {n : Nat} {fin : σ → W}
    (h1:∀ k s,k < n→I k s→(B (at_ k s)).run some=some (.inl (at_ (k + 1) (f k s)))∧I (k + 1) (f k s)) (h2:∀ s,I n s→(B (at_ n s)).run some=some (.inr (fin s))) :
    ∀ (N k:Nat) (s:σ),I k s→k≤n→n < N + k→qY B g N (at_ k s)=g (fin (ZH f (n - k) k s))
 | 0,k,s,_,hk,hN=>by omega
 | N + 1,k,s,hi,hk,hN=>by
  by_cases e:k=n
  ·subst e
   rw [zV (h2 s hi),Nat.sub_self]; rfl
  ·obtain ⟨m,hm⟩:∃ m,n - k=m + 1:=⟨n - k - 1,by omega⟩
   obtain ⟨h3,h4⟩:=h1 k s (by omega) hi
   rw [J1 h3,jY h1 h2 N (k + 1) _ h4 (by omega) (by omega),hm,show n - (k + 1)=m by omega]
   rfl
theorem qi7 {α:Type} {l:List α} {k n:Nat} {d:α} (hn:l.length=n) (h:k < l.length):Zd l n k=some (l.getD k d):=by
 unfold Zd; rw [if_pos hn,List.getElem?_eq_getElem h]; simp [List.getD,List.getElem?_eq_getElem h]
theorem qg {α:Type} {p:Prop} [Decidable p] {x:Option α} (h:p):chk p x=x:=if_pos h
theorem qz0 {Z:Type} (o:Option Z):zO [] o=o:=rfl
theorem zj {Z:Type} {a b:Nat} {ps:List (Nat×Nat)} {o:Option Z} (h:a=b):zO ((a,b)::ps) o=zO ps o:=if_pos h
end Go.Rx
end
noncomputable section
namespace Go.Rx
def qi:Ty:=.ag [.i .i64,.i .i64]
abbrev qd:=Int×Int
def qd.N (x:qd):Int:=x.1
def qd.Rep (x:qd):Int:=x.2
def qd.mk (x0:Int) (x1:Int):qd:=(x0,x1)
instance qd.dec:DecidableEq qd:=Vp qi
def qv:Ty:=.ag [qi,.s]
abbrev qe:=qd×List UInt8
def qe.S (x:qe):qd:=x.1
def qe.V (x:qe):List UInt8:=x.2
def qe.mk (x0:qd) (x1:List UInt8):qe:=(x0,x1)
instance qe.dec:DecidableEq qe:=Vp qv
def qq:Ty:=.ag [.i .i64,qv]
abbrev qc:=Int×qe
def qc.No (x:qc):Int:=x.1
def qc.C (x:qc):qe:=x.2
def qc.mk (x0:Int) (x1:qe):qc:=(x0,x1)
instance qc.dec:DecidableEq qc:=Vp qq
def qf:Ty:=.ag [.ba 16,qi,.sl 4 qq]
abbrev qa:=Vector UInt8 16×qd×List qc
def qa.ID (x:qa):Vector UInt8 16:=x.1
def qa.qB (x:qa):qd:=x.2.1
def qa.F (x:qa):List qc:=x.2.2
def qa.mk (x0:Vector UInt8 16) (x1:qd) (x2:List qc):qa:=(x0,x1,x2)
instance qa.dec:DecidableEq qa:=Vp qf
def qh:Ty:=.ag [.sl 19 qf]
abbrev qb:=List qa
def qb.R (x:qb):List qa:=x
def qb.mk (x0:List qa):qb:=(x0)
instance qb.dec:DecidableEq qb:=Vp qh
def vS:Ty:=.ag [.i .u32,.ba 32]
abbrev ze:=Int×Vector UInt8 32
def ze.v7 (x:ze):Int:=x.1
def ze.mk (x0:Int) (x1:Vector UInt8 32):ze:=(x0,x1)
instance ze.dec:DecidableEq ze:=Vp vS
def q6:Ty:=.ag [.i .i64,qi,.i .i64,.ba 32,.sl 33 vS]
abbrev qn:=Int×qd×Int×Vector UInt8 32×List ze
def qn.No (x:qn):Int:=x.1
def qn.S (x:qn):qd:=x.2.1
def qn.Len (x:qn):Int:=x.2.2.1
def qn.D (x:qn):Vector UInt8 32:=x.2.2.2.1
def qn.B (x:qn):List ze:=x.2.2.2.2
def qn.mk (x0:Int) (x1:qd) (x2:Int) (x3:Vector UInt8 32) (x4:List ze):qn:=(x0,x1,x2,x3,x4)
instance qn.dec:DecidableEq qn:=Vp q6
def qQ:Ty:=.ag [.ba 16,qi,.sl 37 q6]
abbrev ql:=Vector UInt8 16×qd×List qn
def ql.ID (x:ql):Vector UInt8 16:=x.1
def ql.qB (x:ql):qd:=x.2.1
def ql.F (x:ql):List qn:=x.2.2
def ql.mk (x0:Vector UInt8 16) (x1:qd) (x2:List qn):ql:=(x0,x1,x2)
instance ql.dec:DecidableEq ql:=Vp qQ
def qH:Ty:=.ag [.ba 32,.sl 19 qQ]
abbrev qp:=Vector UInt8 32×List ql
def qp.L (x:qp):List ql:=x.2
def qp.mk (x0:Vector UInt8 32) (x1:List ql):qp:=(x0,x1)
instance qp.dec:DecidableEq qp:=Vp qH
end Go.Rx
end
set_option maxRecDepth 100000
noncomputable section
namespace Go.Rx
open Go.Proofs
theorem qj:Tryz.prog.follows .mixedOrders=true:=by kernel_rfl
noncomputable instance qRw:CT:=⟨ctF Tryz.prog⟩
def qJE:Ent:=qQI 128
theorem qOT:zg Tryz.prog qJE:=qPf (fn:=Tryz.f128) (by kernel_rfl) (by kernel_rfl) (by kernel_rfl) (by kernel_rfl) (by kernel_rfl)
noncomputable def qK4:Code:=Tryz.f111.body.getD .skip
theorem qrB:FnF Tryz.prog 111 Tryz.f111 qK4:=⟨qj,by kernel_rfl,by kernel_rfl,by kernel_rfl⟩
def qBF:TH:={ live:=[(0,[0]),(1,[0,4]),(2,[2]),(3,[2])],vecs:=[5],esc:=true }
def qBp (N:Nat):List Ent:=[]
theorem qwo (N:Nat):qT Tryz.prog (qBp N):=trivial
def qpl (a0:List UInt8) (z:Unit):TV×THp:=(.v 100050 (((([]:List UInt8))++a0).length),[(100050,.vec false 1 .bl ((([]:List UInt8))++a0:List UInt8))])
def qgT (a0:List UInt8):Tree (Unit):=
 .chk (List.isEmpty a0=false) <|
 .chk (jx ((([]:List UInt8)).length) 0 (((([]:List UInt8))++a0).length) 1) <|
 .ret ()
def qlD (a0:List UInt8):Option (Unit):=(qgT a0).run some
def qBn:List (Nat×qA):=[]
theorem qv6:YM Tryz.prog ⟨111,[],[.x .bl],[],[]⟩ [.bl] (fun x=>qgT x.1) (fun x=>qpl x.1):=
 Xm (H:=qBF) (L:=qL (qBn)) 0 qrB (qwo 0) (qo (by kernel_rfl) trivial) (rg0 (by kernel_rfl)) fun x=>by kernel_rfl
def qwZ:TH:={ live:=[(0,[0]),(1,[0,4]),(2,[2]),(3,[2])],vecs:=[5],esc:=true }
def qxw (N:Nat):List Ent:=[]
theorem qsV (N:Nat):qT Tryz.prog (qxw N):=trivial
def qx6 (z:Unit):TV×THp:=(.v 100050 0,[(100050,.vec false 1 .bl ([]:List UInt8))])
def qjV:Tree (Unit):=
 .chk (0=0) <|
 .ret ()
def qA6:Option (Unit):=(qjV).run some
def qxa:List (Nat×qA):=[]
theorem qtd:YM Tryz.prog ⟨111,[],[.k (.es 0)],[],[]⟩ [] (fun x=>qjV) (fun _=>qx6):=
 Xm (H:=qwZ) (L:=qL (qxa)) 0 qrB (qsV 0) (qo (by kernel_rfl) trivial) (rg0 (by kernel_rfl)) fun x=>by kernel_rfl
def qv2:TH:={ live:=[(0,[0]),(1,[0,4]),(2,[2]),(3,[2])],vecs:=[5],esc:=true }
def qxO (N:Nat):List Ent:=[]
theorem qtG (N:Nat):qT Tryz.prog (qxO N):=trivial
def qw9 (z:Unit):TV×THp:=(.nils,[])
def qkb:Tree (Unit):=
 .ret ()
def qBt:Option (Unit):=(qkb).run some
def qwJ:List (Nat×qA):=[]
theorem qsT:YM Tryz.prog ⟨111,[],[.k (.es 1)],[],[]⟩ [] (fun x=>qkb) (fun _=>qw9):=
 Xm (H:=qv2) (L:=qL (qwJ)) 0 qrB (qtG 0) (qo (by kernel_rfl) trivial) (rg0 (by kernel_rfl)) fun x=>by kernel_rfl
def qki (z:Unit):Unit:=()
def qxk (z:Unit):Unit:=()
def W7 (a0:List UInt8):Option (Unit):=
 bif a0.isEmpty then
  (qA6).bind fun z0=>(qBt).bind fun z1=>chk (qki z0=qxk z1) (some (qki z0))
 else qlD a0
def qml:Ent:=smF ⟨111,[],[.x .bl],[],[]⟩ [.bl] (Unit) (fun x=>W7 x.1) cs1 fun x=>qpl x.1
theorem qxE:zg Tryz.prog (qml):=qfY fun x z h l=>by
 obtain ⟨a0,_⟩:=x
 replace h:W7 a0=some z:=h
 unfold W7 at h
 rcases qfN h with ⟨e,h2⟩ | ⟨_,h2⟩<;>clear h
 ·have e:=List.isEmpty_iff.1 e
  subst e
  obtain ⟨z0,c0,h2⟩:=bind_some h2
  obtain ⟨z1,c1,h2⟩:=bind_some h2
  obtain ⟨hE,h2⟩:=qe5 h2
  obtain rfl:=Option.some.inj h2
  refine qf3 (t:=.bl) (x:=[]) rfl (TV.ers []) (TV.ers []) (by exact qtd (()) _ c0 l) ?_
  rw [hE]
  exact (qG1 (n:=100050) (sz:=1) (x:=qE .bl ([]:List UInt8)) rfl (by kernel_rfl) (by kernel_rfl) (qsT (()) _ c1 l))
 ·exact qv6 (a0,()) z h2 l
noncomputable def qLp:Code:=Tryz.f112.body.getD .skip
theorem qJN:FnF Tryz.prog 112 Tryz.f112 qLp:=⟨qj,by kernel_rfl,by kernel_rfl,by kernel_rfl⟩
def qFK:TH:={ live:=[(0,[0]),(1,[0])] }
def qFB (N:Nat):List Ent:=[]
theorem qAR (N:Nat):qT Tryz.prog (qFB N):=trivial
def qFV (z:Unit):TV×THp:=(.tv (.wa 8) ((((((((((Vector.replicate 8 0)).setIfInBounds 0 ((UInt32.ofNat 1779033703))).setIfInBounds 1 ((UInt32.ofNat 3144134277))).setIfInBounds 2 ((UInt32.ofNat 1013904242))).setIfInBounds 3 ((UInt32.ofNat 2773480762))).setIfInBounds 4 ((UInt32.ofNat 1359893119))).setIfInBounds 5 ((UInt32.ofNat 2600822924))).setIfInBounds 6 ((UInt32.ofNat 528734635))).setIfInBounds 7 ((UInt32.ofNat 1541459225)):Vector UInt32 8),[])
def qtM:Tree (Unit):=
 .chk (0 < 8) <|
 .chk (1 < 8) <|
 .chk (2 < 8) <|
 .chk (3 < 8) <|
 .chk (4 < 8) <|
 .chk (5 < 8) <|
 .chk (6 < 8) <|
 .chk (7 < 8) <|
 .ret ()
def qqd:Option (Unit):=(qtM).run some
def qE0:List (Nat×qA):=[]
def qt2:Ent:=smF ⟨112,[],[],[],[]⟩ [] (Unit) (fun x=>qqd) cs1 fun _=>qFV
theorem qEb:zg Tryz.prog (qt2):=
 zf (H:=qFK) (L:=qL (qE0)) (ts:=[]) (T:=fun x=>qtM) 0 qJN (qAR 0) (qo (by kernel_rfl) trivial) (rg0 (by kernel_rfl)) fun x=>by kernel_rfl
noncomputable def qLO:Code:=Tryz.f113.body.getD .skip
theorem qJ_:FnF Tryz.prog 113 Tryz.f113 qLO:=⟨qj,by kernel_rfl,by kernel_rfl,by kernel_rfl⟩
def qE9:TH:={ live:=[(0,[0]),(1,[0])] }
def qFZ (N:Nat):List Ent:=[]
theorem qBB (N:Nat):qT Tryz.prog (qFZ N):=trivial
def qF8 (z:Unit):TV×THp:=(.tv (.wa 64) ((((((((((((((((((((((((((((((((((((((((((((((((((((((((((((((((((Vector.replicate 64 0)).setIfInBounds 0 ((UInt32.ofNat 1116352408))).setIfInBounds 1 ((UInt32.ofNat 1899447441))).setIfInBounds 2 ((UInt32.ofNat 3049323471))).setIfInBounds 3 ((UInt32.ofNat 3921009573))).setIfInBounds 4 ((UInt32.ofNat 961987163))).setIfInBounds 5 ((UInt32.ofNat 1508970993))).setIfInBounds 6 ((UInt32.ofNat 2453635748))).setIfInBounds 7 ((UInt32.ofNat 2870763221))).setIfInBounds 8 ((UInt32.ofNat 3624381080))).setIfInBounds 9 ((UInt32.ofNat 310598401))).setIfInBounds 10 ((UInt32.ofNat 607225278))).setIfInBounds 11 ((UInt32.ofNat 1426881987))).setIfInBounds 12 ((UInt32.ofNat 1925078388))).setIfInBounds 13 ((UInt32.ofNat 2162078206))).setIfInBounds 14 ((UInt32.ofNat 2614888103))).setIfInBounds 15 ((UInt32.ofNat 3248222580))).setIfInBounds 16 ((UInt32.ofNat 3835390401))).setIfInBounds 17 ((UInt32.ofNat 4022224774))).setIfInBounds 18 ((UInt32.ofNat 264347078))).setIfInBounds 19 ((UInt32.ofNat 604807628))).setIfInBounds 20 ((UInt32.ofNat 770255983))).setIfInBounds 21 ((UInt32.ofNat 1249150122))).setIfInBounds 22 ((UInt32.ofNat 1555081692))).setIfInBounds 23 ((UInt32.ofNat 1996064986))).setIfInBounds 24 ((UInt32.ofNat 2554220882))).setIfInBounds 25 ((UInt32.ofNat 2821834349))).setIfInBounds 26 ((UInt32.ofNat 2952996808))).setIfInBounds 27 ((UInt32.ofNat 3210313671))).setIfInBounds 28 ((UInt32.ofNat 3336571891))).setIfInBounds 29 ((UInt32.ofNat 3584528711))).setIfInBounds 30 ((UInt32.ofNat 113926993))).setIfInBounds 31 ((UInt32.ofNat 338241895))).setIfInBounds 32 ((UInt32.ofNat 666307205))).setIfInBounds 33 ((UInt32.ofNat 773529912))).setIfInBounds 34 ((UInt32.ofNat 1294757372))).setIfInBounds 35 ((UInt32.ofNat 1396182291))).setIfInBounds 36 ((UInt32.ofNat 1695183700))).setIfInBounds 37 ((UInt32.ofNat 1986661051))).setIfInBounds 38 ((UInt32.ofNat 2177026350))).setIfInBounds 39 ((UInt32.ofNat 2456956037))).setIfInBounds 40 ((UInt32.ofNat 2730485921))).setIfInBounds 41 ((UInt32.ofNat 2820302411))).setIfInBounds 42 ((UInt32.ofNat 3259730800))).setIfInBounds 43 ((UInt32.ofNat 3345764771))).setIfInBounds 44 ((UInt32.ofNat 3516065817))).setIfInBounds 45 ((UInt32.ofNat 3600352804))).setIfInBounds 46 ((UInt32.ofNat 4094571909))).setIfInBounds 47 ((UInt32.ofNat 275423344))).setIfInBounds 48 ((UInt32.ofNat 430227734))).setIfInBounds 49 ((UInt32.ofNat 506948616))).setIfInBounds 50 ((UInt32.ofNat 659060556))).setIfInBounds 51 ((UInt32.ofNat 883997877))).setIfInBounds 52 ((UInt32.ofNat 958139571))).setIfInBounds 53 ((UInt32.ofNat 1322822218))).setIfInBounds 54 ((UInt32.ofNat 1537002063))).setIfInBounds 55 ((UInt32.ofNat 1747873779))).setIfInBounds 56 ((UInt32.ofNat 1955562222))).setIfInBounds 57 ((UInt32.ofNat 2024104815))).setIfInBounds 58 ((UInt32.ofNat 2227730452))).setIfInBounds 59 ((UInt32.ofNat 2361852424))).setIfInBounds 60 ((UInt32.ofNat 2428436474))).setIfInBounds 61 ((UInt32.ofNat 2756734187))).setIfInBounds 62 ((UInt32.ofNat 3204031479))).setIfInBounds 63 ((UInt32.ofNat 3329325298)):Vector UInt32 64),[])
def que:Tree (Unit):=
 .chk (0 < 64) <|
 .chk (1 < 64) <|
 .chk (2 < 64) <|
 .chk (3 < 64) <|
 .chk (4 < 64) <|
 .chk (5 < 64) <|
 .chk (6 < 64) <|
 .chk (7 < 64) <|
 .chk (8 < 64) <|
 .chk (9 < 64) <|
 .chk (10 < 64) <|
 .chk (11 < 64) <|
 .chk (12 < 64) <|
 .chk (13 < 64) <|
 .chk (14 < 64) <|
 .chk (15 < 64) <|
 .chk (16 < 64) <|
 .chk (17 < 64) <|
 .chk (18 < 64) <|
 .chk (19 < 64) <|
 .chk (20 < 64) <|
 .chk (21 < 64) <|
 .chk (22 < 64) <|
 .chk (23 < 64) <|
 .chk (24 < 64) <|
 .chk (25 < 64) <|
 .chk (26 < 64) <|
 .chk (27 < 64) <|
 .chk (28 < 64) <|
 .chk (29 < 64) <|
 .chk (30 < 64) <|
 .chk (31 < 64) <|
 .chk (32 < 64) <|
 .chk (33 < 64) <|
 .chk (34 < 64) <|
 .chk (35 < 64) <|
 .chk (36 < 64) <|
 .chk (37 < 64) <|
 .chk (38 < 64) <|
 .chk (39 < 64) <|
 .chk (40 < 64) <|
 .chk (41 < 64) <|
 .chk (42 < 64) <|
 .chk (43 < 64) <|
 .chk (44 < 64) <|
 .chk (45 < 64) <|
 .chk (46 < 64) <|
 .chk (47 < 64) <|
 .chk (48 < 64) <|
 .chk (49 < 64) <|
 .chk (50 < 64) <|
 .chk (51 < 64) <|
 .chk (52 < 64) <|
 .chk (53 < 64) <|
 .chk (54 < 64) <|
 .chk (55 < 64) <|
 .chk (56 < 64) <|
 .chk (57 < 64) <|
 .chk (58 < 64) <|
 .chk (59 < 64) <|
 .chk (60 < 64) <|
 .chk (61 < 64) <|
 .chk (62 < 64) <|
 .chk (63 < 64) <|
 .ret ()
def qq6:Option (Unit):=(que).run some
def qF_:List (Nat×qA):=[]
def qtS:Ent:=smF ⟨113,[],[],[],[]⟩ [] (Unit) (fun x=>qq6) cs1 fun _=>qF8
theorem qD6:zg Tryz.prog (qtS):=
 zf (H:=qE9) (L:=qL (qF_)) (ts:=[]) (T:=fun x=>que) 0 qJ_ (qBB 0) (qo (by kernel_rfl) trivial) (rg0 (by kernel_rfl)) fun x=>by kernel_rfl
noncomputable def qLu:Code:=Tryz.f145.body.getD .skip
theorem qK3:FnF Tryz.prog 145 Tryz.f145 qLu:=⟨qj,by kernel_rfl,by kernel_rfl,by kernel_rfl⟩
def qiU:TH:={ live:=[(0,[0,1]),(1,[0,5]),(2,[4])] }
def qiE (N:Nat):List Ent:=[]
theorem qgH (N:Nat):qT Tryz.prog (qiE N):=trivial
def qiX (z:Int):TV×THp:=(.tv (.i .u32) z,[])
def Xg (a0:Int) (a1:Int):Tree (Int):=
 .chk (0≤(qiF .u64 (IntKind.u64.wrap a1) 31)) <|
 let w1:Int:=qes .u32 a0 (min (qiF .u64 (IntKind.u64.wrap a1) 31).toNat 32)
 let w2:Int:=qQ5 .u64 ((32:Int)) (qiF .u64 (IntKind.u64.wrap a1) 31)
 .chk (0≤w2) <|
 .ret (uOr .u32 w1 (Q1 a0 (min w2.toNat 32)))
def Wp (a0:Int) (a1:Int):Option (Int):=(Xg a0 a1).run some
def qjn:List (Nat×qA):=[]
def qaP:Ent:=smF ⟨145,[],[.x (.i .u32),.x (.i .i64)],[],[]⟩ [(.i .u32),(.i .i64)] (Int) (fun x=>Wp x.1 x.2.1) cs1 fun _=>qiX
theorem qhv:zg Tryz.prog (qaP):=
 zf (H:=qiU) (L:=qL (qjn)) (ts:=[(.i .u32),(.i .i64)]) (T:=fun x=>Xg x.1 x.2.1) 0 qK3 (qgH 0) (qo (by kernel_rfl) trivial) (rg0 (by kernel_rfl)) fun x=>by kernel_rfl
noncomputable def qJY:Code:=Tryz.f136.body.getD .skip
theorem qJR:FnF Tryz.prog 136 Tryz.f136 qJY:=⟨qj,by kernel_rfl,by kernel_rfl,by kernel_rfl⟩
def qEY:TH:={ live:=[(0,[0,1]),(1,[4])] }
def qF5 (N:Nat):List Ent:=[qaP]
theorem qBl (N:Nat):qT Tryz.prog (qF5 N):=⟨qhv,trivial⟩
def qFS (z:Int):TV×THp:=(.tv (.i .u32) z,[])
def qkM (a0:Int) (a1:Int):Tree (Int):=
 .chk (qt (0 - a1)) <|
 .bind (Wp a0 (0 - a1)) fun r1=>
 .ret r1
def jh (a0:Int) (a1:Int):Option (Int):=(qkM a0 a1).run some
def qFs:List (Nat×qA):=[]
def qkI:Ent:=smF ⟨136,[],[.x (.i .u32),.x (.i .i64)],[],[]⟩ [(.i .u32),(.i .i64)] (Int) (fun x=>jh x.1 x.2.1) cs1 fun _=>qFS
theorem qqj:zg Tryz.prog (qkI):=
 zf (H:=qEY) (L:=qL (qFs)) (ts:=[(.i .u32),(.i .i64)]) (T:=fun x=>qkM x.1 x.2.1) 0 qJR (qBl 0) (qo (by kernel_rfl) trivial) (rg0 (by kernel_rfl)) fun x=>by kernel_rfl
noncomputable def qp5:Code:=Tryz.f135.body.getD .skip
theorem qKR:FnF Tryz.prog 135 Tryz.f135 qp5:=⟨qj,by kernel_rfl,by kernel_rfl,by kernel_rfl⟩
def qeX:TH:={ live:=[(0,[0,2]),(1,[0,2,3]),(2,[0,2,3,7]),(3,[0,2,3,7,8]),(4,[0,2,3,4,7]),(5,[0,2,3,4,7,11]),(6,[0,2,3,7]),(7,[0,2,3,4,5,6,7]),(8,[0,2,3,7]),(9,[0,2,3,7]),(10,[2])] }
def qma (N:Nat):List Ent:=[qkI]
theorem qje (N:Nat):qT Tryz.prog (qma N):=⟨qqj,trivial⟩
abbrev WN:=Vector UInt32 64×List UInt8
abbrev Z3:=Vector UInt32 64×Int×Bool
def VI (f:WN) (y:Z3):Ex×TSt:=(.exit 0,⟨0,86,[],[(0,.tv .bl f.2),(2,.p 20 [] 0),(3,.p 30 [] 0),(7,xi y.2.1),(8,xb y.2.2)],[(20,.cell false (.tv (.wa 64) f.1)),(30,.cell false (.tv (.wa 64) (y.1:Vector UInt32 64)))],false,[]⟩)
def qtE (N:Nat):List (Nat×qA):=[]
abbrev VD:=Vector UInt32 64×Int
def qgV:SP:=⟨0,86,[],[(0,.x .bl),(2,.k (.p 20 [] 0)),(3,.k (.p 30 [] 0)),(7,.x (.i .i64))],[(20,.cell false (.x (.wa 64))),(30,.cell false (.x (.wa 64)))],false,[]⟩
def qsP (f:WN) (v:VD):TSt:=zC qgV [dv (.wa 64) f.1,dv (.wa 64) v.1,dv .bl f.2,dv (.i .i64) v.2]
def QM (N:Nat) (o_3:Vector UInt32 64) (s0_3:List UInt8) (v:VD):Tree (VD⊕Z3):=
 .cond (decide (v.2 < ((64:Int)))) (
 .cond (decide (v.2 < ((16:Int)))) (
 .chk (qt (((4:Int)) * v.2)) <|
 .bind (zk s0_3 (((4:Int)) * v.2)) fun e1=>
 let w2:Int:=IntKind.u32.wrap ((e1.toNat:Nat):Int)
 .chk (0≤(24:Int)) <|
 .chk (qt (((4:Int)) * v.2)) <|
 .chk (qt ((((4:Int)) * v.2) + 1)) <|
 .bind (zk s0_3 ((((4:Int)) * v.2) + 1)) fun e3=>
 let w4:Int:=IntKind.u32.wrap ((e3.toNat:Nat):Int)
 .chk (0≤(16:Int)) <|
 let w5:Int:=uOr .u32 (qes .u32 w2 24) (qes .u32 w4 16)
 .chk (qt (((4:Int)) * v.2)) <|
 .chk (qt ((((4:Int)) * v.2) + 2)) <|
 .bind (zk s0_3 ((((4:Int)) * v.2) + 2)) fun e6=>
 let w7:Int:=IntKind.u32.wrap ((e6.toNat:Nat):Int)
 .chk (0≤(8:Int)) <|
 .chk (qt (((4:Int)) * v.2)) <|
 .chk (qt ((((4:Int)) * v.2) + 3)) <|
 .bind (zk s0_3 ((((4:Int)) * v.2) + 3)) fun e8=>
 let w9:Int:=IntKind.u32.wrap ((e8.toNat:Nat):Int)
 let w10:Int:=uOr .u32 (uOr .u32 w5 (qes .u32 w7 8)) w9
 .chk (0≤v.2∧v.2 < ((64:Nat):Int)) <|
 .chk (inW w10) <|
 .chk (v.2.toNat < 64) <|
 .chk (qt (v.2 + 1)) <|
 .ret (.inl (v.1.setIfInBounds v.2.toNat (UInt32.ofNat w10.toNat),v.2 + 1))) <|
 .chk (qt (v.2 - 15)) <|
 .chk (0≤(v.2 - 15)∧(v.2 - 15) < ((64:Nat):Int)) <|
 .chk ((v.2 - 15).toNat < 64) <|
 .chk (qt (v.2 - 2)) <|
 .chk (0≤(v.2 - 2)∧(v.2 - 2) < ((64:Nat):Int)) <|
 .chk ((v.2 - 2).toNat < 64) <|
 .chk (qt (v.2 - 16)) <|
 .chk (0≤(v.2 - 16)∧(v.2 - 16) < ((64:Nat):Int)) <|
 .chk ((v.2 - 16).toNat < 64) <|
 .chk (qt (v.2 - 7)) <|
 .chk (0≤(v.2 - 7)∧(v.2 - 7) < ((64:Nat):Int)) <|
 .chk ((v.2 - 7).toNat < 64) <|
 let w1:Int:=Wv .u32 (((v.1.toList.getD ((v.2 - 16).toNat) 0).toNat:Nat):Int) (((v.1.toList.getD ((v.2 - 7).toNat) 0).toNat:Nat):Int)
 .bind (jh (((v.1.toList.getD ((v.2 - 15).toNat) 0).toNat:Nat):Int) 7) fun r2=>
 .bind (jh (((v.1.toList.getD ((v.2 - 15).toNat) 0).toNat:Nat):Int) 18) fun r3=>
 .chk (0≤(3:Int)) <|
 let w4:Int:=Q1 (((v.1.toList.getD ((v.2 - 15).toNat) 0).toNat:Nat):Int) 3
 let w5:Int:=Wv .u32 w1 (qc2 .u32 (qc2 .u32 r2 r3) w4)
 .bind (jh (((v.1.toList.getD ((v.2 - 2).toNat) 0).toNat:Nat):Int) 17) fun r6=>
 .bind (jh (((v.1.toList.getD ((v.2 - 2).toNat) 0).toNat:Nat):Int) 19) fun r7=>
 .chk (0≤(10:Int)) <|
 let w8:Int:=Q1 (((v.1.toList.getD ((v.2 - 2).toNat) 0).toNat:Nat):Int) 10
 let w9:Int:=Wv .u32 w5 (qc2 .u32 (qc2 .u32 r6 r7) w8)
 .chk (0≤v.2∧v.2 < ((64:Nat):Int)) <|
 .chk (inW w9) <|
 .chk (v.2.toNat < 64) <|
 .chk (qt (v.2 + 1)) <|
 .ret (.inl (v.1.setIfInBounds v.2.toNat (UInt32.ofNat w9.toNat),v.2 + 1))) <|
 .ret (.inr (v.1,v.2,decide (v.2 < ((64:Int)))))
def qg8 (N n:Nat) (f:WN) (v:VD):Option Z3:=qY (QM N f.1 f.2) some n v
theorem qsK (N:Nat) (f:WN) (n:Nat) (v:VD) (y:Z3) (h:qg8 N n f v=some y):LG Tryz.prog qeX 135 (qM qp5 3) (qsP f v) (VI f y):=
 zo qj (E:=qma N) (L:=qL (qtE N)) (st:=VI f) (g:=some) (R:=VI f) (qje N) (qo (by kernel_rfl) trivial) (rg0 (by kernel_rfl)) (fun v=>by kernel_rfl) (q0 (st:=VI f) fun y=>by rfl) n v y h
def qdw (N:Nat) (o_3:Vector UInt32 64) (s0_3:List UInt8) (o_3_2:Vector UInt32 64) (s7_3:Int):Option Z3:=qg8 N N (o_3,s0_3) (o_3_2,s7_3)
def qg9 (N:Nat):qA:=smL qgV [(.wa 64),(.wa 64),.bl,(.i .i64)] Z3 (fun x=>qdw N x.1 x.2.2.1 x.2.1 x.2.2.2.1) cs1 fun x=>VI (x.1,x.2.2.1)
theorem qrM (N:Nat):jq Tryz.prog qeX 135 (qM qp5 3) (qg9 N):=zA fun x z h=>qsK N (x.1,x.2.2.1) N (x.2.1,x.2.2.2.1) z h
def qyZ (z:Vector UInt32 64):TV×THp:=(.tv (.wa 64) z,[])
def qfd (N:Nat) (a0:List UInt8):Tree (Vector UInt32 64):=
 .bind (qdw N ((Vector.replicate 64 0)) a0 ((Vector.replicate 64 0)) 0) fun z1=>
 .ret z1.1
def qez (N:Nat) (a0:List UInt8):Option (Vector UInt32 64):=(qfd N a0).run some
def qyM (N:Nat):List (Nat×qA):=[(3,qg9 N)]
def qmG (N:Nat):Ent:=smF ⟨135,[],[.x .bl],[],[]⟩ [.bl] (Vector UInt32 64) (fun x=>qez N x.1) cs1 fun _=>qyZ
theorem qwc (N:Nat):zg Tryz.prog (qmG N):=
 zf (H:=qeX) (L:=qL (qyM N)) (ts:=[.bl]) (T:=fun x=>qfd N x.1) 0 qKR (qje N) (qo (by kernel_rfl) ⟨qrM N,trivial⟩) (rg0 (by kernel_rfl)) fun x=>by kernel_rfl
noncomputable def qgd:Code:=Tryz.f114.body.getD .skip
theorem qKD:FnF Tryz.prog 114 Tryz.f114 qgd:=⟨qj,by kernel_rfl,by kernel_rfl,by kernel_rfl⟩
def Xi:TH:={ live:=[(0,[0,2,6]),(1,[0,2,6,7]),(2,[0,2,6,7,19]),(3,[0,2,6,7,19,20]),(4,[0,2,6,7,8,19]),(5,[0,2,6,7,8,9,10,19]),(6,[0,2,6,7,9,11,19]),(7,[0,2,6,7,11,12,19]),(8,[0,2,6,7,11,12,19]),(9,[0,2,6,7,11,19]),(10,[0,2,6,7,19]),(11,[0,2,6,7,19]),(12,[0,7,95]),(13,[0,7,95,96]),(14,[0,7,13,95]),(15,[0,7,95]),(16,[0,7,95])] }
def qcY (N:Nat):List Ent:=[qmG N,qkI]
theorem qaa (N:Nat):qT Tryz.prog (qcY N):=⟨qwc N,qqj,trivial⟩
abbrev Xz:=Vector UInt32 8×Vector UInt32 64×Vector UInt32 64
abbrev QU:=Vector UInt32 8×Int×Bool
def Jq (f:Xz) (y:QU):Ex×TSt:=(.exit 0,⟨1,110,[50,60],[(0,.p 50 [] 0),(2,.p 60 [] 0),(6,.p 100060 [] 0),(7,.p 100070 [] 0),(19,xi y.2.1),(20,xb y.2.2)],[(50,.cell false (.tv (.wa 8) f.1)),(60,.cell false (.tv (.wa 64) f.2.1)),(100060,.cell false (.tv (.wa 64) f.2.2)),(100070,.cell false (.tv (.wa 8) (y.1:Vector UInt32 8)))],false,[]⟩)
def qpE (N:Nat):List (Nat×qA):=[]
abbrev Jp:=Vector UInt32 8×Int
def qeQ:SP:=⟨1,110,[50,60],[(0,.k (.p 50 [] 0)),(2,.k (.p 60 [] 0)),(6,.k (.p 100060 [] 0)),(7,.k (.p 100070 [] 0)),(19,.x (.i .i64))],[(50,.cell false (.x (.wa 8))),(60,.cell false (.x (.wa 64))),(100060,.cell false (.x (.wa 64))),(100070,.cell false (.x (.wa 8)))],false,[]⟩
def qpF (f:Xz) (v:Jp):TSt:=zC qeQ [dv (.wa 8) f.1,dv (.wa 64) f.2.1,dv (.wa 64) f.2.2,dv (.wa 8) v.1,dv (.i .i64) v.2]
def Jn (N:Nat) (o_3:Vector UInt32 8) (o_3_2:Vector UInt32 64) (o_3_3:Vector UInt32 64) (v:Jp):Tree (Jp⊕QU):=
 .cond (decide (v.2 < ((64:Int)))) (
 .chk (0≤(0:Int)∧(0:Int) < ((8:Nat):Int)) <|
 .chk (0 < 8) <|
 .chk (0≤(4:Int)∧(4:Int) < ((8:Nat):Int)) <|
 .chk (4 < 8) <|
 .chk (0≤(7:Int)∧(7:Int) < ((8:Nat):Int)) <|
 .chk (7 < 8) <|
 .bind (jh (((v.1.toList.getD 4 0).toNat:Nat):Int) 6) fun r1=>
 .bind (jh (((v.1.toList.getD 4 0).toNat:Nat):Int) 11) fun r2=>
 .bind (jh (((v.1.toList.getD 4 0).toNat:Nat):Int) 25) fun r3=>
 let w4:Int:=Wv .u32 (((v.1.toList.getD 7 0).toNat:Nat):Int) (qc2 .u32 (qc2 .u32 r1 r2) r3)
 .chk (0≤(5:Int)∧(5:Int) < ((8:Nat):Int)) <|
 .chk (5 < 8) <|
 let w5:Int:=qiF .u32 (((v.1.toList.getD 4 0).toNat:Nat):Int) (((v.1.toList.getD 5 0).toNat:Nat):Int)
 let w6:Int:=qc2 .u32 (4294967295) (((v.1.toList.getD 4 0).toNat:Nat):Int)
 .chk (0≤(6:Int)∧(6:Int) < ((8:Nat):Int)) <|
 .chk (6 < 8) <|
 let w7:Int:=qiF .u32 w6 (((v.1.toList.getD 6 0).toNat:Nat):Int)
 .chk (0≤v.2∧v.2 < ((64:Nat):Int)) <|
 .chk (v.2.toNat < 64) <|
 let w8:Int:=Wv .u32 (Wv .u32 w4 (qc2 .u32 w5 w7)) (((o_3_2.toList.getD v.2.toNat 0).toNat:Nat):Int)
 .chk (0≤v.2∧v.2 < ((64:Nat):Int)) <|
 .chk (v.2.toNat < 64) <|
 let w9:Int:=Wv .u32 w8 (((o_3_3.toList.getD v.2.toNat 0).toNat:Nat):Int)
 .bind (jh (((v.1.toList.getD 0 0).toNat:Nat):Int) 2) fun r10=>
 .bind (jh (((v.1.toList.getD 0 0).toNat:Nat):Int) 13) fun r11=>
 .bind (jh (((v.1.toList.getD 0 0).toNat:Nat):Int) 22) fun r12=>
 .chk (0≤(1:Int)∧(1:Int) < ((8:Nat):Int)) <|
 .chk (1 < 8) <|
 let w13:Int:=qiF .u32 (((v.1.toList.getD 0 0).toNat:Nat):Int) (((v.1.toList.getD 1 0).toNat:Nat):Int)
 .chk (0≤(2:Int)∧(2:Int) < ((8:Nat):Int)) <|
 .chk (2 < 8) <|
 let w14:Int:=qiF .u32 (((v.1.toList.getD 0 0).toNat:Nat):Int) (((v.1.toList.getD 2 0).toNat:Nat):Int)
 .chk (0≤(1:Int)∧(1:Int) < ((8:Nat):Int)) <|
 .chk (1 < 8) <|
 .chk (0≤(2:Int)∧(2:Int) < ((8:Nat):Int)) <|
 .chk (2 < 8) <|
 let w15:Int:=qiF .u32 (((v.1.toList.getD 1 0).toNat:Nat):Int) (((v.1.toList.getD 2 0).toNat:Nat):Int)
 let w16:Int:=Wv .u32 (qc2 .u32 (qc2 .u32 r10 r11) r12) (qc2 .u32 (qc2 .u32 w13 w14) w15)
 .chk (0≤(0:Int)∧(0:Int) < ((8:Nat):Int)) <|
 .chk (inW (Wv .u32 w9 w16)) <|
 .chk (0 < 8) <|
 .chk (0≤(4:Int)∧(4:Int) < ((8:Nat):Int)) <|
 .chk (4 < 8) <|
 let w17:Int:=Wv .u32 (((((Kf v.1 1 7).setIfInBounds 0 (UInt32.ofNat (Wv .u32 w9 w16).toNat)).toList.getD 4 0).toNat:Nat):Int) w9
 .chk (0≤(4:Int)∧(4:Int) < ((8:Nat):Int)) <|
 .chk (inW w17) <|
 .chk (4 < 8) <|
 .chk (qt (v.2 + 1)) <|
 .ret (.inl (((Kf v.1 1 7).setIfInBounds 0 (UInt32.ofNat (Wv .u32 w9 w16).toNat)).setIfInBounds 4 (UInt32.ofNat w17.toNat),v.2 + 1))) <|
 .ret (.inr (v.1,v.2,decide (v.2 < ((64:Int)))))
def qeO (N n:Nat) (f:Xz) (v:Jp):Option QU:=qY (Jn N f.1 f.2.1 f.2.2) some n v
theorem qpt (N:Nat) (f:Xz) (n:Nat) (v:Jp) (y:QU) (h:qeO N n f v=some y):LG Tryz.prog Xi 114 (qM qgd 3) (qpF f v) (Jq f y):=
 zo qj (E:=qcY N) (L:=qL (qpE N)) (st:=Jq f) (g:=some) (R:=Jq f) (qaa N) (qo (by kernel_rfl) trivial) (rg0 (by kernel_rfl)) (fun v=>by kernel_rfl) (q0 (st:=Jq f) fun y=>by rfl) n v y h
def qbW (N:Nat) (o_3:Vector UInt32 8) (o_3_2:Vector UInt32 64) (o_3_3:Vector UInt32 64) (o_3_4:Vector UInt32 8) (s19_3:Int):Option QU:=qeO N N (o_3,o_3_2,o_3_3) (o_3_4,s19_3)
def qeS (N:Nat):qA:=smL qeQ [(.wa 8),(.wa 64),(.wa 64),(.wa 8),(.i .i64)] QU (fun x=>qbW N x.1 x.2.1 x.2.2.1 x.2.2.2.1 x.2.2.2.2.1) cs1 fun x=>Jq (x.1,x.2.1,x.2.2.1)
theorem qnb (N:Nat):jq Tryz.prog Xi 114 (qM qgd 3) (qeS N):=zA fun x z h=>qpt N (x.1,x.2.1,x.2.2.1) N (x.2.2.2.1,x.2.2.2.2.1) z h
abbrev VS:=Vector UInt32 64×Vector UInt32 8
abbrev Qy:=Vector UInt32 8×Int×Bool
def ZN (f:VS) (y:Qy):Ex×TSt:=(.exit 2,⟨1,110,[50,60],[(0,.p 50 [] 0),(7,.p 100070 [] 0),(95,xi y.2.1),(96,xb y.2.2)],[(50,.cell false (.tv (.wa 8) (y.1:Vector UInt32 8))),(60,.cell false (.tv (.wa 64) f.1)),(100070,.cell false (.tv (.wa 8) f.2))],false,[]⟩)
def qoM (N:Nat):List (Nat×qA):=[]
abbrev ZX:=Vector UInt32 8×Int
def qdN:SP:=⟨1,110,[50,60],[(0,.k (.p 50 [] 0)),(7,.k (.p 100070 [] 0)),(95,.x (.i .i64))],[(50,.cell false (.x (.wa 8))),(60,.cell false (.x (.wa 64))),(100070,.cell false (.x (.wa 8)))],false,[]⟩
def qou (f:VS) (v:ZX):TSt:=zC qdN [dv (.wa 8) v.1,dv (.wa 64) f.1,dv (.wa 8) f.2,dv (.i .i64) v.2]
def VY (N:Nat) (o_13_2:Vector UInt32 64) (o_13_3:Vector UInt32 8) (v:ZX):Tree (ZX⊕Qy):=
 .cond (decide (v.2 < ((8:Int)))) (
 .chk (0≤v.2∧v.2 < ((8:Nat):Int)) <|
 .chk (v.2.toNat < 8) <|
 .chk (0≤v.2∧v.2 < ((8:Nat):Int)) <|
 .chk (v.2.toNat < 8) <|
 let w1:Int:=Wv .u32 (((v.1.toList.getD v.2.toNat 0).toNat:Nat):Int) (((o_13_3.toList.getD v.2.toNat 0).toNat:Nat):Int)
 .chk (0≤v.2∧v.2 < ((8:Nat):Int)) <|
 .chk (inW w1) <|
 .chk (v.2.toNat < 8) <|
 .chk (qt (v.2 + 1)) <|
 .ret (.inl (v.1.setIfInBounds v.2.toNat (UInt32.ofNat w1.toNat),v.2 + 1))) <|
 .ret (.inr (v.1,v.2,decide (v.2 < ((8:Int)))))
def qeo (N n:Nat) (f:VS) (v:ZX):Option Qy:=qY (VY N f.1 f.2) some n v
theorem qn3 (N:Nat) (f:VS) (n:Nat) (v:ZX) (y:Qy) (h:qeo N n f v=some y):LG Tryz.prog Xi 114 (qM qgd 13) (qou f v) (ZN f y):=
 zo qj (E:=qcY N) (L:=qL (qoM N)) (st:=ZN f) (g:=some) (R:=ZN f) (qaa N) (qo (by kernel_rfl) trivial) (rg0 (by kernel_rfl)) (fun v=>by kernel_rfl) (q0 (st:=ZN f) fun y=>by rfl) n v y h
def qaB (N:Nat) (o_13_2:Vector UInt32 64) (o_13_3:Vector UInt32 8) (o_13:Vector UInt32 8) (s95_13:Int):Option Qy:=qeo N N (o_13_2,o_13_3) (o_13,s95_13)
def qd5 (N:Nat):qA:=smL qdN [(.wa 8),(.wa 64),(.wa 8),(.i .i64)] Qy (fun x=>qaB N x.2.1 x.2.2.1 x.1 x.2.2.2.1) cs1 fun x=>ZN (x.2.1,x.2.2.1)
theorem qmx (N:Nat):jq Tryz.prog Xi 114 (qM qgd 13) (qd5 N):=zA fun x z h=>qn3 N (x.2.1,x.2.2.1) N (x.1,x.2.2.2.1) z h
def qu2 (a1:Vector UInt32 64) (z:Vector UInt32 8):TV×THp:=(.tup [],[(50,.cell false (.tv (.wa 8) z)),(60,.cell false (.tv (.wa 64) a1))])
def qc0 (N:Nat) (a0:Vector UInt32 8) (a1:Vector UInt32 64) (a2:List UInt8):Tree (Vector UInt32 8):=
 .bind (qez N a2) fun r1=>
 .bind (qbW N a0 a1 r1 a0 0) fun z2=>
 .bind (qaB N a1 z2.1 a0 0) fun z3=>
 .ret z3.1
def W2 (N:Nat) (a0:Vector UInt32 8) (a1:Vector UInt32 64) (a2:List UInt8):Option (Vector UInt32 8):=(qc0 N a0 a1 a2).run some
def qu8 (N:Nat):List (Nat×qA):=[(3,qeS N),(13,qd5 N)]
def qiQ (N:Nat):Ent:=smF ⟨114,[],[.k (.p 50 [] 0),.x .bl,.k (.p 60 [] 0)],[],[(50,.cell false (.x (.wa 8))),(60,.cell false (.x (.wa 64)))]⟩ [(.wa 8),(.wa 64),.bl] (Vector UInt32 8) (fun x=>W2 N x.1 x.2.1 x.2.2.1) cs1 fun x=>qu2 x.2.1
theorem qsJ (N:Nat):zg Tryz.prog (qiQ N):=
 zf (H:=Xi) (L:=qL (qu8 N)) (ts:=[(.wa 8),(.wa 64),.bl]) (T:=fun x=>qc0 N x.1 x.2.1 x.2.2.1) 0 qKD (qaa N) (qo (by kernel_rfl) ⟨qnb N,qmx N,trivial⟩) (rg0 (by kernel_rfl)) fun x=>by kernel_rfl
noncomputable def Wl:Code:=Tryz.f85.body.getD .skip
theorem qNq:FnF Tryz.prog 85 Tryz.f85 Wl:=⟨qj,by kernel_rfl,by kernel_rfl,by kernel_rfl⟩
def V3:TH:={ live:=[(0,[0,2]),(1,[0,2,3]),(2,[0,2,3,16]),(3,[0,2,3]),(4,[0,2,3,20]),(5,[0,2,3,20,21]),(6,[0,2,3,4,20]),(7,[0,2,3,20]),(8,[0,2,3,20]),(9,[2,3,5,6]),(10,[2,3,5,6,40]),(11,[2,3,5,6]),(12,[2,3,5,6]),(13,[2,5,7]),(14,[2,5,7,46]),(15,[2,5,7,46,47]),(16,[2,5,7,8,46]),(17,[2,5,7,46]),(18,[2,5,7,46]),(19,[2])],fresh:=[10] }
def qdl (N:Nat):List Ent:=[qml,qt2,qtS,qiQ N]
theorem KG (N:Nat):qT Tryz.prog (qdl N):=⟨qxE,qEb,qD6,qsJ N,trivial⟩
abbrev qek:=Vector UInt8 32×List UInt8
abbrev W_:=List UInt8×Bool
def qaY (f:qek) (y:W_):Ex×TSt:=(.exit 0,⟨0,63,[],[(0,.tv .bl f.2),(2,.p 20 [] 0),(3,.v 100050 y.1.length),(16,xb y.2)],[(20,.cell false (.tv (.ba 32) f.1)),(100050,.vec false 1 .bl (y.1:List UInt8))],false,[]⟩)
def qDb (N:Nat):List (Nat×qA):=[]
abbrev qaK:=List UInt8
def qp8:SP:=⟨0,63,[],[(0,.x .bl),(2,.k (.p 20 [] 0)),(3,.vs 100050)],[(20,.cell false (.x (.ba 32))),(100050,.vec false 1)],false,[]⟩
def qCD (f:qek) (v:qaK):TSt:=zC qp8 [dv .bl v,dv (.ba 32) f.1,dv .bl f.2]
def qaL (N:Nat) (o_2_2:Vector UInt8 32) (s0_2:List UInt8) (v:qaK):Tree (qaK⊕W_):=
 .chk ((64:Int)≠0) <|
 .cond (!decide ((((v.length:Nat):Int).tmod 64)=56)) (
 .chk (jx v.length v.length ((v++[(UInt8.ofNat 0)]).length) 1) <|
 .ret (.inl (v++[(UInt8.ofNat 0)]))) <|
 .ret (.inr (v,!decide ((((v.length:Nat):Int).tmod 64)=56)))
def qqW (N n:Nat) (f:qek) (v:qaK):Option W_:=qY (qaL N f.1 f.2) some n v
theorem qCb (N:Nat) (f:qek) (n:Nat) (v:qaK) (y:W_) (h:qqW N n f v=some y):LG Tryz.prog V3 85 (qM Wl 2) (qCD f v) (qaY f y):=
 zo qj (E:=qdl N) (L:=qL (qDb N)) (st:=qaY f) (g:=some) (R:=qaY f) (KG N) (qo (by kernel_rfl) trivial) (rg0 (by kernel_rfl)) (fun v=>by kernel_rfl) (q0 (st:=qaY f) fun y=>by rfl) n v y h
def qhE (N:Nat) (o_2_2:Vector UInt8 32) (s0_2:List UInt8) (o_2:List UInt8):Option W_:=qqW N N (o_2_2,s0_2) o_2
def qqE (N:Nat):qA:=smL qp8 [.bl,(.ba 32),.bl] W_ (fun x=>qhE N x.2.1 x.2.2.1 x.1) cs1 fun x=>qaY (x.2.1,x.2.2.1)
theorem qBE (N:Nat):jq Tryz.prog V3 85 (qM Wl 2) (qqE N):=zA fun x z h=>qCb N (x.2.1,x.2.2.1) N x.1 z h
abbrev qed:=Vector UInt8 32×List UInt8
abbrev W4:=List UInt8×Int×Bool
def qaC (f:qed) (y:W4):Ex×TSt:=(.exit 2,⟨0,63,[],[(0,.tv .bl f.2),(2,.p 20 [] 0),(3,.v 100050 y.1.length),(20,xi y.2.1),(21,xb y.2.2)],[(20,.cell false (.tv (.ba 32) f.1)),(100050,.vec false 1 .bl (y.1:List UInt8))],false,[]⟩)
def qDO (N:Nat):List (Nat×qA):=[]
abbrev qaR:=List UInt8×Int
def qrG:SP:=⟨0,63,[],[(0,.x .bl),(2,.k (.p 20 [] 0)),(3,.vs 100050),(20,.x (.i .i64))],[(20,.cell false (.x (.ba 32))),(100050,.vec false 1)],false,[]⟩
def qCE (f:qed) (v:qaR):TSt:=zC qrG [dv .bl v.1,dv (.ba 32) f.1,dv .bl f.2,dv (.i .i64) v.2]
def qeh (N:Nat) (o_5_2:Vector UInt8 32) (s0_5:List UInt8) (v:qaR):Tree (qaR⊕W4):=
 .cond (decide (v.2 < ((8:Int)))) (
 let w1:Int:=IntKind.u64.wrap ((s0_5.length:Nat):Int)
 .chk (qt (((7:Int)) - v.2)) <|
 .chk (qt (((8:Int)) * (((7:Int)) - v.2))) <|
 .chk (0≤(((8:Int)) * (((7:Int)) - v.2))) <|
 let w2:Int:=Q1 (qP8 .u64 w1 8) (min (((8:Int)) * (((7:Int)) - v.2)).toNat 64)
 .chk (inB (IntKind.u8.wrap w2)) <|
 .chk (jx v.1.length v.1.length ((v.1++[UInt8.ofNat (IntKind.u8.wrap w2).toNat]).length) 1) <|
 .chk (qt (v.2 + 1)) <|
 .ret (.inl (v.1++[UInt8.ofNat (IntKind.u8.wrap w2).toNat],v.2 + 1))) <|
 .ret (.inr (v.1,v.2,decide (v.2 < ((8:Int)))))
def qr5 (N n:Nat) (f:qed) (v:qaR):Option W4:=qY (qeh N f.1 f.2) some n v
theorem qDS (N:Nat) (f:qed) (n:Nat) (v:qaR) (y:W4) (h:qr5 N n f v=some y):LG Tryz.prog V3 85 (qM Wl 5) (qCE f v) (qaC f y):=
 zo qj (E:=qdl N) (L:=qL (qDO N)) (st:=qaC f) (g:=some) (R:=qaC f) (KG N) (qo (by kernel_rfl) trivial) (rg0 (by kernel_rfl)) (fun v=>by kernel_rfl) (q0 (st:=qaC f) fun y=>by rfl) n v y h
def qn8 (N:Nat) (o_5_2:Vector UInt8 32) (s0_5:List UInt8) (o_5:List UInt8) (s20_5:Int):Option W4:=qr5 N N (o_5_2,s0_5) (o_5,s20_5)
def qrT (N:Nat):qA:=smL qrG [.bl,(.ba 32),.bl,(.i .i64)] W4 (fun x=>qn8 N x.2.1 x.2.2.1 x.1 x.2.2.2.1) cs1 fun x=>qaC (x.2.1,x.2.2.1)
theorem qA0 (N:Nat):jq Tryz.prog V3 85 (qM Wl 5) (qrT N):=zA fun x z h=>qDS N (x.2.1,x.2.2.1) N (x.1,x.2.2.2.1) z h
abbrev Za:=List UInt8×Vector UInt8 32×Vector UInt32 8×Vector UInt32 64
abbrev Qt:=Unit⊕(Vector UInt32 8×List UInt8×Bool)
def Q9 (f:Za):Qt→Ex×TSt
 | .inl y=>(.exit 4,⟨0,63,[],[(2,.p 20 [] 0),(3,.v 100050 f.1.length),(5,.p 50 [] 0),(6,.p 60 [] 0),(40,xb (decide (((0:Int)) < ((f.1.length:Nat):Int))))],[(20,.cell false (.tv (.ba 32) f.2.1)),(50,.cell false (.tv (.wa 8) f.2.2.1)),(60,.cell false (.tv (.wa 64) f.2.2.2)),(100050,.vec false 1 .bl f.1)],false,[]⟩)
 | .inr y=>(.exit 4,⟨0,63,[],[(2,.p 20 [] 0),(3,.tv .bl (y.2.1:List UInt8)),(5,.p 50 [] 0),(6,.p 60 [] 0),(40,xb y.2.2)],[(20,.cell false (.tv (.ba 32) f.2.1)),(50,.cell false (.tv (.wa 8) (y.1:Vector UInt32 8))),(60,.cell false (.tv (.wa 64) f.2.2.2))],false,[]⟩)
def qpb (N:Nat):List (Nat×qA):=[]
abbrev Jz:=Vector UInt32 8×List UInt8
def qvK:SP:=⟨0,63,[],[(2,.k (.p 20 [] 0)),(3,.x .bl),(5,.k (.p 50 [] 0)),(6,.k (.p 60 [] 0))],[(20,.cell false (.x (.ba 32))),(50,.cell false (.x (.wa 8))),(60,.cell false (.x (.wa 64)))],false,[]⟩
def qik (f:Za) (v:Jz):TSt:=zC qvK [dv (.ba 32) f.2.1,dv (.wa 8) v.1,dv (.wa 64) f.2.2.2,dv .bl v.2]
def YQ (N:Nat) (o_10:List UInt8) (o_10_2:Vector UInt8 32) (o_10_3:Vector UInt32 8) (o_10_4:Vector UInt32 64) (v:Jz):Tree (Jz⊕Qt):=
 .cond (decide (((0:Int)) < ((v.2.length:Nat):Int))) (
 .chk (0≤(0:Int)∧(0:Int)≤(64:Int)∧(64:Int)≤((v.2.length:Nat):Int)) <|
 .bind (W2 N v.1 o_10_4 ((v.2.take 64).drop 0)) fun r1=>
 .chk (0≤(64:Int)∧(64:Int)≤((v.2.length:Nat):Int)) <|
 .ret (.inl (r1,v.2.drop 64))) <|
 .ret (.inr (.inr ((v.1,v.2,decide (((0:Int)) < ((v.2.length:Nat):Int))))))
def qh7 (N n:Nat) (f:Za) (v:Jz):Option Qt:=qY (YQ N f.1 f.2.1 f.2.2.1 f.2.2.2) some n v
theorem qvd (N:Nat) (f:Za) (n:Nat) (v:Jz) (y:Qt) (h:qh7 N n f v=some y):LG Tryz.prog V3 85 (qM Wl 10) (qik f v) (Q9 f y):=
 zo qj (E:=qdl N) (L:=qL (qpb N)) (st:=Q9 f) (g:=some) (R:=Q9 f) (KG N) (qo (by kernel_rfl) trivial) (rg0 (by kernel_rfl)) (fun v=>by kernel_rfl) (q0 (st:=Q9 f) fun y=>by rcases y with _ | _<;>rfl) n v y h
abbrev Ko:=Unit
def qo9:SP:=⟨0,63,[],[(2,.k (.p 20 [] 0)),(3,.vs 100050),(5,.k (.p 50 [] 0)),(6,.k (.p 60 [] 0))],[(20,.cell false (.x (.ba 32))),(50,.cell false (.x (.wa 8))),(60,.cell false (.x (.wa 64))),(100050,.vec false 1)],false,[]⟩
def qA8 (f:Za) (v:Ko):TSt:=zC qo9 [dv .bl f.1,dv (.ba 32) f.2.1,dv (.wa 8) f.2.2.1,dv (.wa 64) f.2.2.2]
abbrev qgt:=Jz⊕Qt
def qcE (N:Nat) (o_10:List UInt8) (o_10_2:Vector UInt8 32) (o_10_3:Vector UInt32 8) (o_10_4:Vector UInt32 64) (v:Ko):Tree (Ko⊕qgt):=
 .cond (decide (((0:Int)) < ((o_10.length:Nat):Int))) (
 .chk (0≤(0:Int)∧(0:Int)≤(64:Int)∧(64:Int)≤((o_10.length:Nat):Int)) <|
 .chk (o_10.length=o_10.length) <|
 .bind (W2 N o_10_3 o_10_4 ((o_10.take 64).drop 0)) fun r1=>
 .chk (0≤(64:Int)∧(64:Int)≤((o_10.length:Nat):Int)) <|
 .chk (o_10.length=o_10.length) <|
 .ret (.inr (.inl (r1,o_10.drop 64)))) <|
 .ret (.inr (.inr ((.inl ()))))
def qgE (N n:Nat) (f:Za):qgt→Option Qt
 | .inl w=>qh7 N n f w
 | .inr w=>some w
def qAL (f:Za):qgt→Ex×TSt
 | .inl w=>(.normal,qik f w)
 | .inr w=>Q9 f w
def qpo (N n:Nat) (f:Za) (v:Ko):Option Qt:=qY (qcE N f.1 f.2.1 f.2.2.1 f.2.2.2) (qgE N n f) n v
theorem qAZ (N:Nat) (f:Za) (n:Nat) (v:Ko) (y:Qt) (h:qpo N n f v=some y):LG Tryz.prog V3 85 (qM Wl 10) (qA8 f v) (Q9 f y):=
 zo qj (E:=qdl N) (L:=qL (qpb N)) (st:=qAL f) (g:=(qgE N n f)) (R:=Q9 f) (KG N) (qo (by kernel_rfl) trivial) (rg0 (by kernel_rfl)) (fun v=>by kernel_rfl) (fun w y h=>by
 rcases w with w | w
 ·exact qvd N f n w y h
 ·exact q0 (st:=Q9 f) (fun y=>by rcases y with _ | _<;>rfl) w y h
) n v y h
def qcn (N:Nat) (o_10:List UInt8) (o_10_2:Vector UInt8 32) (o_10_3:Vector UInt32 8) (o_10_4:Vector UInt32 64):Option Qt:=qpo N N (o_10,o_10_2,o_10_3,o_10_4) ()
def qo1 (N:Nat):qA:=smL qo9 [.bl,(.ba 32),(.wa 8),(.wa 64)] Qt (fun x=>qcn N x.1 x.2.1 x.2.2.1 x.2.2.2.1) (csS cs1) fun x=>Q9 (x.1,x.2.1,x.2.2.1,x.2.2.2.1)
theorem qzi (N:Nat):jq Tryz.prog V3 85 (qM Wl 10) (qo1 N):=zA fun x z h=>qAZ N (x.1,x.2.1,x.2.2.1,x.2.2.2.1) N () z h
abbrev qcw:=Vector UInt8 32×Vector UInt32 8
abbrev XI:=Vector UInt8 32×Int×Bool
def Kp (f:qcw) (y:XI):Ex×TSt:=(.exit 6,⟨0,63,[],[(2,.p 20 [] 0),(5,.p 50 [] 0),(7,.p 70 [] 0),(46,xi y.2.1),(47,xb y.2.2)],[(20,.cell false (.tv (.ba 32) f.1)),(50,.cell false (.tv (.wa 8) f.2)),(70,.cell false (.tv (.ba 32) (y.1:Vector UInt8 32)))],false,[]⟩)
def qAV (N:Nat):List (Nat×qA):=[]
abbrev Kt:=Vector UInt8 32×Int
def qoX:SP:=⟨0,63,[],[(2,.k (.p 20 [] 0)),(5,.k (.p 50 [] 0)),(7,.k (.p 70 [] 0)),(46,.x (.i .i64))],[(20,.cell false (.x (.ba 32))),(50,.cell false (.x (.wa 8))),(70,.cell false (.x (.ba 32)))],false,[]⟩
def qBw (f:qcw) (v:Kt):TSt:=zC qoX [dv (.ba 32) f.1,dv (.wa 8) f.2,dv (.ba 32) v.1,dv (.i .i64) v.2]
def qcI (N:Nat) (o_15:Vector UInt8 32) (o_15_2:Vector UInt32 8) (v:Kt):Tree (Kt⊕XI):=
 .cond (decide (v.2 < ((32:Int)))) (
 .chk ((4:Int)≠0) <|
 .chk (qt (v.2.tdiv 4)) <|
 .chk (0≤(v.2.tdiv 4)∧(v.2.tdiv 4) < ((8:Nat):Int)) <|
 .chk ((v.2.tdiv 4).toNat < 8) <|
 .chk ((4:Int)≠0) <|
 .chk (qt (((8:Int)) * (v.2.tmod 4))) <|
 .chk (qt (((24:Int)) - (((8:Int)) * (v.2.tmod 4)))) <|
 .chk (0≤(((24:Int)) - (((8:Int)) * (v.2.tmod 4)))) <|
 let w1:Int:=Q1 (((o_15_2.toList.getD ((v.2.tdiv 4).toNat) 0).toNat:Nat):Int) (min (((24:Int)) - (((8:Int)) * (v.2.tmod 4))).toNat 32)
 .chk (0≤v.2∧v.2 < ((32:Nat):Int)) <|
 .chk (inB (IntKind.u8.wrap w1)) <|
 .chk (v.2.toNat < 32) <|
 .chk (qt (v.2 + 1)) <|
 .ret (.inl (v.1.setIfInBounds v.2.toNat (UInt8.ofNat (IntKind.u8.wrap w1).toNat),v.2 + 1))) <|
 .ret (.inr (v.1,v.2,decide (v.2 < ((32:Int)))))
def qpj (N n:Nat) (f:qcw) (v:Kt):Option XI:=qY (qcI N f.1 f.2) some n v
theorem qAC (N:Nat) (f:qcw) (n:Nat) (v:Kt) (y:XI) (h:qpj N n f v=some y):LG Tryz.prog V3 85 (qM Wl 15) (qBw f v) (Kp f y):=
 zo qj (E:=qdl N) (L:=qL (qAV N)) (st:=Kp f) (g:=some) (R:=Kp f) (KG N) (qo (by kernel_rfl) trivial) (rg0 (by kernel_rfl)) (fun v=>by kernel_rfl) (q0 (st:=Kp f) fun y=>by rfl) n v y h
def qfy (N:Nat) (o_15:Vector UInt8 32) (o_15_2:Vector UInt32 8) (o_15_3:Vector UInt8 32) (s46_15:Int):Option XI:=qpj N N (o_15,o_15_2) (o_15_3,s46_15)
def qo8 (N:Nat):qA:=smL qoX [(.ba 32),(.wa 8),(.ba 32),(.i .i64)] XI (fun x=>qfy N x.1 x.2.1 x.2.2.1 x.2.2.2.1) cs1 fun x=>Kp (x.1,x.2.1)
theorem qzH (N:Nat):jq Tryz.prog V3 85 (qM Wl 15) (qo8 N):=zA fun x z h=>qAC N (x.1,x.2.1) N (x.2.2.1,x.2.2.2.1) z h
def qrI (z:Vector UInt8 32):TV×THp:=(.tv (.ba 32) z,[])
def qqr (N:Nat) (a0:List UInt8):Tree (Vector UInt8 32):=
 .bind (W7 a0) fun r1=>
 .chk (jx (((([]:List UInt8))++a0).length) (((([]:List UInt8))++a0).length) ((((([]:List UInt8))++a0)++[(UInt8.ofNat 128)]).length) 1) <|
 .bind (zO [((((([]:List UInt8))++a0)++[(UInt8.ofNat 128)]).length,(((([]:List UInt8))++a0)++[(UInt8.ofNat 128)]).length)] (qhE N ((Vector.replicate 32 0)) a0 (((([]:List UInt8))++a0)++[(UInt8.ofNat 128)]))) fun z2=>
 .bind (zO [(z2.1.length,z2.1.length)] (qn8 N ((Vector.replicate 32 0)) a0 z2.1 0)) fun z3=>
 .bind (qqd) fun r4=>
 .bind (qq6) fun r5=>
 .bind (zO [(z3.1.length,z3.1.length)] (qcn N z3.1 ((Vector.replicate 32 0)) ((((((((((Vector.replicate 8 0)).setIfInBounds 0 ((UInt32.ofNat 1779033703))).setIfInBounds 1 ((UInt32.ofNat 3144134277))).setIfInBounds 2 ((UInt32.ofNat 1013904242))).setIfInBounds 3 ((UInt32.ofNat 2773480762))).setIfInBounds 4 ((UInt32.ofNat 1359893119))).setIfInBounds 5 ((UInt32.ofNat 2600822924))).setIfInBounds 6 ((UInt32.ofNat 528734635))).setIfInBounds 7 ((UInt32.ofNat 1541459225))) ((((((((((((((((((((((((((((((((((((((((((((((((((((((((((((((((((Vector.replicate 64 0)).setIfInBounds 0 ((UInt32.ofNat 1116352408))).setIfInBounds 1 ((UInt32.ofNat 1899447441))).setIfInBounds 2 ((UInt32.ofNat 3049323471))).setIfInBounds 3 ((UInt32.ofNat 3921009573))).setIfInBounds 4 ((UInt32.ofNat 961987163))).setIfInBounds 5 ((UInt32.ofNat 1508970993))).setIfInBounds 6 ((UInt32.ofNat 2453635748))).setIfInBounds 7 ((UInt32.ofNat 2870763221))).setIfInBounds 8 ((UInt32.ofNat 3624381080))).setIfInBounds 9 ((UInt32.ofNat 310598401))).setIfInBounds 10 ((UInt32.ofNat 607225278))).setIfInBounds 11 ((UInt32.ofNat 1426881987))).setIfInBounds 12 ((UInt32.ofNat 1925078388))).setIfInBounds 13 ((UInt32.ofNat 2162078206))).setIfInBounds 14 ((UInt32.ofNat 2614888103))).setIfInBounds 15 ((UInt32.ofNat 3248222580))).setIfInBounds 16 ((UInt32.ofNat 3835390401))).setIfInBounds 17 ((UInt32.ofNat 4022224774))).setIfInBounds 18 ((UInt32.ofNat 264347078))).setIfInBounds 19 ((UInt32.ofNat 604807628))).setIfInBounds 20 ((UInt32.ofNat 770255983))).setIfInBounds 21 ((UInt32.ofNat 1249150122))).setIfInBounds 22 ((UInt32.ofNat 1555081692))).setIfInBounds 23 ((UInt32.ofNat 1996064986))).setIfInBounds 24 ((UInt32.ofNat 2554220882))).setIfInBounds 25 ((UInt32.ofNat 2821834349))).setIfInBounds 26 ((UInt32.ofNat 2952996808))).setIfInBounds 27 ((UInt32.ofNat 3210313671))).setIfInBounds 28 ((UInt32.ofNat 3336571891))).setIfInBounds 29 ((UInt32.ofNat 3584528711))).setIfInBounds 30 ((UInt32.ofNat 113926993))).setIfInBounds 31 ((UInt32.ofNat 338241895))).setIfInBounds 32 ((UInt32.ofNat 666307205))).setIfInBounds 33 ((UInt32.ofNat 773529912))).setIfInBounds 34 ((UInt32.ofNat 1294757372))).setIfInBounds 35 ((UInt32.ofNat 1396182291))).setIfInBounds 36 ((UInt32.ofNat 1695183700))).setIfInBounds 37 ((UInt32.ofNat 1986661051))).setIfInBounds 38 ((UInt32.ofNat 2177026350))).setIfInBounds 39 ((UInt32.ofNat 2456956037))).setIfInBounds 40 ((UInt32.ofNat 2730485921))).setIfInBounds 41 ((UInt32.ofNat 2820302411))).setIfInBounds 42 ((UInt32.ofNat 3259730800))).setIfInBounds 43 ((UInt32.ofNat 3345764771))).setIfInBounds 44 ((UInt32.ofNat 3516065817))).setIfInBounds 45 ((UInt32.ofNat 3600352804))).setIfInBounds 46 ((UInt32.ofNat 4094571909))).setIfInBounds 47 ((UInt32.ofNat 275423344))).setIfInBounds 48 ((UInt32.ofNat 430227734))).setIfInBounds 49 ((UInt32.ofNat 506948616))).setIfInBounds 50 ((UInt32.ofNat 659060556))).setIfInBounds 51 ((UInt32.ofNat 883997877))).setIfInBounds 52 ((UInt32.ofNat 958139571))).setIfInBounds 53 ((UInt32.ofNat 1322822218))).setIfInBounds 54 ((UInt32.ofNat 1537002063))).setIfInBounds 55 ((UInt32.ofNat 1747873779))).setIfInBounds 56 ((UInt32.ofNat 1955562222))).setIfInBounds 57 ((UInt32.ofNat 2024104815))).setIfInBounds 58 ((UInt32.ofNat 2227730452))).setIfInBounds 59 ((UInt32.ofNat 2361852424))).setIfInBounds 60 ((UInt32.ofNat 2428436474))).setIfInBounds 61 ((UInt32.ofNat 2756734187))).setIfInBounds 62 ((UInt32.ofNat 3204031479))).setIfInBounds 63 ((UInt32.ofNat 3329325298))))) fun z6=>
 .sum z6 (fun z7=>
 .bind (qfy N ((Vector.replicate 32 0)) ((((((((((Vector.replicate 8 0)).setIfInBounds 0 ((UInt32.ofNat 1779033703))).setIfInBounds 1 ((UInt32.ofNat 3144134277))).setIfInBounds 2 ((UInt32.ofNat 1013904242))).setIfInBounds 3 ((UInt32.ofNat 2773480762))).setIfInBounds 4 ((UInt32.ofNat 1359893119))).setIfInBounds 5 ((UInt32.ofNat 2600822924))).setIfInBounds 6 ((UInt32.ofNat 528734635))).setIfInBounds 7 ((UInt32.ofNat 1541459225))) ((Vector.replicate 32 0)) 0) fun z8=>
 .ret z8.1) fun z7=>
 .bind (qfy N ((Vector.replicate 32 0)) z7.1 ((Vector.replicate 32 0)) 0) fun z8=>
 .ret z8.1
def W6 (N:Nat) (a0:List UInt8):Option (Vector UInt8 32):=(qqr N a0).run some
def qKP (N:Nat):List (Nat×qA):=[(2,qqE N),(5,qrT N),(10,qo1 N),(15,qo8 N)]
def qqQ (N:Nat):Ent:=smF ⟨85,[],[.x .bl],[],[]⟩ [.bl] (Vector UInt8 32) (fun x=>W6 N x.1) cs1 fun _=>qrI
theorem qEU (N:Nat):YM Tryz.prog ⟨85,[],[.x .bl],[],[]⟩ [.bl] (fun x=>qqr N x.1) (fun _=>qrI):=
 Xm (H:=V3) (L:=qL (qKP N)) 0 qNq (KG N) (qo (by kernel_rfl) ⟨qBE N,qA0 N,qzi N,qzH N,trivial⟩) (rg0 (by kernel_rfl)) fun x=>by kernel_rfl
theorem qne (N:Nat):zg Tryz.prog (qqQ N):=qfY (qEU N)
end Go.Rx
end
set_option maxRecDepth 100000
noncomputable section
namespace Go.Rx
open Go.Proofs
def dg0:Vector UInt8 32:=#v[110,52,11,156,255,179,122,152,156,165,68,230,187,120,10,44,120,144,29,63,179,55,56,118,133,17,163,6,23,175,160,29]
theorem qRm:W6 300 [0]=some dg0:=by kernel_rfl
def dg1:Vector UInt8 32:=#v[45,113,22,66,183,38,176,68,1,98,124,169,251,172,50,245,200,83,15,177,144,60,196,219,2,37,135,23,146,26,72,129]
theorem qQ8:W6 300 [120]=some dg1:=by kernel_rfl
def dg2:Vector UInt8 32:=#v[217,234,19,0,182,245,117,92,168,138,178,15,28,158,218,100,105,227,235,245,218,173,131,66,21,81,99,85,79,134,92,199]
theorem qRf:W6 300 [1,7,0,0,0,0,0,0,0,0,0,0,0,0,0,0,0,0,1,2,9,1,120]=some dg2:=by kernel_rfl
def qQk:List (List UInt8×Vector UInt8 32):=[([0],dg0),([120],dg1),([1,7,0,0,0,0,0,0,0,0,0,0,0,0,0,0,0,0,1,2,9,1,120],dg2)]
theorem qOV:qIA (W6 300) qQk:=⟨qRm,qQ8,qRf,trivial⟩
def qCL:Ent:=smF ⟨85,[],[.x .bl],[],[]⟩ [.bl] (Vector UInt8 32) (fun x=>qDL qQk x.1) cs1 fun _=>qrI
theorem qPn:zg Tryz.prog qCL:=qQd (qne 300) fun x z h=>qG5 qOV x.1 z h
end Go.Rx
end
set_option maxRecDepth 100000
noncomputable section
namespace Go.Rx
open Go.Proofs
def qPq:List (Nat×TH):=[(9,{ live:=[(1,[1]),(2,[1,3]),(3,[1,3,5]),(4,[1,3,5,7]),(5,[1,3,5,7,46]),(6,[0]),(7,[1,3,5,7,8,9]),(8,[0])],dec:=[34,39,57,62,74],rd:=[(1,[1]),(2,[3]),(3,[5]),(7,[8])] }),
 (13,{ live:=[(0,[2,3,4]),(1,[2,3,4,6]),(2,[2,3,4,6,39]),(3,[4,5]),(4,[2,4,47,48,49]),(5,[2,4,47,48,49,50]),(6,[2,4,8,47,48,49]),(7,[2,4,8,47,48,49,54]),(8,[2,4,9,10,47,48,49]),(9,[2,4,9,10,47,48,49,64]),(10,[4,5]),(11,[2,4,47,48,49]),(12,[2,4,47,48,49]),(13,[4,5])],dec:=[19,23,29,34],rd:=[(1,[6]),(6,[8]),(8,[9])] }),
 (16,{ live:=[(0,[2,3]),(1,[2,3,14]),(2,[4]),(3,[2,3,5]),(4,[5,17]),(5,[5,6]),(6,[5,6,21]),(8,[4])],dec:=[10],fresh:=[17],rd:=[(5,[6])] }),
 (20,{ live:=[(0,[3,4,5,6]),(1,[3,4,9]),(2,[8])],rd:=[(1,[9])] }),
 (21,{ live:=[(0,[1,2]),(1,[1,2,13]),(2,[2,3]),(3,[1,2,4]),(4,[2,4,19,20,21]),(5,[2,4,19,20,21,22]),(6,[2,4,6,19,20,21]),(7,[2,4,6,7,19,20,21]),(8,[2,4,7,19,20,21,31,32,33]),(9,[2,4,7,19,20,21,31,32,33,34]),(10,[2,4,7,9,19,20,21,31,32,33]),(11,[2,4,7,9,10,19,20,21,31,32,33]),(12,[2,4,7,19,20,21,31,32,33]),(13,[2,4,7,19,20,21,31,32,33]),(14,[2,4,19,20,21]),(15,[2,4,19,20,21]),(16,[2,3])],rd:=[(6,[6]),(10,[9])] }),
 (22,{ live:=[(0,[2,3,4]),(1,[2,3,4,22]),(2,[4,5]),(3,[2,3,4,6]),(4,[2,3,4,6,7]),(5,[4,6,7,30,31,32]),(6,[4,6,7,30,31,32,33]),(7,[4,6,7,9,30,31,32]),(8,[4,6,7,9,10,11,30,31,32]),(9,[4,6,7,9,10,30,31,32,44]),(10,[4,6,7,9,30,31,32]),(11,[4,6,7,30,31,32]),(12,[4,6,7,30,31,32]),(13,[4,6,7,30,31,32]),(14,[4,6,7,67]),(15,[4,5]),(16,[4,6,7]),(17,[4,6,7,12]),(18,[4,6,12,71,72,73]),(19,[4,6,12,71,72,73,74]),(20,[4,6,12,14,71,72,73]),(21,[4,6,12,71,72,73]),(22,[4,6,12,71,72,73]),(23,[4,5])],dec:=[18],rd:=[(7,[9]),(8,[10]),(20,[14])] }),
 (24,{ live:=[(0,[2,3]),(1,[4])] }),
 (25,{ live:=[(0,[1]),(1,[1,6,7,8]),(2,[1,6,7,8,9]),(3,[1,3,4,6,7,8]),(4,[1,6,7,8,32]),(5,[2]),(6,[1,6,7,8]),(7,[2])],dec:=[16,19],rd:=[(3,[4])] }),
 (26,{ live:=[(0,[2,3,4]),(1,[2,4,6]),(2,[2,4,6,12]),(3,[4,5]),(4,[4,5])] }),
 (28,{ live:=[(0,[2,3]),(1,[4])],dec:=[8] }),
 (32,{ live:=[(0,[3,5,6,7,9,10]),(1,[3,5,6,7,9,10,27]),(2,[10,11]),(3,[10,11])],dec:=[15,19,23] }),
 (33,{ live:=[(0,[1]),(1,[2])],dec:=[7] }),
 (34,{ live:=[(0,[1]),(1,[2])],dec:=[6,10,15,20] }),
 (35,{ live:=[(0,[1]),(1,[1,21]),(2,[2]),(3,[1,23,24,25]),(4,[1,23,24,25,26]),(5,[1,3,4,23,24,25]),(6,[1,4,5,23,24,25]),(7,[1,23,24,25,74]),(8,[2]),(9,[1,23,24,25]),(10,[2])],dec:=[10,15,32,37,40,55,60,66],rd:=[(5,[4])] }),
 (40,{ live:=[(0,[1]),(1,[1,6,7,8]),(2,[1,6,7,8,9]),(3,[1,3,4,6,7,8]),(4,[1,6,7,8,32]),(5,[2]),(6,[1,6,7,8]),(7,[2])],dec:=[16,19],rd:=[(3,[4])] }),
 (41,{ live:=[(0,[2,3]),(1,[4])],esc:=true }),
 (49,{ live:=[(0,[3,4,5]),(1,[3,4,7]),(2,[3,4,7,12]),(3,[6]),(4,[3,4,7,19]),(5,[6]),(6,[3,4,7,22]),(7,[6]),(8,[6])] }),
 (50,{ live:=[(0,[1,2]),(1,[2,3]),(2,[2])] }),
 (51,{ live:=[(0,[0,2]),(1,[2])] }),
 (52,{ live:=[(0,[0]),(1,[0,6]),(2,[2]),(3,[0,3]),(4,[0,3,9]),(5,[0,3]),(6,[0,3]),(7,[2])] }),
 (53,{ live:=[(0,[0]),(1,[0,3]),(2,[0,3,9,10,11]),(3,[0,3,9,10,11,12]),(4,[0,3,5,9,10,11]),(5,[0,3,9,10,11]),(6,[0,3,9,10,11,20]),(7,[0,3,9,10,11]),(8,[0,3,9,10,11]),(9,[0,6]),(10,[6,25,26,27]),(11,[6,25,26,27,28]),(12,[6,8,25,26,27]),(13,[6,25,26,27]),(14,[6,25,26,27]),(15,[2])],raw:=[87],fresh:=[24] }),
 (54,{ live:=[(0,[1,2]),(1,[1,2]),(2,[2])] }),
 (55,{ live:=[(0,[2,3,4]),(1,[2,3,4,23]),(2,[4,5]),(3,[2,3,4,6]),(4,[2,3,4,6]),(5,[2,3,4,6]),(6,[4,6,7]),(7,[4,7,43]),(8,[7,8]),(10,[4,5])],dec:=[12,17],fresh:=[43],rd:=[(8,[8])] }),
 (56,{ live:=[(0,[0,1,4])] }),
 (57,{ live:=[(0,[2,3]),(1,[4])] }),
 (58,{ live:=[(0,[0,1,2]),(1,[0,1,2,14]),(2,[6]),(3,[1,2,15,16,17]),(4,[1,2,15,16,17,18]),(5,[1,2,7,8,15,16,17]),(6,[1,2,8,9,15,16,17]),(7,[1,2,15,16,17,30]),(8,[6]),(9,[1,2,15,16,17]),(10,[6])],rd:=[(5,[8]),(6,[9])] }),
 (59,{ live:=[(0,[2,3]),(1,[4])],dec:=[10,17] }),
 (60,{ live:=[(0,[2,3]),(1,[4])],dec:=[8] }),
 (61,{ live:=[(0,[0,1]),(1,[0,1,7,8]),(2,[0,1,7,8,9]),(3,[0,1,5,7,8]),(4,[0,1,5,7,8,16]),(5,[4]),(6,[0,1,7,8]),(7,[4])] }),
 (62,{ live:=[(0,[1,2]),(1,[3])] }),
 (63,{ live:=[(0,[1,2]),(1,[1,2]),(2,[1,2,10,11]),(3,[1,2,10,11,12]),(4,[1,2,3,10,11]),(5,[1,2,10,11]),(6,[1,2,10,11]),(7,[2])],fresh:=[6] }),
 (64,{ live:=[(0,[0,1]),(1,[0,1,7,8]),(2,[0,1,7,8,9]),(3,[0,1,5,7,8]),(4,[0,1,5,7,8,16]),(5,[4]),(6,[0,1,7,8]),(7,[4])] }),
 (66,{ live:=[(0,[0]),(1,[0,3]),(2,[3,6,7,8]),(3,[3,6,7,8,9]),(4,[3,5,6,7,8]),(5,[3,5,6,7,8,14]),(6,[2]),(7,[3,6,7,8]),(8,[2])] }),
 (67,{ live:=[(0,[0,1]),(1,[0,1,5]),(2,[0,1,5,6]),(3,[0,1,6,11]),(4,[12]),(5,[4]),(6,[4]),(7,[0,1,13]),(8,[4]),(9,[0,1,16]),(10,[4]),(11,[19]),(12,[4]),(13,[4])] }),
 (72,{ live:=[(0,[1,2,3,6]),(1,[2,3,6,8,9]),(2,[2,3,6,8,9,18]),(3,[6,7]),(4,[6,7])],rd:=[(1,[8])] }),
 (73,{ live:=[(0,[1,2,3,4,5]),(1,[5])] }),
 (74,{ live:=[(0,[1]),(1,[2])],dec:=[7,12] }),
 (78,{ live:=[(0,[1]),(1,[1,6,7,8]),(2,[1,6,7,8,9]),(3,[1,3,4,6,7,8]),(4,[1,6,7,8,33]),(5,[2]),(6,[1,6,7,8]),(7,[2])],dec:=[18,21,38,43],rd:=[(3,[4])] }),
 (79,{ live:=[(0,[0,2,12,13,14]),(1,[0,2,12,13,14,15]),(2,[0,2,5,12,13,14]),(3,[0,2,5,6,12,13,14]),(4,[0,2,5,6,8,12,13,14]),(5,[0,2,5,6,8,12,13,14,32]),(6,[0,2,5,6,8,12,13,14]),(7,[0,2,6,8,12,13,14,37,38,39]),(8,[0,2,6,8,12,13,14,37,38,39,40]),(9,[0,2,6,8,10,12,13,14,37,38,39]),(10,[0,2,6,8,10,12,13,14,37,38,39,48]),(11,[0,2,6,8,12,13,14,37,38,39]),(12,[0,2,6,8,12,13,14,37,38,39]),(13,[0,2,12,13,14,59]),(14,[0,2,12,13,14])],fresh:=[58],rd:=[(2,[5]),(3,[6]),(9,[10])] }),
 (82,{ live:=[(0,[1,2]),(1,[3])] }),
 (83,{ live:=[(0,[2,3]),(1,[4])],dec:=[8] }),
 (84,{ live:=[(0,[1]),(1,[1,15]),(2,[2,3]),(3,[1,4]),(4,[4,22,23,24]),(5,[4,22,23,24,25]),(6,[4,6,22,23,24]),(7,[4,6,7,22,23,24]),(8,[4,6,22,23,24]),(9,[4,22,23,24,47,48,49]),(10,[4,22,23,24,47,48,49,50]),(11,[4,10,22,23,24,47,48,49]),(12,[4,10,11,22,23,24,47,48,49]),(13,[4,22,23,24,47,48,49]),(14,[4,22,23,24,47,48,49]),(15,[4,22,23,24]),(16,[2,3])],fresh:=[20],esc:=true,rd:=[(6,[6]),(11,[10])] }),
 (85,{ live:=[(0,[0,2]),(1,[0,2,3]),(2,[0,2,3,16]),(3,[0,2,3]),(4,[0,2,3,20]),(5,[0,2,3,20,21]),(6,[0,2,3,4,20]),(7,[0,2,3,20]),(8,[0,2,3,20]),(9,[2,3,5,6]),(10,[2,3,5,6,40]),(11,[2,3,5,6]),(12,[2,3,5,6]),(13,[2,5,7]),(14,[2,5,7,46]),(15,[2,5,7,46,47]),(16,[2,5,7,8,46]),(17,[2,5,7,46]),(18,[2,5,7,46]),(19,[2])],fresh:=[10] }),
 (86,{ live:=[(0,[0,2]),(1,[2])] }),
 (87,{ live:=[(0,[0,1]),(1,[0,1,6]),(2,[0,1]),(3,[0,1]),(4,[0,1,16]),(5,[0]),(6,[4])],esc:=true,nil:=[(5,[⟨.sl 0,900000870,(.sl 19 (.ag [(.ba 16),(.ag [(.i .i64),(.i .i64)]),(.sl 4 (.ag [(.i .i64),(.ag [(.ag [(.i .i64),(.i .i64)]),.s])]))]))⟩])] }),
 (88,{ live:=[(0,[0]),(1,[0,4]),(2,[2]),(3,[2])],vecs:=[5],esc:=true }),
 (89,{ live:=[(0,[0,3]),(1,[0,9,10,11]),(2,[0,9,10,11,12]),(3,[0,5,9,10,11]),(4,[0,5,6,7,9,10,11]),(5,[0,5,6,9,10,11,22]),(6,[0,9,10,11]),(7,[0,9,10,11]),(8,[0,9,10,11])],rd:=[(3,[5]),(4,[6])] }),
 (90,{ live:=[(0,[2,3,4]),(1,[2,3,4,7]),(2,[4]),(3,[4])] }),
 (91,{ live:=[(0,[2,3]),(1,[4])],esc:=true }),
 (92,{ live:=[(0,[0,1,2,3,4,10]),(1,[0,1,2,3,4,10,11]),(2,[0,1,2,3,4,10,11,12]),(3,[0,1,2,3,4,10,11,12,25]),(5,[0,1,2,3,4,10,11,12,32]),(7,[0,1,2,3,4,10,11,12,39]),(8,[0,1,2,3,4,10,11,12]),(9,[0,1,2,3,4,10,11,12]),(10,[0,1,2,3,4,10,11,12,13,14]),(11,[0,1,2,3,4,10,11,12,13,14,56]),(12,[0,1,2,3,4,10,11,12,13]),(13,[0,1,2,3,4,10,11,12,13]),(14,[0,1,2,3,4,10,11,12,13,14]),(15,[0,1,2,3,4,10,11,12,13,75]),(16,[0,1,2,3,4,10,11,12,13,80]),(17,[0,1,2,3,4,10,11,12,13,97]),(18,[0,2,3,4,10,11,15]),(19,[0,1,2,3,4,10,11]),(20,[0,1,2,3,4,12,16,17]),(21,[0,1,2,3,4,11,12,16]),(22,[0,1,2,3,4,11,12,16,18,19]),(23,[0,1,2,3,4,11,16,18,19,20]),(24,[0,1,2,3,4,11,16,18,19,20,125]),(25,[0,1,2,3,4,10,11,16]),(26,[0,2,3,4,10,11,16]),(27,[0,1,2,3,4,10,11]),(28,[0,1,2,3,4,10,11,16]),(29,[0,1,3,4,10,11,16]),(30,[0,1,2,3,4,10,11])],dec:=[69,72,83] }),
 (93,{ live:=[(0,[0]),(1,[2]),(2,[2])] }),
 (94,{ live:=[(0,[0,1]),(1,[4])] }),
 (95,{ live:=[(0,[0,1]),(1,[0,1,10]),(2,[4]),(3,[0,1,12,13]),(4,[0,1,12,13,14]),(5,[0,1,5,12,13]),(6,[0,1,12,13,24]),(7,[4]),(8,[0,1,12,13]),(9,[4])] }),
 (96,{ live:=[(0,[0]),(1,[0,4]),(2,[2]),(3,[2])],vecs:=[5],esc:=true }),
 (97,{ live:=[(0,[0]),(1,[0,4]),(2,[2]),(3,[2])],vecs:=[5],esc:=true }),
 (98,{ live:=[(0,[0]),(1,[2])] }),
 (99,{ live:=[(0,[1,2,4]),(1,[1,2,4,6]),(2,[1,4,6,12]),(3,[1,4,6,12]),(4,[4,6,12]),(5,[4,5]),(6,[4,6,21]),(7,[4,5]),(8,[4,5])],rd:=[(1,[6])] }),
 (100,{ live:=[(0,[1,2]),(1,[1,2,3]),(2,[2,3,9,10,11]),(3,[2,3,9,10,11,12]),(4,[2,3,5,9,10,11]),(5,[2,3,5,9,10,11]),(6,[2,3,9,10,11,20,21,22]),(7,[2,3,9,10,11,20,21,22,23]),(8,[2,3,7,9,10,11,20,21,22]),(9,[2,3,9,10,11,20,21,22]),(10,[2,3,9,10,11,20,21,22]),(11,[2,3,9,10,11]),(12,[2])],rd:=[(4,[5]),(8,[7])] }),
 (103,{ live:=[(0,[2,3]),(1,[4])],dec:=[8,13,18,23,32,37] }),
 (108,{ live:=[(0,[0]),(1,[0,3]),(2,[0,3,4]),(3,[0,3,4,10,11]),(4,[0,3,4,10,11,12]),(5,[0,3,4,5,10,11]),(6,[0,3,4,10,11]),(7,[0,3,4,10,11]),(8,[4]),(9,[2])],esc:=true }),
 (109,{ live:=[(0,[1]),(1,[1,6]),(2,[2,3]),(3,[2,3])],fresh:=[15],esc:=true }),
 (110,{ live:=[(0,[1]),(1,[1,8]),(2,[2,3]),(3,[1,4]),(4,[2,3])],fresh:=[12],esc:=true }),
 (111,{ live:=[(0,[0]),(1,[0,4]),(2,[2]),(3,[2])],vecs:=[5],esc:=true }),
 (112,{ live:=[(0,[0]),(1,[0])] }),
 (113,{ live:=[(0,[0]),(1,[0])] }),
 (114,{ live:=[(0,[0,2,6]),(1,[0,2,6,7]),(2,[0,2,6,7,19]),(3,[0,2,6,7,19,20]),(4,[0,2,6,7,8,19]),(5,[0,2,6,7,8,9,10,19]),(6,[0,2,6,7,9,11,19]),(7,[0,2,6,7,11,12,19]),(8,[0,2,6,7,11,12,19]),(9,[0,2,6,7,11,19]),(10,[0,2,6,7,19]),(11,[0,2,6,7,19]),(12,[0,7,95]),(13,[0,7,95,96]),(14,[0,7,13,95]),(15,[0,7,95]),(16,[0,7,95])],rd:=[(0,[6])] }),
 (115,{ live:=[(0,[0]),(1,[0,3,4]),(2,[0,3,4,7,8]),(3,[0,3,4,7,8,9]),(4,[0,3,4,5,7,8]),(5,[0,3,4,7,8]),(6,[0,3,4,7,8]),(7,[0,3,4,7,8]),(8,[2])] }),
 (116,{ live:=[(0,[2,3,4]),(1,[2,3,4,7]),(2,[4]),(3,[4])] }),
 (117,{ live:=[(0,[0,1,2,7]),(1,[0,1,2,7,8]),(2,[0,1,2,4,7]),(3,[0,1,2,4,5,6,7]),(4,[0,1,2,7,30]),(5,[0,1,2,7])],dec:=[17,23],rd:=[(3,[5])] }),
 (118,{ live:=[(0,[0,1,2,3,8]),(1,[0,1,2,3,8,14]),(2,[0,1,2,3,8]),(3,[0,1,2,3,8,9]),(4,[0,1,2,3,8,9,34]),(5,[0,1,2,3,8,9]),(6,[0,1,2,3,8,9])],dec:=[21] }),
 (119,{ live:=[(0,[0,1,2,3,8]),(1,[0,1,2,3,8,9]),(2,[0,3,8,9,10]),(3,[0,3,8,9,10,11]),(4,[0,3,8,9,10,11,21]),(5,[0,3,8,9,10,11]),(6,[0,3,8,9,10,11]),(7,[0,3,8,9,12]),(8,[0,3,8,9,12,33]),(9,[0,3,8,9,12]),(10,[0,3,8,9,12]),(11,[0,3,8,9,12])] }),
 (120,{ live:=[(0,[0,1,8]),(1,[0,1,8,17]),(2,[0,1,8,9]),(3,[0,1,8,9,10]),(4,[0,1,8,9,10,11]),(5,[0,1,8,9,10,11,35]),(6,[0,1,8,9,10,11]),(7,[0,1,8,9,10,11,12]),(8,[0,1,8,9,10,11,12,45]),(9,[0,1,8,9,10,11,12]),(10,[0,1,8,9,10,11])] }),
 (121,{ live:=[(0,[0,1,2,3]),(1,[0,1,3,10]),(2,[0,1,3,10,11]),(3,[0,1,3,10,11,12]),(4,[0,1,3,10,11,12,13]),(5,[0,3,10,11,12,13,14]),(6,[0,3,10,11,12,13,14,34]),(7,[0,3,11,12,13,14,36]),(8,[0,3,11,12,13,14]),(9,[0,3,11,12,13,14]),(10,[0,3,11,12,13,14]),(11,[11,13]),(12,[13,55]),(13,[8,9]),(14,[13,55,57]),(15,[8,9]),(16,[13,60]),(17,[8,9])] }),
 (122,{ live:=[(0,[0,2,8]),(1,[0,8,9]),(2,[0,8,9,15]),(3,[0,8,9]),(4,[0,8,9]),(5,[0,8,9])] }),
 (123,{ live:=[(0,[0,1,2,3]),(1,[0,1,2,3,9]),(2,[0,1,2,3,9,10]),(3,[0,1,2,3,9,10,16]),(4,[0,1,2,3,9,10]),(5,[0,1,2,3,9,10,36]),(6,[0,1,2,3,9,10]),(7,[0,1,2,3,9,10,41]),(8,[8]),(9,[0,1,2,3,9,10,45]),(10,[8]),(11,[0,1,2,3,9,10]),(12,[0,1,2,3,9,10,65]),(13,[0,1,2,3,9,10,11]),(14,[0,1,2,3,9,10,11,69]),(15,[0,1,2,3,9,10,11]),(16,[0,1,2,3,9,10,11,84]),(17,[0,1,2,3,9,10,11]),(18,[0,1,2,3,9,10,104]),(19,[0,1,2,3,9,10,12]),(20,[0,1,2,3,9,10,12,109]),(21,[0,1,2,3,9,10,12]),(22,[0,1,2,3,9,10,12,124]),(23,[0,1,2,3,9,10,12]),(24,[8])],dec:=[22] }),
 (124,{ live:=[(0,[0,1,2,3,4]),(1,[0,1,2,4]),(2,[0,1,4,11,12]),(3,[0,1,4,11,12,47]),(4,[0,1,4,11,12]),(5,[0,1,4,11,12,65]),(6,[0,1,4,11,12]),(7,[0,1,4,11,12,70]),(8,[0,1,4,11,12]),(9,[0,1,4,11,12]),(10,[0,1,4,11,12]),(11,[10])],dec:=[34,53] }),
 (125,{ live:=[(0,[0,1,2,3,4]),(1,[0,1,2,4]),(2,[0,1,4,12,13]),(3,[0,1,4,12,13,47]),(4,[0,1,4,12,13]),(5,[0,1,4,12,13,66]),(6,[0,1,4,12,13]),(7,[0,1,4,12,13,71]),(8,[13]),(9,[10,11]),(10,[0,1,4,12,13]),(11,[0,1,4,12,13]),(12,[0,1,4,12,13]),(13,[0,1,4,12,13,120]),(14,[0,1,4,12,13]),(15,[0,1,4,12,13,139]),(16,[0,1,4,12,13]),(17,[0,1,4,12,13,144]),(18,[0,1,4,12,13]),(19,[0,1,4,12,13]),(20,[0,1,4,12,13]),(21,[13]),(22,[10,11])],dec:=[35,53,108,126] }),
 (126,{ live:=[(0,[0,2]),(1,[0,2,4]),(2,[0]),(3,[0,2]),(4,[0,2,8]),(5,[0,2]),(6,[0,2]),(7,[2])] }),
 (127,{ live:=[(0,[0,2]),(1,[0,2,4]),(2,[0]),(3,[0,2]),(4,[0,2,8]),(5,[0,2]),(6,[0,2]),(7,[0,2,14]),(8,[0,2]),(9,[0,2]),(10,[2])] }),
 (132,{ live:=[(0,[0]),(1,[0,4]),(2,[2]),(3,[2])] }),
 (133,{ live:=[(0,[0]),(1,[0,3]),(2,[0,3]),(3,[0,3,7]),(4,[0,3]),(5,[0,3]),(6,[2])] }),
 (134,{ live:=[(0,[0]),(1,[2])],fresh:=[6],esc:=true }),
 (135,{ live:=[(0,[0,2]),(1,[0,2,3]),(2,[0,2,3,7]),(3,[0,2,3,7,8]),(4,[0,2,3,4,7]),(5,[0,2,3,4,7,11]),(6,[0,2,3,7]),(7,[0,2,3,4,5,6,7]),(8,[0,2,3,7]),(9,[0,2,3,7]),(10,[2])] }),
 (136,{ live:=[(0,[0,1]),(1,[4])] }),
 (137,{ live:=[(0,[0,1]),(1,[4])] }),
 (138,{ live:=[(0,[2,3]),(1,[5]),(2,[13,14]),(3,[13,14,15]),(4,[7,13,14]),(5,[8,13,14]),(6,[8,13,14,20]),(7,[4]),(8,[13,14]),(9,[4])],rd:=[(1,[5])] }),
 (139,{ live:=[(0,[0,2,3,4,10]),(1,[0,2,3,4,10,11]),(2,[0,2,3,4,10,11,18]),(3,[0,2,3,4,10,11,40]),(4,[0,2,3,4,10,11]),(5,[0,2,3,4,10,11,58]),(6,[0,2,3,4,11]),(7,[0,2,3,4,10])],dec:=[23] }),
 (140,{ live:=[(0,[0]),(1,[2])] }),
 (141,{ live:=[(0,[0]),(1,[0]),(2,[0]),(3,[0]),(4,[2])] }),
 (142,{ live:=[(0,[0,1,2,3]),(1,[8])] }),
 (143,{ live:=[(0,[0,1,2,3,4,5]),(1,[0,1,2,3,4,5]),(2,[0,1,2,4,5]),(3,[2]),(4,[12])] }),
 (145,{ live:=[(0,[0,1]),(1,[0,5]),(2,[4])] }),
 (146,{ live:=[(0,[0,1]),(1,[2])] }),
 (147,{ live:=[(0,[2,3,4]),(1,[2,3,4,7]),(2,[6]),(3,[12]),(4,[6]),(5,[6])] }),
 (148,{ live:=[(0,[0,1]),(1,[2])] }),
 (149,{ live:=[(0,[2,3,4]),(1,[2,3,4,7]),(2,[6]),(3,[12]),(4,[6]),(5,[6])] }),
 (150,{ live:=[(0,[0,1]),(1,[2])] }),
 (151,{ live:=[(0,[0,1]),(1,[0,1,5]),(2,[0,1,5,6]),(3,[0,1,6,11]),(4,[12]),(5,[4]),(6,[4]),(7,[0,1,13]),(8,[4]),(9,[0,1,16]),(10,[4]),(11,[19]),(12,[4]),(13,[4])] }),
 (152,{ live:=[(0,[0,1,2,3,4]),(1,[1,2,3,22]),(2,[1,2]),(3,[10,11]),(4,[10,11])] }),
 (153,{ live:=[(0,[0]),(1,[2])] })]
def qPl (k:FuncId):TH:=(get qPq k).getD {}
theorem qPd:qqn Tryz.prog [16,55]:=⟨qD9 (fn:=Tryz.f16) (c:=Tryz.f16.body.getD .skip) (by kernel_rfl) (by kernel_rfl) (by kernel_rfl),qD9 (fn:=Tryz.f55) (c:=Tryz.f55.body.getD .skip) (by kernel_rfl) (by kernel_rfl) (by kernel_rfl),trivial⟩
def qIu:Option Bool:=some true
theorem qJH:qIh Tryz.prog qPl [16,55] [qCL] 400 30 9=some (.pv (.b true),[]):=by kernel_rfl
def qGT:Ent:=smF ⟨9,[],[],[],[]⟩ [] Bool (fun _=>qIu) cs1 fun _ z=>(xb z,[])
theorem qL1:zg Tryz.prog qGT:=qOR Tryz.prog (fun _=>rfl) qj (base:=[qCL]) ⟨qPn,trivial⟩ qPd qJH
end Go.Rx
end
set_option maxRecDepth 100000
noncomputable section
namespace Go.Rx
open Go.Proofs
def qrb:List UInt8:=[0,1,2,2,3,3,3,3,4,4,4,4,4,4,4,4,5,5,5,5,5,5,5,5,5,5,5,5,5,5,5,5,6,6,6,6,6,6,6,6,6,6,6,6,6,6,6,6,6,6,6,6,6,6,6,6,6,6,6,6,6,6,6,6,7,7,7,7,7,7,7,7,7,7,7,7,7,7,7,7,7,7,7,7,7,7,7,7,7,7,7,7,7,7,7,7,7,7,7,7,7,7,7,7,7,7,7,7,7,7,7,7,7,7,7,7,7,7,7,7,7,7,7,7,7,7,7,7,8,8,8,8,8,8,8,8,8,8,8,8,8,8,8,8,8,8,8,8,8,8,8,8,8,8,8,8,8,8,8,8,8,8,8,8,8,8,8,8,8,8,8,8,8,8,8,8,8,8,8,8,8,8,8,8,8,8,8,8,8,8,8,8,8,8,8,8,8,8,8,8,8,8,8,8,8,8,8,8,8,8,8,8,8,8,8,8,8,8,8,8,8,8,8,8,8,8,8,8,8,8,8,8,8,8,8,8,8,8,8,8,8,8,8,8,8,8,8,8,8,8,8,8,8,8,8,8]
noncomputable def qup:Code:=Tryz.f12.body.getD .skip
theorem qMA:FnF Tryz.prog 12 Tryz.f12 qup:=⟨qj,by kernel_rfl,by kernel_rfl,by kernel_rfl⟩
def qaG:TH:={ live:=[(0,[1]),(1,[1,7]),(2,[2]),(3,[1,3]),(4,[1,3,12]),(5,[1,3]),(6,[1,3,23]),(7,[2]),(8,[2])] }
def qfV (N:Nat):List Ent:=[]
theorem qeb (N:Nat):qT Tryz.prog (qfV N):=trivial
abbrev Vj:=qa
abbrev Qb:=Unit⊕(Int×Bool)
def Zg (f:Vj):Qb→Ex×TSt
 | .inl y=>(.ret,⟨0,24,[],[(2,.bc false)],[],false,[]⟩)
 | .inr y=>(.exit 0,⟨0,24,[],[(1,.p 10 [] 0),(3,xi y.1),(12,xb y.2)],[(10,.cell false (.tv qf f))],false,[]⟩)
def qmr (N:Nat):List (Nat×qA):=[]
abbrev Zi:=Int
def qdt:SP:=⟨0,24,[],[(1,.k (.p 10 [] 0)),(3,.x (.i .i64))],[(10,.cell false (.x qf))],false,[]⟩
def qmH (f:Vj) (v:Zi):TSt:=zC qdt [dv qf f,dv (.i .i64) v]
def J4 (N:Nat) (o_4:qa) (v:Zi):Tree (Zi⊕Qb):=
 .cond (decide (v < (((qa.F o_4).length:Nat):Int))) (
 .bind (zk (qa.F o_4) v) fun e1=>
 .cond (decide (((300:Int)) < (((qe.V (qc.C e1)).length:Nat):Int))) (
 .ret (.inr (.inl ()))) <|
 .chk (qt (v + 1)) <|
 .ret (.inl (v + 1))) <|
 .ret (.inr (.inr ((v,decide (v < (((qa.F o_4).length:Nat):Int))))))
def qdr (N n:Nat) (f:Vj) (v:Zi):Option Qb:=qY (J4 N f) some n v
theorem qlY (N:Nat) (f:Vj) (n:Nat) (v:Zi) (y:Qb) (h:qdr N n f v=some y):LG Tryz.prog qaG 12 (qM qup 4) (qmH f v) (Zg f y):=
 zo qj (E:=qfV N) (L:=qL (qmr N)) (st:=Zg f) (g:=some) (R:=Zg f) (qeb N) (qo (by kernel_rfl) trivial) (rg0 (by kernel_rfl)) (fun v=>by kernel_rfl) (q0 (st:=Zg f) fun y=>by rcases y with _ | _<;>rfl) n v y h
def KL (N:Nat) (o_4:qa) (s3_4:Int):Option Qb:=qdr N N o_4 s3_4
def qdh (N:Nat):qA:=smL qdt [qf,(.i .i64)] Qb (fun x=>KL N x.1 x.2.1) (csS cs1) fun x=>Zg x.1
theorem qlP (N:Nat):jq Tryz.prog qaG 12 (qM qup 4) (qdh N):=zA fun x z h=>qlY N x.1 N x.2.1 z h
def qqv (z:Bool):TV×THp:=(xb z,[])
def qaO (N:Nat) (a0:qa):Tree (Bool):=
 .cond (decide (((12:Int)) < (((qa.F a0).length:Nat):Int))) (
 .ret false) <|
 .bind (KL N a0 0) fun z1=>
 .sum z1 (fun z2=>
 .ret false) fun z2=>
 .ret true
def Ze (N:Nat) (a0:qa):Option (Bool):=(qaO N a0).run some
def qp7 (N:Nat):List (Nat×qA):=[(4,qdh N)]
def qfK (N:Nat):Ent:=smF ⟨12,[],[.x qf],[],[]⟩ [qf] (Bool) (fun x=>Ze N x.1) cs1 fun _=>qqv
theorem qpy (N:Nat):zg Tryz.prog (qfK N):=
 zf (H:=qaG) (L:=qL (qp7 N)) (ts:=[qf]) (T:=fun x=>qaO N x.1) 0 qMA (qeb N) (qo (by kernel_rfl) ⟨qlP N,trivial⟩) (rg0 (by kernel_rfl)) fun x=>by kernel_rfl
noncomputable def quZ:Code:=Tryz.f10.body.getD .skip
theorem qMN:FnF Tryz.prog 10 Tryz.f10 quZ:=⟨qj,by kernel_rfl,by kernel_rfl,by kernel_rfl⟩
def qaI:TH:={ live:=[(0,[1]),(1,[1,8]),(2,[2]),(3,[1,3]),(4,[1,3,13]),(5,[1,3]),(6,[1,3,4]),(7,[1,3,23]),(8,[2]),(9,[2])] }
def qf0 (N:Nat):List Ent:=[qfK N]
theorem qdF (N:Nat):qT Tryz.prog (qf0 N):=⟨qpy N,trivial⟩
abbrev Vk:=qb
abbrev v9:=Unit⊕(Int×Bool)
def Zf (f:Vk):v9→Ex×TSt
 | .inl y=>(.ret,⟨0,24,[],[(2,.bc false)],[],false,[]⟩)
 | .inr y=>(.exit 0,⟨0,24,[],[(1,.p 10 [] 0),(3,xi y.1),(13,xb y.2)],[(10,.cell false (.tv qh f))],false,[]⟩)
def qmf (N:Nat):List (Nat×qA):=[]
abbrev Zq:=Int
def qdc:SP:=⟨0,24,[],[(1,.k (.p 10 [] 0)),(3,.x (.i .i64))],[(10,.cell false (.x qh))],false,[]⟩
def qmA (f:Vk) (v:Zq):TSt:=zC qdc [dv qh f,dv (.i .i64) v]
def Ve (N:Nat) (o_4:qb) (v:Zq):Tree (Zq⊕v9):=
 .cond (decide (v < (((qb.R o_4).length:Nat):Int))) (
 .bind (zk (qb.R o_4) v) fun e1=>
 .bind (Ze N e1) fun r2=>
 .cond (!r2) (
 .ret (.inr (.inl ()))) <|
 .chk (qt (v + 1)) <|
 .ret (.inl (v + 1))) <|
 .ret (.inr (.inr ((v,decide (v < (((qb.R o_4).length:Nat):Int))))))
def qc9 (N n:Nat) (f:Vk) (v:Zq):Option v9:=qY (Ve N f) some n v
theorem qmW (N:Nat) (f:Vk) (n:Nat) (v:Zq) (y:v9) (h:qc9 N n f v=some y):LG Tryz.prog qaI 10 (qM quZ 4) (qmA f v) (Zf f y):=
 zo qj (E:=qf0 N) (L:=qL (qmf N)) (st:=Zf f) (g:=some) (R:=Zf f) (qdF N) (qo (by kernel_rfl) trivial) (rg0 (by kernel_rfl)) (fun v=>by kernel_rfl) (q0 (st:=Zf f) fun y=>by rcases y with _ | _<;>rfl) n v y h
def KM (N:Nat) (o_4:qb) (s3_4:Int):Option v9:=qc9 N N o_4 s3_4
def qdf (N:Nat):qA:=smL qdc [qh,(.i .i64)] v9 (fun x=>KM N x.1 x.2.1) (csS cs1) fun x=>Zf x.1
theorem qkU (N:Nat):jq Tryz.prog qaI 10 (qM quZ 4) (qdf N):=zA fun x z h=>qmW N x.1 N x.2.1 z h
def qqk (z:Bool):TV×THp:=(xb z,[])
def qaS (N:Nat) (a0:qb):Tree (Bool):=
 .cond (decide (((14:Int)) < (((qb.R a0).length:Nat):Int))) (
 .ret false) <|
 .bind (KM N a0 0) fun z1=>
 .sum z1 (fun z2=>
 .ret false) fun z2=>
 .ret true
def Xj (N:Nat) (a0:qb):Option (Bool):=(qaS N a0).run some
def qru (N:Nat):List (Nat×qA):=[(4,qdf N)]
def qfW (N:Nat):Ent:=smF ⟨10,[],[.x qh],[],[]⟩ [qh] (Bool) (fun x=>Xj N x.1) cs1 fun _=>qqk
theorem qpQ (N:Nat):zg Tryz.prog (qfW N):=
 zf (H:=qaI) (L:=qL (qru N)) (ts:=[qh]) (T:=fun x=>qaS N x.1) 0 qMN (qdF N) (qo (by kernel_rfl) ⟨qkU N,trivial⟩) (rg0 (by kernel_rfl)) fun x=>by kernel_rfl
noncomputable def qNd:Code:=Tryz.f34.body.getD .skip
theorem qMY:FnF Tryz.prog 34 Tryz.f34 qNd:=⟨qj,by kernel_rfl,by kernel_rfl,by kernel_rfl⟩
def qFy:TH:={ live:=[(0,[1]),(1,[2])],dec:=[6,10,15,20] }
def qEW (N:Nat):List Ent:=[]
theorem qBs (N:Nat):qT Tryz.prog (qEW N):=trivial
def qF6 (z:Bool):TV×THp:=(xb z,[])
def qlO (a0:qd):Tree (Bool):=
 .cond (eqE qi a0 (qd.mk 0 0)) (
 .ret true) <|
 .cond (decide (((0:Int)) < (qd.N a0))) (
 .cond (decide ((qd.N a0)≤((1099511627776:Int)))) (
 .cond (decide (((0:Int))≤(qd.Rep a0))) (
 .ret (decide ((qd.Rep a0) < ((8:Int))))) <|
 .ret false) <|
 .ret false) <|
 .ret false
def VZ (a0:qd):Option (Bool):=(qlO a0).run some
def qF1:List (Nat×qA):=[]
def V0:Ent:=smF ⟨34,[],[.x qi],[],[]⟩ [qi] (Bool) (fun x=>VZ x.1) cs1 fun _=>qF6
theorem Xy:zg Tryz.prog (V0):=
 zf (H:=qFy) (L:=qL (qF1)) (ts:=[qi]) (T:=fun x=>qlO x.1) 0 qMY (qBs 0) (qo (by kernel_rfl) trivial) (rg0 (by kernel_rfl)) fun x=>by kernel_rfl
noncomputable def qNr:Code:=Tryz.f74.body.getD .skip
theorem qMm:FnF Tryz.prog 74 Tryz.f74 qNr:=⟨qj,by kernel_rfl,by kernel_rfl,by kernel_rfl⟩
def qII:TH:={ live:=[(0,[1]),(1,[2])],dec:=[7,12] }
def qHl (N:Nat):List Ent:=[V0]
theorem qCC (N:Nat):qT Tryz.prog (qHl N):=⟨Xy,trivial⟩
def qH9 (z:Bool):TV×THp:=(xb z,[])
def qnc (a0:qe):Tree (Bool):=
 .cond (!(eqE qi (qe.S a0) (qd.mk 0 0))) (
 .bind (VZ (qe.S a0)) fun r1=>
 .cond r1 (
 .ret (decide ((((qe.V a0).length:Nat):Int)≤((200:Int))))) <|
 .ret false) <|
 .ret false
def qam (a0:qe):Option (Bool):=(qnc a0).run some
def qIc:List (Nat×qA):=[]
def qoz:Ent:=smF ⟨74,[],[.x qv],[],[]⟩ [qv] (Bool) (fun x=>qam x.1) cs1 fun _=>qH9
theorem qt7:zg Tryz.prog (qoz):=
 zf (H:=qII) (L:=qL (qIc)) (ts:=[qv]) (T:=fun x=>qnc x.1) 0 qMm (qCC 0) (qo (by kernel_rfl) trivial) (rg0 (by kernel_rfl)) fun x=>by kernel_rfl
noncomputable def qNs:Code:=Tryz.f98.body.getD .skip
theorem qOi:FnF Tryz.prog 98 Tryz.f98 qNs:=⟨qj,by kernel_rfl,by kernel_rfl,by kernel_rfl⟩
def qxe:TH:={ live:=[(0,[0]),(1,[2])] }
def qwW (N:Nat):List Ent:=[]
theorem qs_ (N:Nat):qT Tryz.prog (qwW N):=trivial
def qwS (a0:Int) (z:Unit):TV×THp:=(xb (!decide (a0=a0)),[])
def qdG (a0:Int):Tree (Unit):=
 .ret ()
def qcu (a0:Int):Option (Unit):=(qdG a0).run some
def qwK:List (Nat×qA):=[]
def qj6:Ent:=smF ⟨98,[],[.x (.i .i64)],[],[]⟩ [(.i .i64)] (Unit) (fun x=>qcu x.1) cs1 fun x=>qwS x.1
theorem qus:zg Tryz.prog (qj6):=
 zf (H:=qxe) (L:=qL (qwK)) (ts:=[(.i .i64)]) (T:=fun x=>qdG x.1) 0 qOi (qs_ 0) (qo (by kernel_rfl) trivial) (rg0 (by kernel_rfl)) fun x=>by kernel_rfl
noncomputable def qN_:Code:=Tryz.f67.body.getD .skip
theorem qN8:FnF Tryz.prog 67 Tryz.f67 qN_:=⟨qj,by kernel_rfl,by kernel_rfl,by kernel_rfl⟩
def qts:TH:={ live:=[(0,[0,1]),(1,[0,1,5]),(2,[0,1,5,6]),(3,[0,1,6,11]),(4,[12]),(5,[4]),(6,[4]),(7,[0,1,13]),(8,[4]),(9,[0,1,16]),(10,[4]),(11,[19]),(12,[4]),(13,[4])] }
def qtm (N:Nat):List Ent:=[qj6]
theorem qpv (N:Nat):qT Tryz.prog (qtm N):=⟨qus,trivial⟩
def qtF (z:Int):TV×THp:=(xi z,[])
def qbX (a0:Int) (a1:Int):Tree (Int):=
 .bind (qcu a0) fun r1=>
 .bind (qcu a1) fun r2=>
 .cond (!decide (a0=a0)) (
 .cond (!decide (a1=a1)) (
 .ret 0) <|
 .ret (-1)) <|
 .cond (!decide (a1=a1)) (
 .ret 1) <|
 .cond (decide (a0 < a1)) (
 .ret (-1)) <|
 .cond (decide (a1 < a0)) (
 .ret 1) <|
 .ret 0
def X0 (a0:Int) (a1:Int):Option (Int):=(qbX a0 a1).run some
def qsR:List (Nat×qA):=[]
def qhd:Ent:=smF ⟨67,[],[.x (.i .i64),.x (.i .i64)],[],[]⟩ [(.i .i64),(.i .i64)] (Int) (fun x=>X0 x.1 x.2.1) cs1 fun _=>qtF
theorem qqo:zg Tryz.prog (qhd):=
 zf (H:=qts) (L:=qL (qsR)) (ts:=[(.i .i64),(.i .i64)]) (T:=fun x=>qbX x.1 x.2.1) 0 qN8 (qpv 0) (qo (by kernel_rfl) trivial) (rg0 (by kernel_rfl)) fun x=>by kernel_rfl
noncomputable def quW:Code:=Tryz.f66.body.getD .skip
theorem qNo:FnF Tryz.prog 66 Tryz.f66 quW:=⟨qj,by kernel_rfl,by kernel_rfl,by kernel_rfl⟩
def qit:TH:={ live:=[(0,[0]),(1,[0,3]),(2,[3,6,7,8]),(3,[3,6,7,8,9]),(4,[3,5,6,7,8]),(5,[3,5,6,7,8,14]),(6,[2]),(7,[3,6,7,8]),(8,[2])] }
def qrD (N:Nat):List Ent:=[]
theorem qmP (N:Nat):qT Tryz.prog (qrD N):=trivial
abbrev KY:=List Int×Int
abbrev Vl:=Int⊕(Int×Bool)
def XZ (f:KY):Vl→Ex×TSt
 | .inl y=>(.ret,⟨0,18,[],[(2,xi y)],[],false,[]⟩)
 | .inr y=>(.exit 0,⟨0,18,[],[(3,.ic .i64 0),(6,.tv (.sl 1 (.i .i64)) f.1),(7,xi f.2),(8,xi y.1),(9,xb y.2)],[],false,[]⟩)
def qv1 (N:Nat):List (Nat×qA):=[]
abbrev X7:=Int
def qkt:SP:=⟨0,18,[],[(3,.k (.ic .i64 0)),(6,.x (.sl 1 (.i .i64))),(7,.x (.i .i64)),(8,.x (.i .i64))],[],false,[]⟩
def qwH (f:KY) (v:X7):TSt:=zC qkt [dv (.sl 1 (.i .i64)) f.1,dv (.i .i64) f.2,dv (.i .i64) v]
def ZM (N:Nat) (s6_3:List Int) (s7_3:Int) (v:X7):Tree (X7⊕Vl):=
 .cond (decide (v < s7_3)) (
 .bind (zk s6_3 v) fun e1=>
 .cond (!decide (e1=((0:Int)))) (
 .ret (.inr (.inl e1))) <|
 .chk (qt (v + 1)) <|
 .ret (.inl (v + 1))) <|
 .ret (.inr (.inr ((v,decide (v < s7_3)))))
def qj3 (N n:Nat) (f:KY) (v:X7):Option Vl:=qY (ZM N f.1 f.2) some n v
theorem qwN (N:Nat) (f:KY) (n:Nat) (v:X7) (y:Vl) (h:qj3 N n f v=some y):LG Tryz.prog qit 66 (qM quW 3) (qwH f v) (XZ f y):=
 zo qj (E:=qrD N) (L:=qL (qv1 N)) (st:=XZ f) (g:=some) (R:=XZ f) (qmP N) (qo (by kernel_rfl) trivial) (rg0 (by kernel_rfl)) (fun v=>by kernel_rfl) (q0 (st:=XZ f) fun y=>by rcases y with _ | _<;>rfl) n v y h
def qgI (N:Nat) (s6_3:List Int) (s7_3:Int) (s8_3:Int):Option Vl:=qj3 N N (s6_3,s7_3) s8_3
def qj2 (N:Nat):qA:=smL qkt [(.sl 1 (.i .i64)),(.i .i64),(.i .i64)] Vl (fun x=>qgI N x.1 x.2.1 x.2.2.1) (csS cs1) fun x=>XZ (x.1,x.2.1)
theorem qvA (N:Nat):jq Tryz.prog qit 66 (qM quW 3) (qj2 N):=zA fun x z h=>qwN N (x.1,x.2.1) N x.2.2.1 z h
def qEf (z:Int):TV×THp:=(xi z,[])
def qig (N:Nat) (a0:List Int):Tree (Int):=
 .bind (qgI N a0 ((a0.length:Nat):Int) 0) fun z1=>
 .sum z1 (fun z2=>
 .ret z2) fun z2=>
 .ret 0
def qdK (N:Nat) (a0:List Int):Option (Int):=(qig N a0).run some
def qCl (N:Nat):List (Nat×qA):=[(3,qj2 N)]
def qpW (N:Nat):Ent:=smF ⟨66,[],[.x (.sl 1 (.i .i64))],[],[]⟩ [(.sl 1 (.i .i64))] (Int) (fun x=>qdK N x.1) cs1 fun _=>qEf
theorem qAH (N:Nat):zg Tryz.prog (qpW N):=
 zf (H:=qit) (L:=qL (qCl N)) (ts:=[(.sl 1 (.i .i64))]) (T:=fun x=>qig N x.1) 0 qNo (qmP N) (qo (by kernel_rfl) ⟨qvA N,trivial⟩) (rg0 (by kernel_rfl)) fun x=>by kernel_rfl
noncomputable def qL3:Code:=Tryz.f28.body.getD .skip
theorem qLY:FnF Tryz.prog 28 Tryz.f28 qL3:=⟨qj,by kernel_rfl,by kernel_rfl,by kernel_rfl⟩
def qCV:TH:={ live:=[(0,[2,3]),(1,[4])],dec:=[8] }
def qDD (N:Nat):List Ent:=[qhd,qpW N]
theorem qzl (N:Nat):qT Tryz.prog (qDD N):=⟨qqo,qAH N,trivial⟩
def qDu (z:Bool):TV×THp:=(xb z,[])
def qin (N:Nat) (a0:qd) (a1:qd):Tree (Bool):=
 .cond (!(eqE qi a0 a1)) (
 .bind (X0 (qd.N a0) (qd.N a1)) fun r1=>
 .bind (X0 (qd.Rep a0) (qd.Rep a1)) fun r2=>
 .bind (qdK N [r1,r2]) fun r3=>
 .ret (decide (r3 < ((0:Int))))) <|
 .ret false
def j9 (N:Nat) (a0:qd) (a1:qd):Option (Bool):=(qin N a0 a1).run some
def qDx (N:Nat):List (Nat×qA):=[]
def JW (N:Nat):Ent:=smF ⟨28,[],[.x qi,.x qi],[],[]⟩ [qi,qi] (Bool) (fun x=>j9 N x.1 x.2.1) cs1 fun _=>qDu
theorem Vt (N:Nat):zg Tryz.prog (JW N):=
 zf (H:=qCV) (L:=qL (qDx N)) (ts:=[qi,qi]) (T:=fun x=>qin N x.1 x.2.1) 0 qLY (qzl N) (qo (by kernel_rfl) trivial) (rg0 (by kernel_rfl)) fun x=>by kernel_rfl
noncomputable def qvb:Code:=Tryz.f35.body.getD .skip
theorem qMF:FnF Tryz.prog 35 Tryz.f35 qvb:=⟨qj,by kernel_rfl,by kernel_rfl,by kernel_rfl⟩
def qrj:TH:={ live:=[(0,[1]),(1,[1,21]),(2,[2]),(3,[1,23,24,25]),(4,[1,23,24,25,26]),(5,[1,3,4,23,24,25]),(6,[1,4,5,23,24,25]),(7,[1,23,24,25,74]),(8,[2]),(9,[1,23,24,25]),(10,[2])],dec:=[10,15,32,37,40,55,60,66] }
def qz3 (N:Nat):List Ent:=[V0,qoz,JW N]
theorem quf (N:Nat):qT Tryz.prog (qz3 N):=⟨Xy,qt7,Vt N,trivial⟩
abbrev qen:=qa×List qc×Int
abbrev Yd:=Unit⊕(Int×Bool)
def qas (f:qen):Yd→Ex×TSt
 | .inl y=>(.ret,⟨0,76,[],[(2,.bc false)],[],false,[]⟩)
 | .inr y=>(.exit 0,⟨0,76,[],[(1,.p 10 [] 0),(23,.tv (.sl 4 qq) f.2.1),(24,xi f.2.2),(25,xi y.1),(26,xb y.2)],[(10,.cell false (.tv qf f.1))],false,[]⟩)
def qDC (N:Nat):List (Nat×qA):=[]
abbrev qaW:=Int
def qp9:SP:=⟨0,76,[],[(1,.k (.p 10 [] 0)),(23,.x (.sl 4 qq)),(24,.x (.i .i64)),(25,.x (.i .i64))],[(10,.cell false (.x qf))],false,[]⟩
def qEl (f:qen) (v:qaW):TSt:=zC qp9 [dv qf f.1,dv (.sl 4 qq) f.2.1,dv (.i .i64) f.2.2,dv (.i .i64) v]
def qev (N:Nat) (o_4:qa) (s23_4:List qc) (s24_4:Int) (v:qaW):Tree (qaW⊕Yd):=
 .cond (decide (v < s24_4)) (
 .bind (zk s23_4 v) fun e1=>
 .cond (decide (v=((0:Int)))) (
 .cond (decide (((0:Int))≤(qc.No e1))) (
 .cond (decide (((8:Int))≤(qc.No e1))) (
 .ret (.inr (.inl ()))) <|
 .bind (qam (qc.C e1)) fun r2=>
 .cond (!r2) (
 .ret (.inr (.inl ()))) <|
 .bind (j9 N (qa.qB o_4) (qe.S (qc.C e1))) fun r3=>
 .cond (!r3) (
 .ret (.inr (.inl ()))) <|
 .chk (qt (v + 1)) <|
 .ret (.inl (v + 1))) <|
 .cond (decide (((0:Int)) < v)) (
 .chk (qt (v - 1)) <|
 .bind (zk (qa.F o_4) (v - 1)) fun e2=>
 .cond (!(decide ((qc.No e2) < (qc.No e1)))) (
 .ret (.inr (.inl ()))) <|
 .cond (decide (((8:Int))≤(qc.No e1))) (
 .ret (.inr (.inl ()))) <|
 .bind (qam (qc.C e1)) fun r3=>
 .cond (!r3) (
 .ret (.inr (.inl ()))) <|
 .bind (j9 N (qa.qB o_4) (qe.S (qc.C e1))) fun r4=>
 .cond (!r4) (
 .ret (.inr (.inl ()))) <|
 .chk (qt (v + 1)) <|
 .ret (.inl (v + 1))) <|
 .ret (.inr (.inl ()))) <|
 .cond (decide (((0:Int)) < v)) (
 .chk (qt (v - 1)) <|
 .bind (zk (qa.F o_4) (v - 1)) fun e2=>
 .cond (!(decide ((qc.No e2) < (qc.No e1)))) (
 .ret (.inr (.inl ()))) <|
 .cond (decide (((8:Int))≤(qc.No e1))) (
 .ret (.inr (.inl ()))) <|
 .bind (qam (qc.C e1)) fun r3=>
 .cond (!r3) (
 .ret (.inr (.inl ()))) <|
 .bind (j9 N (qa.qB o_4) (qe.S (qc.C e1))) fun r4=>
 .cond (!r4) (
 .ret (.inr (.inl ()))) <|
 .chk (qt (v + 1)) <|
 .ret (.inl (v + 1))) <|
 .ret (.inr (.inl ()))) <|
 .ret (.inr (.inr ((v,decide (v < s24_4)))))
def qqT (N n:Nat) (f:qen) (v:qaW):Option Yd:=qY (qev N f.1 f.2.1 f.2.2) some n v
theorem qB8 (N:Nat) (f:qen) (n:Nat) (v:qaW) (y:Yd) (h:qqT N n f v=some y):LG Tryz.prog qrj 35 (qM qvb 4) (qEl f v) (qas f y):=
 zo qj (E:=qz3 N) (L:=qL (qDC N)) (st:=qas f) (g:=some) (R:=qas f) (quf N) (qo (by kernel_rfl) trivial) (rg0 (by kernel_rfl)) (fun v=>by kernel_rfl) (q0 (st:=qas f) fun y=>by rcases y with _ | _<;>rfl) n v y h
def qhr (N:Nat) (o_4:qa) (s23_4:List qc) (s24_4:Int) (s25_4:Int):Option Yd:=qqT N N (o_4,s23_4,s24_4) s25_4
def qrc (N:Nat):qA:=smL qp9 [qf,(.sl 4 qq),(.i .i64),(.i .i64)] Yd (fun x=>qhr N x.1 x.2.1 x.2.2.1 x.2.2.2.1) (csS cs1) fun x=>qas (x.1,x.2.1,x.2.2.1)
theorem qBo (N:Nat):jq Tryz.prog qrj 35 (qM qvb 4) (qrc N):=zA fun x z h=>qB8 N (x.1,x.2.1,x.2.2.1) N x.2.2.2.1 z h
def qK0 (z:Bool):TV×THp:=(xb z,[])
def qqh (N:Nat) (a0:qa):Tree (Bool):=
 .bind (VZ (qa.qB a0)) fun r1=>
 .cond (!r1) (
 .ret false) <|
 .cond (decide ((((qa.F a0).length:Nat):Int)=((0:Int)))) (
 .cond (eqE qi (qa.qB a0) (qd.mk 0 0)) (
 .ret false) <|
 .bind (qhr N a0 (qa.F a0) (((qa.F a0).length:Nat):Int) 0) fun z2=>
 .sum z2 (fun z3=>
 .ret false) fun z3=>
 .ret true) <|
 .bind (qhr N a0 (qa.F a0) (((qa.F a0).length:Nat):Int) 0) fun z2=>
 .sum z2 (fun z3=>
 .ret false) fun z3=>
 .ret true
def qfm (N:Nat) (a0:qa):Option (Bool):=(qqh N a0).run some
def qKY (N:Nat):List (Nat×qA):=[(4,qrc N)]
def qkC (N:Nat):Ent:=smF ⟨35,[],[.x qf],[],[]⟩ [qf] (Bool) (fun x=>qfm N x.1) cs1 fun _=>qK0
theorem qnK (N:Nat):zg Tryz.prog (qkC N):=
 zf (H:=qrj) (L:=qL (qKY N)) (ts:=[qf]) (T:=fun x=>qqh N x.1) 0 qMF (quf N) (qo (by kernel_rfl) ⟨qBo N,trivial⟩) (rg0 (by kernel_rfl)) fun x=>by kernel_rfl
noncomputable def qMb:Code:=Tryz.f94.body.getD .skip
theorem qMI:FnF Tryz.prog 94 Tryz.f94 qMb:=⟨qj,by kernel_rfl,by kernel_rfl,by kernel_rfl⟩
def qwd:TH:={ live:=[(0,[0,1]),(1,[4])] }
def qwn (N:Nat):List Ent:=[qJE]
theorem qsN (N:Nat):qT Tryz.prog (qwn N):=⟨qOT,trivial⟩
def qwL (z:Int):TV×THp:=(xi z,[])
def qdE (a0:List UInt8) (a1:List UInt8):Tree (Int):=
 .bind (qMz a0 a1) fun r1=>
 .ret r1
def Kr (a0:List UInt8) (a1:List UInt8):Option (Int):=(qdE a0 a1).run some
def qxI:List (Nat×qA):=[]
def KR:Ent:=smF ⟨94,[],[.x .bl,.x .bl],[],[]⟩ [.bl,.bl] (Int) (fun x=>Kr x.1 x.2.1) cs1 fun _=>qwL
theorem qc5:zg Tryz.prog (KR):=
 zf (H:=qwd) (L:=qL (qxI)) (ts:=[.bl,.bl]) (T:=fun x=>qdE x.1 x.2.1) 0 qMI (qsN 0) (qo (by kernel_rfl) trivial) (rg0 (by kernel_rfl)) fun x=>by kernel_rfl
noncomputable def qNU:Code:=Tryz.f60.body.getD .skip
theorem qMc:FnF Tryz.prog 60 Tryz.f60 qNU:=⟨qj,by kernel_rfl,by kernel_rfl,by kernel_rfl⟩
def qFw:TH:={ live:=[(0,[2,3]),(1,[4])],dec:=[8] }
def qEZ (N:Nat):List Ent:=[KR]
theorem qAI (N:Nat):qT Tryz.prog (qEZ N):=⟨qc5,trivial⟩
def qFu (z:Bool):TV×THp:=(xb z,[])
def qlG (a0:Vector UInt8 16) (a1:Vector UInt8 16):Tree (Bool):=
 .cond (!(eqE (.ba 16) a0 a1)) (
 .bind (Kr a0.toList a1.toList) fun r1=>
 .ret (decide (r1 < ((0:Int))))) <|
 .ret false
def qfQ (a0:Vector UInt8 16) (a1:Vector UInt8 16):Option (Bool):=(qlG a0 a1).run some
def qF9:List (Nat×qA):=[]
def qlo:Ent:=smF ⟨60,[],[.x (.ba 16),.x (.ba 16)],[],[]⟩ [(.ba 16),(.ba 16)] (Bool) (fun x=>qfQ x.1 x.2.1) cs1 fun _=>qFu
theorem qrm:zg Tryz.prog (qlo):=
 zf (H:=qFw) (L:=qL (qF9)) (ts:=[(.ba 16),(.ba 16)]) (T:=fun x=>qlG x.1 x.2.1) 0 qMc (qAI 0) (qo (by kernel_rfl) trivial) (rg0 (by kernel_rfl)) fun x=>by kernel_rfl
noncomputable def quH:Code:=Tryz.f25.body.getD .skip
theorem qM1:FnF Tryz.prog 25 Tryz.f25 quH:=⟨qj,by kernel_rfl,by kernel_rfl,by kernel_rfl⟩
def qor:TH:={ live:=[(0,[1]),(1,[1,6,7,8]),(2,[1,6,7,8,9]),(3,[1,3,4,6,7,8]),(4,[1,6,7,8,32]),(5,[2]),(6,[1,6,7,8]),(7,[2])],dec:=[16,19] }
def qv3 (N:Nat):List Ent:=[qkC N,qlo]
theorem qqc (N:Nat):qT Tryz.prog (qv3 N):=⟨qnK N,qrm,trivial⟩
abbrev qcB:=qb×List qa×Int
abbrev XQ:=Unit⊕(Int×Bool)
def Kx (f:qcB):XQ→Ex×TSt
 | .inl y=>(.ret,⟨0,38,[],[(2,.bc false)],[],false,[]⟩)
 | .inr y=>(.exit 0,⟨0,38,[],[(1,.p 10 [] 0),(6,.tv (.sl 19 qf) f.2.1),(7,xi f.2.2),(8,xi y.1),(9,xb y.2)],[(10,.cell false (.tv qh f.1))],false,[]⟩)
def qBm (N:Nat):List (Nat×qA):=[]
abbrev Kn:=Int
def qph:SP:=⟨0,38,[],[(1,.k (.p 10 [] 0)),(6,.x (.sl 19 qf)),(7,.x (.i .i64)),(8,.x (.i .i64))],[(10,.cell false (.x qh))],false,[]⟩
def qBy (f:qcB) (v:Kn):TSt:=zC qph [dv qh f.1,dv (.sl 19 qf) f.2.1,dv (.i .i64) f.2.2,dv (.i .i64) v]
def qcO (N:Nat) (o_2:qb) (s6_2:List qa) (s7_2:Int) (v:Kn):Tree (Kn⊕XQ):=
 .cond (decide (v < s7_2)) (
 .bind (zk s6_2 v) fun e1=>
 .bind (qfm N e1) fun r2=>
 .cond (!r2) (
 .ret (.inr (.inl ()))) <|
 .cond (decide (((0:Int)) < v)) (
 .chk (qt (v - 1)) <|
 .bind (zk (qb.R o_2) (v - 1)) fun e3=>
 .bind (qfQ (qa.ID e3) (qa.ID e1)) fun r4=>
 .cond (!r4) (
 .ret (.inr (.inl ()))) <|
 .chk (qt (v + 1)) <|
 .ret (.inl (v + 1))) <|
 .chk (qt (v + 1)) <|
 .ret (.inl (v + 1))) <|
 .ret (.inr (.inr ((v,decide (v < s7_2)))))
def qoY (N n:Nat) (f:qcB) (v:Kn):Option XQ:=qY (qcO N f.1 f.2.1 f.2.2) some n v
theorem qAN (N:Nat) (f:qcB) (n:Nat) (v:Kn) (y:XQ) (h:qoY N n f v=some y):LG Tryz.prog qor 25 (qM quH 2) (qBy f v) (Kx f y):=
 zo qj (E:=qv3 N) (L:=qL (qBm N)) (st:=Kx f) (g:=some) (R:=Kx f) (qqc N) (qo (by kernel_rfl) trivial) (rg0 (by kernel_rfl)) (fun v=>by kernel_rfl) (q0 (st:=Kx f) fun y=>by rcases y with _ | _<;>rfl) n v y h
def qla (N:Nat) (o_2:qb) (s6_2:List qa) (s7_2:Int) (s8_2:Int):Option XQ:=qoY N N (o_2,s6_2,s7_2) s8_2
def qpn (N:Nat):qA:=smL qph [qh,(.sl 19 qf),(.i .i64),(.i .i64)] XQ (fun x=>qla N x.1 x.2.1 x.2.2.1 x.2.2.2.1) (csS cs1) fun x=>Kx (x.1,x.2.1,x.2.2.1)
theorem qyr (N:Nat):jq Tryz.prog qor 25 (qM quH 2) (qpn N):=zA fun x z h=>qAN N (x.1,x.2.1,x.2.2.1) N x.2.2.2.1 z h
def qJa (z:Bool):TV×THp:=(xb z,[])
def qn5 (N:Nat) (a0:qb):Tree (Bool):=
 .bind (qla N a0 (qb.R a0) (((qb.R a0).length:Nat):Int) 0) fun z1=>
 .sum z1 (fun z2=>
 .ret false) fun z2=>
 .ret (decide ((((qb.R a0).length:Nat):Int)≤((10:Int))))
def Wm (N:Nat) (a0:qb):Option (Bool):=(qn5 N a0).run some
def qJf (N:Nat):List (Nat×qA):=[(2,qpn N)]
def qbz (N:Nat):Ent:=smF ⟨25,[],[.x qh],[],[]⟩ [qh] (Bool) (fun x=>Wm N x.1) cs1 fun _=>qJa
theorem qb8 (N:Nat):zg Tryz.prog (qbz N):=
 zf (H:=qor) (L:=qL (qJf N)) (ts:=[qh]) (T:=fun x=>qn5 N x.1) 0 qM1 (qqc N) (qo (by kernel_rfl) ⟨qyr N,trivial⟩) (rg0 (by kernel_rfl)) fun x=>by kernel_rfl
noncomputable def qrv:Code:=Tryz.f133.body.getD .skip
theorem qKx:FnF Tryz.prog 133 Tryz.f133 qrv:=⟨qj,by kernel_rfl,by kernel_rfl,by kernel_rfl⟩
def qgU:TH:={ live:=[(0,[0]),(1,[0,3]),(2,[0,3]),(3,[0,3,7]),(4,[0,3]),(5,[0,3]),(6,[2])] }
def qoS (N:Nat):List Ent:=[]
theorem qkD (N:Nat):qT Tryz.prog (qoS N):=trivial
abbrev YS:=Unit
abbrev JG:=Int×Int×Bool
def Xe (f:YS) (y:JG):Ex×TSt:=(.exit 0,⟨0,13,[],[(0,.tv (.i .u64) (y.1:Int)),(3,xi y.2.1),(7,xb y.2.2)],[],false,[]⟩)
def qve (N:Nat):List (Nat×qA):=[]
abbrev Xv:=Int×Int
def qiT:SP:=⟨0,13,[],[(0,.x (.i .u64)),(3,.x (.i .i64))],[],false,[]⟩
def quC (f:YS) (v:Xv):TSt:=zC qiT [dv (.i .u64) v.1,dv (.i .i64) v.2]
def Y4 (N:Nat) (v:Xv):Tree (Xv⊕JG):=
 .cond (decide (((0:Int)) < v.1)) (
 .chk (qt (v.2 + 1)) <|
 .chk (0≤(7:Int)) <|
 .ret (.inl (Q1 v.1 7,v.2 + 1))) <|
 .ret (.inr (v.1,v.2,decide (((0:Int)) < v.1)))
def qi4 (N n:Nat) (f:YS) (v:Xv):Option JG:=qY (Y4 N) some n v
theorem qvv (N:Nat) (f:YS) (n:Nat) (v:Xv) (y:JG) (h:qi4 N n f v=some y):LG Tryz.prog qgU 133 (qM qrv 3) (quC f v) (Xe f y):=
 zo qj (E:=qoS N) (L:=qL (qve N)) (st:=Xe f) (g:=some) (R:=Xe f) (qkD N) (qo (by kernel_rfl) trivial) (rg0 (by kernel_rfl)) (fun v=>by kernel_rfl) (q0 (st:=Xe f) fun y=>by rfl) n v y h
def qeW (N:Nat) (s0_3:Int) (s3_3:Int):Option JG:=qi4 N N () (s0_3,s3_3)
def qiw (N:Nat):qA:=smL qiT [(.i .u64),(.i .i64)] JG (fun x=>qeW N x.1 x.2.1) cs1 fun x=>Xe ()
theorem qtj (N:Nat):jq Tryz.prog qgU 133 (qM qrv 3) (qiw N):=zA fun x z h=>qvv N () N (x.1,x.2.1) z h
def qBa (z:Int):TV×THp:=(xi z,[])
def qgG (N:Nat) (a0:Int):Tree (Int):=
 .chk (0≤(7:Int)) <|
 .bind (qeW N (Q1 a0 7) 1) fun z1=>
 .ret z1.2.1
def qfw (N:Nat) (a0:Int):Option (Int):=(qgG N a0).run some
def qBh (N:Nat):List (Nat×qA):=[(3,qiw N)]
def qpd (N:Nat):Ent:=smF ⟨133,[],[.x (.i .u64)],[],[]⟩ [(.i .u64)] (Int) (fun x=>qfw N x.1) cs1 fun _=>qBa
theorem qza (N:Nat):zg Tryz.prog (qpd N):=
 zf (H:=qgU) (L:=qL (qBh N)) (ts:=[(.i .u64)]) (T:=fun x=>qgG N x.1) 0 qKx (qkD N) (qo (by kernel_rfl) ⟨qtj N,trivial⟩) (rg0 (by kernel_rfl)) fun x=>by kernel_rfl
noncomputable def qp0:Code:=Tryz.f108.body.getD .skip
theorem qKW:FnF Tryz.prog 108 Tryz.f108 qp0:=⟨qj,by kernel_rfl,by kernel_rfl,by kernel_rfl⟩
def qoF:TH:={ live:=[(0,[0]),(1,[0,3]),(2,[0,3,4]),(3,[0,3,4,10,11]),(4,[0,3,4,10,11,12]),(5,[0,3,4,5,10,11]),(6,[0,3,4,10,11]),(7,[0,3,4,10,11]),(8,[4]),(9,[2])],esc:=true }
def qx1 (N:Nat):List Ent:=[qpd N]
theorem qqa (N:Nat):qT Tryz.prog (qx1 N):=⟨qza N,trivial⟩
abbrev qct:=Int×Int×Nat×Int
abbrev XJ:=List UInt8×Int×Bool
def Km (f:qct) (y:XJ):Ex×TSt:=(.exit 0,⟨1,35,[],[(0,.tv (.i .u64) f.1),(3,xi f.2.1),(4,.v 100090 f.2.2.1),(10,xi f.2.2.2),(11,xi y.2.1),(12,xb y.2.2)],[(100090,.vec false 1 .bl (y.1:List UInt8))],false,[]⟩)
def qBI (N:Nat):List (Nat×qA):=[]
abbrev Kb:=List UInt8×Int
def qoT:SP:=⟨1,35,[],[(0,.x (.i .u64)),(3,.x (.i .i64)),(4,.v 100090),(10,.x (.i .i64)),(11,.x (.i .i64))],[(100090,.vec false 1)],false,[]⟩
def qBL (f:qct) (v:Kb):TSt:=zC qoT [dv .bl v.1,dv (.i .u64) f.1,dv (.i .i64) f.2.1,dv .nat f.2.2.1,dv (.i .i64) f.2.2.2,dv (.i .i64) v.2]
def qcH (N:Nat) (s0_4:Int) (s3_4:Int) (s4_4:Nat) (s10_4:Int) (v:Kb):Tree (Kb⊕XJ):=
 .cond (decide (v.2 < s10_4)) (
 .chk (qt (s3_4 - 1)) <|
 .chk (qt ((s3_4 - 1) - v.2)) <|
 .chk (qt (((7:Int)) * v.2)) <|
 .chk (0≤(((7:Int)) * v.2)) <|
 let w1:Int:=Q1 s0_4 (min (((7:Int)) * v.2).toNat 64)
 .chk (0≤((s3_4 - 1) - v.2)∧((s3_4 - 1) - v.2) < ((s4_4:Nat):Int)) <|
 .chk (qcx v.1.length s4_4 (((s3_4 - 1) - v.2).toNat)) <|
 .chk (inB (uOr .u8 (IntKind.u8.wrap w1) 128)) <|
 .chk (qt (v.2 + 1)) <|
 .ret (.inl (v.1.set (((s3_4 - 1) - v.2).toNat) (UInt8.ofNat (uOr .u8 (IntKind.u8.wrap w1) 128).toNat),v.2 + 1))) <|
 .ret (.inr (v.1,v.2,decide (v.2 < s10_4)))
def qo_ (N n:Nat) (f:qct) (v:Kb):Option XJ:=qY (qcH N f.1 f.2.1 f.2.2.1 f.2.2.2) some n v
theorem qAP (N:Nat) (f:qct) (n:Nat) (v:Kb) (y:XJ) (h:qo_ N n f v=some y):LG Tryz.prog qoF 108 (qM qp0 4) (qBL f v) (Km f y):=
 zo qj (E:=qx1 N) (L:=qL (qBI N)) (st:=Km f) (g:=some) (R:=Km f) (qqa N) (qo (by kernel_rfl) trivial) (rg0 (by kernel_rfl)) (fun v=>by kernel_rfl) (q0 (st:=Km f) fun y=>by rfl) n v y h
def qft (N:Nat) (s0_4:Int) (s3_4:Int) (s4_4:Nat) (s10_4:Int) (o_4:List UInt8) (s11_4:Int):Option XJ:=qo_ N N (s0_4,s3_4,s4_4,s10_4) (o_4,s11_4)
def qpa (N:Nat):qA:=smL qoT [.bl,(.i .u64),(.i .i64),.nat,(.i .i64),(.i .i64)] XJ (fun x=>qft N x.2.1 x.2.2.1 x.2.2.2.1 x.2.2.2.2.1 x.1 x.2.2.2.2.2.1) cs1 fun x=>Km (x.2.1,x.2.2.1,x.2.2.2.1,x.2.2.2.2.1)
theorem qy1 (N:Nat):jq Tryz.prog qoF 108 (qM qp0 4) (qpa N):=zA fun x z h=>qAP N (x.2.1,x.2.2.1,x.2.2.2.1,x.2.2.2.2.1) N (x.1,x.2.2.2.2.2.1) z h
def qHC (z:List UInt8×Nat):TV×THp:=(.v 100090 z.2,[(100090,.vec false 1 .bl (z.1:List UInt8))])
def qoQ (N:Nat) (a0:Int):Tree (List UInt8×Nat):=
 .bind (qfw N a0) fun r1=>
 .chk (qDs r1 r1 1) <|
 .bind (qft N a0 r1 (((List.replicate r1.toNat 0:List UInt8)).length) r1 ((List.replicate r1.toNat 0:List UInt8)) 0) fun z2=>
 .chk (qt (r1 - 1)) <|
 .chk (0≤(r1 - 1)∧(r1 - 1) < ((((List.replicate r1.toNat 0:List UInt8)).length:Nat):Int)) <|
 .bind (Zd z2.1 (((List.replicate r1.toNat 0:List UInt8)).length) ((r1 - 1).toNat)) fun e3=>
 let w4:Int:=qsg .u8 ((e3.toNat:Nat):Int) 128
 .chk (0≤(r1 - 1)∧(r1 - 1) < ((((List.replicate r1.toNat 0:List UInt8)).length:Nat):Int)) <|
 .chk (qcx z2.1.length (((List.replicate r1.toNat 0:List UInt8)).length) ((r1 - 1).toNat)) <|
 .chk (inB w4) <|
 .ret (z2.1.set ((r1 - 1).toNat) (UInt8.ofNat w4.toNat),((List.replicate r1.toNat 0:List UInt8)).length)
def Jy (N:Nat) (a0:Int):Option (List UInt8×Nat):=(qoQ N a0).run some
def qH0 (N:Nat):List (Nat×qA):=[(4,qpa N)]
def qd4 (N:Nat):Ent:=smF ⟨108,[],[.x (.i .u64)],[],[]⟩ [(.i .u64)] (List UInt8×Nat) (fun x=>Jy N x.1) cs1 fun _=>qHC
theorem qfA (N:Nat):zg Tryz.prog (qd4 N):=
 zf (H:=qoF) (L:=qL (qH0 N)) (ts:=[(.i .u64)]) (T:=fun x=>qoQ N x.1) 0 qKW (qqa N) (qo (by kernel_rfl) ⟨qy1 N,trivial⟩) (rg0 (by kernel_rfl)) fun x=>by kernel_rfl
noncomputable def qLL:Code:=Tryz.f109.body.getD .skip
theorem qzT:FnF Tryz.prog 109 Tryz.f109 qLL:=⟨qj,by kernel_rfl,by kernel_rfl,by kernel_rfl⟩
def qFT:TH:={ live:=[(0,[1]),(1,[1,6]),(2,[2,3]),(3,[2,3])],fresh:=[15] }
def qFd (N:Nat):List Ent:=[V0,qd4 N]
theorem qBd (N:Nat):qT Tryz.prog (qFd N):=⟨Xy,qfA N,trivial⟩
def qE_ (z:List UInt8×Bool):TV×THp:=(.tup [.tv .bl (z.1:List UInt8),xb z.2],[])
def qk0 (N:Nat) (a0:qd):Tree (List UInt8×Bool):=
 .bind (VZ a0) fun r1=>
 .cond (!r1) (
 .ret ([],false)) <|
 .chk (0≤(3:Int)) <|
 let w2:Int:=qes .u64 (IntKind.u64.wrap (qd.N a0)) 3
 let w3:Int:=uOr .u64 w2 (IntKind.u64.wrap (qd.Rep a0))
 .bind (Jy N w3) fun r4=>
 .chk (r4.1.length=r4.2) <|
 .ret (r4.1,true)
def qjQ (N:Nat) (a0:qd):Option (List UInt8×Bool):=(qk0 N a0).run some
def qFM (N:Nat):List (Nat×qA):=[]
def qtR (N:Nat):Ent:=smF ⟨109,[],[.x qi],[],[]⟩ [qi] (List UInt8×Bool) (fun x=>qjQ N x.1) cs1 fun _=>qE_
theorem qDQ (N:Nat):zg Tryz.prog (qtR N):=
 zf (H:=qFT) (L:=qL (qFM N)) (ts:=[qi]) (T:=fun x=>qk0 N x.1) 0 qzT (qBd N) (qo (by kernel_rfl) trivial) (rg0 (by kernel_rfl)) fun x=>by kernel_rfl
def qAW:TH:={ live:=[(0,[1]),(1,[1,6]),(2,[2,3]),(3,[2,3])],fresh:=[15],esc:=true }
def qBf (N:Nat):List Ent:=[V0,qd4 N]
theorem qxF (N:Nat):qT Tryz.prog (qBf N):=⟨Xy,qfA N,trivial⟩
def qBD:Unit⊕(List UInt8×Nat)→TV×THp
 | .inl z=>(.tup [.nils,.bc false],[])
 | .inr z=>(.tup [.v 100090 z.2,.bc true],[(100090,.vec false 1 .bl (z.1:List UInt8))])
def qgq (N:Nat) (a0:qd):Tree (Unit⊕(List UInt8×Nat)):=
 .bind (VZ a0) fun r1=>
 .cond (!r1) (
 .ret (.inl ())) <|
 .chk (0≤(3:Int)) <|
 let w2:Int:=qes .u64 (IntKind.u64.wrap (qd.N a0)) 3
 let w3:Int:=uOr .u64 w2 (IntKind.u64.wrap (qd.Rep a0))
 .bind (Jy N w3) fun r4=>
 .ret (.inr ((r4.1,r4.2)))
def qco (N:Nat) (a0:qd):Option (Unit⊕(List UInt8×Nat)):=(qgq N a0).run some
def qBH (N:Nat):List (Nat×qA):=[]
def qoW (N:Nat):Ent:=smF ⟨109,[],[.x qi],[],[]⟩ [qi] (Unit⊕(List UInt8×Nat)) (fun x=>qco N x.1) (csS cs1) fun _=>qBD
theorem qzq (N:Nat):zg Tryz.prog (qoW N):=
 zf (H:=qAW) (L:=qL (qBH N)) (ts:=[qi]) (T:=fun x=>qgq N x.1) 0 qzT (qxF N) (qo (by kernel_rfl) trivial) (rg0 (by kernel_rfl)) fun x=>by kernel_rfl
noncomputable def qK7:Code:=Tryz.f134.body.getD .skip
theorem qLH:FnF Tryz.prog 134 Tryz.f134 qK7:=⟨qj,by kernel_rfl,by kernel_rfl,by kernel_rfl⟩
def qF3:TH:={ live:=[(0,[0]),(1,[2])],fresh:=[6] }
def qFh (N:Nat):List Ent:=[qd4 N]
theorem qBq (N:Nat):qT Tryz.prog (qFh N):=⟨qfA N,trivial⟩
def qGg (z:List UInt8):TV×THp:=(.tv .bl z,[])
def qlQ (N:Nat) (a0:List UInt8):Tree (List UInt8):=
 let w1:Int:=IntKind.u64.wrap ((a0.length:Nat):Int)
 .bind (Jy N w1) fun r2=>
 .chk (jx r2.1.length r2.2 ((r2.1++a0).length) 1) <|
 .chk ((r2.1++a0).length=(r2.1++a0).length) <|
 .ret (r2.1++a0)
def qfL (N:Nat) (a0:List UInt8):Option (List UInt8):=(qlQ N a0).run some
def qFl (N:Nat):List (Nat×qA):=[]
def quc (N:Nat):Ent:=smF ⟨134,[],[.x .s],[],[]⟩ [.s] (List UInt8) (fun x=>qfL N x.1) cs1 fun _=>qGg
theorem qDr (N:Nat):zg Tryz.prog (quc N):=
 zf (H:=qF3) (L:=qL (qFl N)) (ts:=[.s]) (T:=fun x=>qlQ N x.1) 0 qLH (qBq N) (qo (by kernel_rfl) trivial) (rg0 (by kernel_rfl)) fun x=>by kernel_rfl
noncomputable def qKU:Code:=Tryz.f110.body.getD .skip
theorem qLN:FnF Tryz.prog 110 Tryz.f110 qKU:=⟨qj,by kernel_rfl,by kernel_rfl,by kernel_rfl⟩
def qI5:TH:={ live:=[(0,[1]),(1,[1,8]),(2,[2,3]),(3,[1,4]),(4,[2,3])],fresh:=[12],nil:=[(3,[⟨.sl 4,45,.bl⟩])] }
def qIY (N:Nat):List Ent:=[qoz,qoW N,quc N]
theorem qEJ (N:Nat):qT Tryz.prog (qIY N):=⟨qt7,qzq N,qDr N,trivial⟩
def qHz (z:List UInt8×Bool):TV×THp:=(.tup [.tv .bl (z.1:List UInt8),xb z.2],[])
def qnG (N:Nat) (a0:qe):Tree (List UInt8×Bool):=
 .bind (qam a0) fun r1=>
 .cond (!r1) (
 .ret ([],false)) <|
 .bind (qco N (qe.S a0)) fun r2=>
 .sum r2 (fun r3=>
 .bind (qfL N (qe.V a0)) fun r4=>
 .chk (jx ((([]:List UInt8)).length) 0 (((([]:List UInt8))++r4).length) 1) <|
 .chk (((([]:List UInt8))++r4).length=((([]:List UInt8))++r4).length) <|
 .ret ((([]:List UInt8))++r4,true)) fun r3=>
 .bind (qfL N (qe.V a0)) fun r4=>
 .chk (jx r3.1.length r3.2 ((r3.1++r4).length) 1) <|
 .chk ((r3.1++r4).length=(r3.1++r4).length) <|
 .ret (r3.1++r4,true)
def qoI (N:Nat) (a0:qe):Option (List UInt8×Bool):=(qnG N a0).run some
def qJd (N:Nat):List (Nat×qA):=[]
def qw3 (N:Nat):Ent:=smF ⟨110,[],[.x qv],[],[]⟩ [qv] (List UInt8×Bool) (fun x=>qoI N x.1) cs1 fun _=>qHz
theorem qFv (N:Nat):zg Tryz.prog (qw3 N):=
 zf (H:=qI5) (L:=qL (qJd N)) (ts:=[qv]) (T:=fun x=>qnG N x.1) 0 qLN (qEJ N) (qo (by kernel_rfl) trivial) (rg0 (by kernel_rfl)) fun x=>by kernel_rfl
noncomputable def qiv:Code:=Tryz.f84.body.getD .skip
theorem qM2:FnF Tryz.prog 84 Tryz.f84 qiv:=⟨qj,by kernel_rfl,by kernel_rfl,by kernel_rfl⟩
def qca:TH:={ live:=[(0,[1]),(1,[1,15]),(2,[2,3]),(3,[1,4]),(4,[4,22,23,24]),(5,[4,22,23,24,25]),(6,[4,6,22,23,24]),(7,[4,6,7,22,23,24]),(8,[4,6,22,23,24]),(9,[4,22,23,24,47,48,49]),(10,[4,22,23,24,47,48,49,50]),(11,[4,10,22,23,24,47,48,49]),(12,[4,10,11,22,23,24,47,48,49]),(13,[4,22,23,24,47,48,49]),(14,[4,22,23,24,47,48,49]),(15,[4,22,23,24]),(16,[2,3])],fresh:=[20],rd:=[(6,[6]),(11,[10])] }
def qlv (N:Nat):List Ent:=[qbz N,qd4 N,qtR N,qw3 N]
theorem qgr (N:Nat):qT Tryz.prog (qlv N):=⟨qb8 N,qfA N,qDQ N,qFv N,trivial⟩
abbrev KV:=List qa×Int×Int×List qc×Int
abbrev Vh:=List UInt8×Nat×Int×Bool
def X_ (f:KV) (y:Vh):Ex×TSt:=(.exit 2,⟨0,70,[],[(4,.v 100090 y.2.1),(22,.tv (.sl 19 qf) f.1),(23,xi f.2.1),(24,xi f.2.2.1),(47,.tv (.sl 4 qq) f.2.2.2.1),(48,xi f.2.2.2.2),(49,xi y.2.2.1),(50,xb y.2.2.2)],[(100090,.vec false 1 .bl (y.1:List UInt8))],false,[]⟩)
def qxh (N:Nat):List (Nat×qA):=[]
abbrev We:=List UInt8×Nat×Int
def qkr:SP:=⟨0,70,[],[(4,.v 100090),(22,.x (.sl 19 qf)),(23,.x (.i .i64)),(24,.x (.i .i64)),(47,.x (.sl 4 qq)),(48,.x (.i .i64)),(49,.x (.i .i64))],[(100090,.vec false 1)],false,[]⟩
def qxx (f:KV) (v:We):TSt:=zC qkr [dv .bl v.1,dv .nat v.2.1,dv (.sl 19 qf) f.1,dv (.i .i64) f.2.1,dv (.i .i64) f.2.2.1,dv (.sl 4 qq) f.2.2.2.1,dv (.i .i64) f.2.2.2.2,dv (.i .i64) v.2.2]
def KX (N:Nat) (s22_10:List qa) (s23_10:Int) (s24_10:Int) (s47_10:List qc) (s48_10:Int) (v:We):Tree (We⊕Vh):=
 .cond (decide (v.2.2 < s48_10)) (
 .bind (zk s47_10 v.2.2) fun e1=>
 .bind (qoI N (qc.C e1)) fun r2=>
 .chk (inB (IntKind.u8.wrap (qc.No e1))) <|
 .chk (jx v.1.length v.2.1 ((v.1++[UInt8.ofNat (IntKind.u8.wrap (qc.No e1)).toNat]).length) 1) <|
 .chk (jx ((v.1++[UInt8.ofNat (IntKind.u8.wrap (qc.No e1)).toNat]).length) ((v.1++[UInt8.ofNat (IntKind.u8.wrap (qc.No e1)).toNat]).length) (((v.1++[UInt8.ofNat (IntKind.u8.wrap (qc.No e1)).toNat])++r2.1).length) 1) <|
 .chk (qt (v.2.2 + 1)) <|
 .ret (.inl ((v.1++[UInt8.ofNat (IntKind.u8.wrap (qc.No e1)).toNat])++r2.1,((v.1++[UInt8.ofNat (IntKind.u8.wrap (qc.No e1)).toNat])++r2.1).length,v.2.2 + 1))) <|
 .ret (.inr (v.1,v.2.1,v.2.2,decide (v.2.2 < s48_10)))
def qks (N n:Nat) (f:KV) (v:We):Option Vh:=qY (KX N f.1 f.2.1 f.2.2.1 f.2.2.2.1 f.2.2.2.2) some n v
theorem qxj (N:Nat) (f:KV) (n:Nat) (v:We) (y:Vh) (h:qks N n f v=some y):LG Tryz.prog qca 84 (qM (qM qiv 5) 10) (qxx f v) (X_ f y):=
 zo qj (E:=qlv N) (L:=qL (qxh N)) (st:=X_ f) (g:=some) (R:=X_ f) (qgr N) (qo (by kernel_rfl) trivial) (rg0 (by kernel_rfl)) (fun v=>by kernel_rfl) (q0 (st:=X_ f) fun y=>by rfl) n v y h
def qgK (N:Nat) (s22_10:List qa) (s23_10:Int) (s24_10:Int) (s47_10:List qc) (s48_10:Int) (o_10:List UInt8) (s4_10:Nat) (s49_10:Int):Option Vh:=qks N N (s22_10,s23_10,s24_10,s47_10,s48_10) (o_10,s4_10,s49_10)
def qjT (N:Nat):qA:=smL qkr [.bl,.nat,(.sl 19 qf),(.i .i64),(.i .i64),(.sl 4 qq),(.i .i64),(.i .i64)] Vh (fun x=>qgK N x.2.2.1 x.2.2.2.1 x.2.2.2.2.1 x.2.2.2.2.2.1 x.2.2.2.2.2.2.1 x.1 x.2.1 x.2.2.2.2.2.2.2.1) cs1 fun x=>X_ (x.2.2.1,x.2.2.2.1,x.2.2.2.2.1,x.2.2.2.2.2.1,x.2.2.2.2.2.2.1)
theorem qul (N:Nat):jq Tryz.prog qca 84 (qM (qM qiv 5) 10) (qjT N):=zA fun x z h=>qxj N (x.2.2.1,x.2.2.2.1,x.2.2.2.2.1,x.2.2.2.2.2.1,x.2.2.2.2.2.2.1) N (x.1,x.2.1,x.2.2.2.2.2.2.2.1) z h
abbrev qbs:=List qa×Int
abbrev V9:=List UInt8×Nat×Int×Bool
def Yg (f:qbs) (y:V9):Ex×TSt:=(.exit 0,⟨0,70,[],[(4,.v 100090 y.2.1),(22,.tv (.sl 19 qf) f.1),(23,xi f.2),(24,xi y.2.2.1),(25,xb y.2.2.2)],[(100090,.vec false 1 .bl (y.1:List UInt8))],false,[]⟩)
def qye (N:Nat):List (Nat×qA):=[(10,qjT N)]
abbrev Yh:=List UInt8×Nat×Int
def qmV:SP:=⟨0,70,[],[(4,.v 100090),(22,.x (.sl 19 qf)),(23,.x (.i .i64)),(24,.x (.i .i64))],[(100090,.vec false 1)],false,[]⟩
def qyO (f:qbs) (v:Yh):TSt:=zC qmV [dv .bl v.1,dv .nat v.2.1,dv (.sl 19 qf) f.1,dv (.i .i64) f.2,dv (.i .i64) v.2.2]
def qba (N:Nat) (s22_5:List qa) (s23_5:Int) (v:Yh):Tree (Yh⊕V9):=
 .cond (decide (v.2.2 < s23_5)) (
 .bind (zk s22_5 v.2.2) fun e1=>
 .bind (qjQ N (qa.qB e1)) fun r2=>
 .chk (jx v.1.length v.2.1 ((v.1++((qa.ID e1).toList)).length) 1) <|
 .chk (jx ((v.1++((qa.ID e1).toList)).length) ((v.1++((qa.ID e1).toList)).length) (((v.1++((qa.ID e1).toList))++r2.1).length) 1) <|
 let w3:Int:=IntKind.u64.wrap (((qa.F e1).length:Nat):Int)
 .bind (Jy N w3) fun r4=>
 .chk (r4.1.length=r4.2) <|
 .chk (jx (((v.1++((qa.ID e1).toList))++r2.1).length) (((v.1++((qa.ID e1).toList))++r2.1).length) ((((v.1++((qa.ID e1).toList))++r2.1)++r4.1).length) 1) <|
 .bind (qgK N s22_5 s23_5 v.2.2 (qa.F e1) (((qa.F e1).length:Nat):Int) (((v.1++((qa.ID e1).toList))++r2.1)++r4.1) ((((v.1++((qa.ID e1).toList))++r2.1)++r4.1).length) 0) fun z5=>
 .chk (qt (v.2.2 + 1)) <|
 .ret (.inl (z5.1,z5.2.1,v.2.2 + 1))) <|
 .ret (.inr (v.1,v.2.1,v.2.2,decide (v.2.2 < s23_5)))
def qmg (N n:Nat) (f:qbs) (v:Yh):Option V9:=qY (qba N f.1 f.2) some n v
theorem qyT (N:Nat) (f:qbs) (n:Nat) (v:Yh) (y:V9) (h:qmg N n f v=some y):LG Tryz.prog qca 84 (qM qiv 5) (qyO f v) (Yg f y):=
 zo qj (E:=qlv N) (L:=qL (qye N)) (st:=Yg f) (g:=some) (R:=Yg f) (qgr N) (qo (by kernel_rfl) ⟨qul N,trivial⟩) (rg0 (by kernel_rfl)) (fun v=>by kernel_rfl) (q0 (st:=Yg f) fun y=>by rfl) n v y h
def qjc (N:Nat) (s22_5:List qa) (s23_5:Int) (o_5:List UInt8) (s4_5:Nat) (s24_5:Int):Option V9:=qmg N N (s22_5,s23_5) (o_5,s4_5,s24_5)
def qmv (N:Nat):qA:=smL qmV [.bl,.nat,(.sl 19 qf),(.i .i64),(.i .i64)] V9 (fun x=>qjc N x.2.2.1 x.2.2.2.1 x.1 x.2.1 x.2.2.2.2.1) cs1 fun x=>Yg (x.2.2.1,x.2.2.2.1)
theorem qwj (N:Nat):jq Tryz.prog qca 84 (qM qiv 5) (qmv N):=zA fun x z h=>qyT N (x.2.2.1,x.2.2.2.1) N (x.1,x.2.1,x.2.2.2.2.1) z h
def qFI (z:List UInt8×Bool):TV×THp:=(.tup [.tv .bl (z.1:List UInt8),xb z.2],[])
def qld (N:Nat) (a0:qb):Tree (List UInt8×Bool):=
 .bind (Wm N a0) fun r1=>
 .cond (!r1) (
 .ret ([],false)) <|
 let w2:Int:=IntKind.u64.wrap (((qb.R a0).length:Nat):Int)
 .bind (Jy N w2) fun r3=>
 .bind (qjc N (qb.R a0) (((qb.R a0).length:Nat):Int) r3.1 r3.2 0) fun z4=>
 .chk (z4.1.length=z4.2.1) <|
 .ret (z4.1,true)
def qjZ (N:Nat) (a0:qb):Option (List UInt8×Bool):=(qld N a0).run some
def qFO (N:Nat):List (Nat×qA):=[(5,qmv N)]
def qt_ (N:Nat):Ent:=smF ⟨84,[],[.x qh],[],[]⟩ [qh] (List UInt8×Bool) (fun x=>qjZ N x.1) cs1 fun _=>qFI
theorem qEj (N:Nat):zg Tryz.prog (qt_ N):=
 zf (H:=qca) (L:=qL (qFO N)) (ts:=[qh]) (T:=fun x=>qld N x.1) 0 qM2 (qgr N) (qo (by kernel_rfl) ⟨qwj N,trivial⟩) (rg0 (by kernel_rfl)) fun x=>by kernel_rfl
noncomputable def qNV:Code:=Tryz.f50.body.getD .skip
theorem qL4:FnF Tryz.prog 50 Tryz.f50 qNV:=⟨qj,by kernel_rfl,by kernel_rfl,by kernel_rfl⟩
def qzu:TH:={ live:=[(0,[1,2]),(1,[2,3]),(2,[2])] }
def qzr (N:Nat):List Ent:=[qt_ N,qqQ N]
theorem qur (N:Nat):qT Tryz.prog (qzr N):=⟨qEj N,qne N,trivial⟩
def qyL (z:Vector UInt8 32):TV×THp:=(.tv (.ba 32) z,[])
def qe0 (N:Nat) (a0:qb):Tree (Vector UInt8 32):=
 .bind (qjZ N a0) fun r1=>
 .bind (W6 N r1.1) fun r2=>
 .ret r2
def qa1 (N:Nat) (a0:qb):Option (Vector UInt8 32):=(qe0 N a0).run some
def qyQ (N:Nat):List (Nat×qA):=[]
def qmR (N:Nat):Ent:=smF ⟨50,[],[.x qh],[],[]⟩ [qh] (Vector UInt8 32) (fun x=>qa1 N x.1) cs1 fun _=>qyL
theorem qya (N:Nat):zg Tryz.prog (qmR N):=
 zf (H:=qzu) (L:=qL (qyQ N)) (ts:=[qh]) (T:=fun x=>qe0 N x.1) 0 qL4 (qur N) (qo (by kernel_rfl) trivial) (rg0 (by kernel_rfl)) fun x=>by kernel_rfl
noncomputable def qOx:Code:=Tryz.f51.body.getD .skip
theorem qNX:FnF Tryz.prog 51 Tryz.f51 qOx:=⟨qj,by kernel_rfl,by kernel_rfl,by kernel_rfl⟩
def qNm:TH:={ live:=[(0,[0,2]),(1,[2])] }
def qM4 (N:Nat):List Ent:=[qqQ N]
theorem qIH (N:Nat):qT Tryz.prog (qM4 N):=⟨qne N,trivial⟩
def qM5 (z:Vector UInt8 32):TV×THp:=(.tv (.ba 32) z,[])
def qnQ (N:Nat) (a0:List UInt8):Tree (Vector UInt8 32):=
 .chk (qkq (a0:List UInt8).length) <|
 .bind (W6 N a0) fun r1=>
 .ret r1
def qaq (N:Nat) (a0:List UInt8):Option (Vector UInt8 32):=(qnQ N a0).run some
def qNH (N:Nat):List (Nat×qA):=[]
def qfc (N:Nat):Ent:=smF ⟨51,[],[.x .s],[],[]⟩ [.s] (Vector UInt8 32) (fun x=>qaq N x.1) cs1 fun _=>qM5
theorem qgk (N:Nat):zg Tryz.prog (qfc N):=
 zf (H:=qNm) (L:=qL (qNH N)) (ts:=[.s]) (T:=fun x=>qnQ N x.1) 0 qNX (qIH N) (qo (by kernel_rfl) trivial) (rg0 (by kernel_rfl)) fun x=>by kernel_rfl
noncomputable def qKA:Code:=Tryz.f137.body.getD .skip
theorem qJl:FnF Tryz.prog 137 Tryz.f137 qKA:=⟨qj,by kernel_rfl,by kernel_rfl,by kernel_rfl⟩
def qFn:TH:={ live:=[(0,[0,1]),(1,[4])] }
def qE5 (N:Nat):List Ent:=[]
theorem qA5 (N:Nat):qT Tryz.prog (qE5 N):=trivial
def qFg (z:Int):TV×THp:=(.tv (.i .u32) z,[])
def qlr (a0:Int) (a1:Int):Tree (Int):=
 .chk (0≤(16:Int)) <|
 let w1:Int:=uOr .u32 (qes .u32 (IntKind.u32.wrap a1) 16) (IntKind.u32.wrap a0)
 .ret w1
def qqw (a0:Int) (a1:Int):Option (Int):=(qlr a0 a1).run some
def qFm:List (Nat×qA):=[]
def qt0:Ent:=smF ⟨137,[],[.x (.i .u16),.x (.i .u16)],[],[]⟩ [(.i .u16),(.i .u16)] (Int) (fun x=>qqw x.1 x.2.1) cs1 fun _=>qFg
theorem qCx:zg Tryz.prog (qt0):=
 zf (H:=qFn) (L:=qL (qFm)) (ts:=[(.i .u16),(.i .u16)]) (T:=fun x=>qlr x.1 x.2.1) 0 qJl (qA5 0) (qo (by kernel_rfl) trivial) (rg0 (by kernel_rfl)) fun x=>by kernel_rfl
noncomputable def qqI:Code:=Tryz.f115.body.getD .skip
theorem qLa:FnF Tryz.prog 115 Tryz.f115 qqI:=⟨qj,by kernel_rfl,by kernel_rfl,by kernel_rfl⟩
def qoy:TH:={ live:=[(0,[0]),(1,[0,3,4]),(2,[0,3,4,7,8]),(3,[0,3,4,7,8,9]),(4,[0,3,4,5,7,8]),(5,[0,3,4,7,8]),(6,[0,3,4,7,8]),(7,[0,3,4,7,8]),(8,[2])] }
def qxg (N:Nat):List Ent:=[qt0]
theorem qqF (N:Nat):qT Tryz.prog (qxg N):=⟨qCx,trivial⟩
abbrev qcJ:=List UInt8×Int
abbrev XL:=Int×Int×Int×Bool
def Ku (f:qcJ) (y:XL):Ex×TSt:=(.exit 0,⟨0,24,[],[(0,.tv .s f.1),(3,.tv (.i .u16) (y.1:Int)),(4,.tv (.i .u16) (y.2.1:Int)),(7,xi f.2),(8,xi y.2.2.1),(9,xb y.2.2.2)],[],false,[]⟩)
def qAJ (N:Nat):List (Nat×qA):=[]
abbrev Kc:=Int×Int×Int
def qo4:SP:=⟨0,24,[],[(0,.x .s),(3,.x (.i .u16)),(4,.x (.i .u16)),(7,.x (.i .i64)),(8,.x (.i .i64))],[],false,[]⟩
def qBj (f:qcJ) (v:Kc):TSt:=zC qo4 [dv .s f.1,dv (.i .u16) v.1,dv (.i .u16) v.2.1,dv (.i .i64) f.2,dv (.i .i64) v.2.2]
def qcy (N:Nat) (s0_3:List UInt8) (s7_3:Int) (v:Kc):Tree (Kc⊕XL):=
 .cond (decide (v.2.2 < s7_3)) (
 .bind (zk s0_3 v.2.2) fun e1=>
 let w2:Int:=IntKind.u16.wrap ((e1.toNat:Nat):Int)
 .chk (qt (v.2.2 + 1)) <|
 .ret (.inl (Wv .u16 v.1 w2,Wv .u16 v.2.1 (Wv .u16 v.1 w2),v.2.2 + 1))) <|
 .ret (.inr (v.1,v.2.1,v.2.2,decide (v.2.2 < s7_3)))
def qpe (N n:Nat) (f:qcJ) (v:Kc):Option XL:=qY (qcy N f.1 f.2) some n v
theorem qAF (N:Nat) (f:qcJ) (n:Nat) (v:Kc) (y:XL) (h:qpe N n f v=some y):LG Tryz.prog qoy 115 (qM qqI 3) (qBj f v) (Ku f y):=
 zo qj (E:=qxg N) (L:=qL (qAJ N)) (st:=Ku f) (g:=some) (R:=Ku f) (qqF N) (qo (by kernel_rfl) trivial) (rg0 (by kernel_rfl)) (fun v=>by kernel_rfl) (q0 (st:=Ku f) fun y=>by rfl) n v y h
def qlg (N:Nat) (s0_3:List UInt8) (s7_3:Int) (s3_3:Int) (s4_3:Int) (s8_3:Int):Option XL:=qpe N N (s0_3,s7_3) (s3_3,s4_3,s8_3)
def qo7 (N:Nat):qA:=smL qo4 [.s,(.i .u16),(.i .u16),(.i .i64),(.i .i64)] XL (fun x=>qlg N x.1 x.2.2.2.1 x.2.1 x.2.2.1 x.2.2.2.2.1) cs1 fun x=>Ku (x.1,x.2.2.2.1)
theorem qys (N:Nat):jq Tryz.prog qoy 115 (qM qqI 3) (qo7 N):=zA fun x z h=>qAF N (x.1,x.2.2.2.1) N (x.2.1,x.2.2.1,x.2.2.2.2.1) z h
def qJe (z:Int):TV×THp:=(.tv (.i .u32) z,[])
def qoD (N:Nat) (a0:List UInt8):Tree (Int):=
 .bind (qlg N a0 ((a0.length:Nat):Int) 0 0 0) fun z1=>
 .bind (qqw z1.1 z1.2.1) fun r2=>
 .ret r2
def qnz (N:Nat) (a0:List UInt8):Option (Int):=(qoD N a0).run some
def qHX (N:Nat):List (Nat×qA):=[(3,qo7 N)]
def qw2 (N:Nat):Ent:=smF ⟨115,[],[.x .s],[],[]⟩ [.s] (Int) (fun x=>qnz N x.1) cs1 fun _=>qJe
theorem qE2 (N:Nat):zg Tryz.prog (qw2 N):=
 zf (H:=qoy) (L:=qL (qHX N)) (ts:=[.s]) (T:=fun x=>qoD N x.1) 0 qLa (qqF N) (qo (by kernel_rfl) ⟨qys N,trivial⟩) (rg0 (by kernel_rfl)) fun x=>by kernel_rfl
noncomputable def qNe:Code:=Tryz.f86.body.getD .skip
theorem qNL:FnF Tryz.prog 86 Tryz.f86 qNe:=⟨qj,by kernel_rfl,by kernel_rfl,by kernel_rfl⟩
def qH8:TH:={ live:=[(0,[0,2]),(1,[2])] }
def qIr (N:Nat):List Ent:=[qw2 N,qfc N]
theorem qDp (N:Nat):qT Tryz.prog (qIr N):=⟨qE2 N,qgk N,trivial⟩
def qHI (z:ze):TV×THp:=(.tv vS z,[])
def qm1 (N:Nat) (a0:List UInt8):Tree (ze):=
 .bind (qnz N a0) fun r1=>
 .bind (qaq N a0) fun r2=>
 .ret (ze.mk r1 r2)
def qoO (N:Nat) (a0:List UInt8):Option (ze):=(qm1 N a0).run some
def qIC (N:Nat):List (Nat×qA):=[]
def qwa (N:Nat):Ent:=smF ⟨86,[],[.x .s],[],[]⟩ [.s] (ze) (fun x=>qoO N x.1) cs1 fun _=>qHI
theorem qFJ (N:Nat):zg Tryz.prog (qwa N):=
 zf (H:=qH8) (L:=qL (qIC N)) (ts:=[.s]) (T:=fun x=>qm1 N x.1) 0 qNL (qDp N) (qo (by kernel_rfl) trivial) (rg0 (by kernel_rfl)) fun x=>by kernel_rfl
noncomputable def qvr:Code:=Tryz.f52.body.getD .skip
theorem qMV:FnF Tryz.prog 52 Tryz.f52 qvr:=⟨qj,by kernel_rfl,by kernel_rfl,by kernel_rfl⟩
def qrA:TH:={ live:=[(0,[0]),(1,[0,6]),(2,[2]),(3,[0,3]),(4,[0,3,9]),(5,[0,3]),(6,[0,3]),(7,[2])],nil:=[(3,[⟨.sl 3,35,(.sl 33 vS)⟩])] }
def qz8 (N:Nat):List Ent:=[qwa N]
theorem qtH (N:Nat):qT Tryz.prog (qz8 N):=⟨qFJ N,trivial⟩
abbrev qdR:=Unit
abbrev Yu:=List ze×List UInt8×Bool
def qax (f:qdR) (y:Yu):Ex×TSt:=(.exit 0,⟨0,19,[],[(0,.tv .s (y.2.1:List UInt8)),(3,.v 35 y.1.length),(9,xb y.2.2)],[(35,.vec false 33 (.sl 33 vS) (y.1:List ze))],false,[]⟩)
def qD0 (N:Nat):List (Nat×qA):=[]
abbrev qaA:=List ze×List UInt8
def qpX:SP:=⟨0,19,[],[(0,.x .s),(3,.vs 35)],[(35,.vec false 33)],false,[]⟩
def qDk (f:qdR) (v:qaA):TSt:=zC qpX [dv (.sl 33 vS) v.1,dv .s v.2]
def qex (N:Nat) (v:qaA):Tree (qaA⊕Yu):=
 .cond (decide (((8:Int))≤((v.2.length:Nat):Int))) (
 .chk (0≤(0:Int)∧(0:Int)≤(8:Int)∧(8:Int)≤((v.2.length:Nat):Int)) <|
 .bind (qoO N ((v.2.take 8).drop 0)) fun r1=>
 .chk (jx v.1.length v.1.length ((v.1++[r1]).length) 36) <|
 .chk (0≤(8:Int)∧(8:Int)≤((v.2.length:Nat):Int)) <|
 .ret (.inl (v.1++[r1],v.2.drop 8))) <|
 .ret (.inr (v.1,v.2,decide (((8:Int))≤((v.2.length:Nat):Int))))
def qq5 (N n:Nat) (f:qdR) (v:qaA):Option Yu:=qY (qex N) some n v
theorem qCY (N:Nat) (f:qdR) (n:Nat) (v:qaA) (y:Yu) (h:qq5 N n f v=some y):LG Tryz.prog qrA 52 (qM qvr 4) (qDk f v) (qax f y):=
 zo qj (E:=qz8 N) (L:=qL (qD0 N)) (st:=qax f) (g:=some) (R:=qax f) (qtH N) (qo (by kernel_rfl) trivial) (rg0 (by kernel_rfl)) (fun v=>by kernel_rfl) (q0 (st:=qax f) fun y=>by rfl) n v y h
def qm7 (N:Nat) (o_4:List ze) (s0_4:List UInt8):Option Yu:=qq5 N N () (o_4,s0_4)
def qqB (N:Nat):qA:=smL qpX [(.sl 33 vS),.s] Yu (fun x=>qm7 N x.1 x.2.1) cs1 fun x=>qax ()
theorem qBP (N:Nat):jq Tryz.prog qrA 52 (qM qvr 4) (qqB N):=zA fun x z h=>qCY N () N (x.1,x.2.1) z h
def qLM (z:List ze):TV×THp:=(.tv (.sl 33 vS) z,[])
def qqY (N:Nat) (a0:List UInt8):Tree (List ze):=
 .cond (decide (((a0.length:Nat):Int) < ((24:Int)))) (
 .ret []) <|
 .bind (zO [(([]:List ze).length,0)] (qm7 N [] a0)) fun z1=>
 .chk (z1.1.length=z1.1.length) <|
 .ret z1.1
def qsy (N:Nat) (a0:List UInt8):Option (List ze):=(qqY N a0).run some
def qJS (N:Nat):List (Nat×qA):=[(4,qqB N)]
def qAe (N:Nat):Ent:=smF ⟨52,[],[.x .s],[],[]⟩ [.s] (List ze) (fun x=>qsy N x.1) cs1 fun _=>qLM
theorem qJg (N:Nat):zg Tryz.prog (qAe N):=
 zf (H:=qrA) (L:=qL (qJS N)) (ts:=[.s]) (T:=fun x=>qqY N x.1) 0 qMV (qtH N) (qo (by kernel_rfl) ⟨qBP N,trivial⟩) (rg0 (by kernel_rfl)) fun x=>by kernel_rfl
noncomputable def qiS:Code:=Tryz.f21.body.getD .skip
theorem qNS:FnF Tryz.prog 21 Tryz.f21 qiS:=⟨qj,by kernel_rfl,by kernel_rfl,by kernel_rfl⟩
def Kl:TH:={ live:=[(0,[1,2]),(1,[1,2,13]),(2,[2,3]),(3,[1,2,4]),(4,[2,4,19,20,21]),(5,[2,4,19,20,21,22]),(6,[2,4,6,19,20,21]),(7,[2,4,6,7,19,20,21]),(8,[2,4,7,19,20,21,31,32,33]),(9,[2,4,7,19,20,21,31,32,33,34]),(10,[2,4,7,9,19,20,21,31,32,33]),(11,[2,4,7,9,10,19,20,21,31,32,33]),(12,[2,4,7,19,20,21,31,32,33]),(13,[2,4,7,19,20,21,31,32,33]),(14,[2,4,19,20,21]),(15,[2,4,19,20,21]),(16,[2,3])],nil:=[(0,[⟨.ob 20 [1],24,(.sl 19 qQ)⟩]),(2,[⟨.ob 20 [1],24,(.sl 19 qQ)⟩]),(3,[⟨.ob 40 [1],44,(.sl 19 qQ)⟩]),(7,[⟨.ob 70 [2],75,(.sl 37 q6)⟩])] }
def qgJ (N:Nat):List Ent:=[qbz N,qmR N,qfc N,qAe N]
theorem qd2 (N:Nat):qT Tryz.prog (qgJ N):=⟨qb8 N,qya N,qgk N,qJg N,trivial⟩
abbrev Y6:=List ql×List ql×Vector UInt8 32×Vector UInt8 32×Vector UInt8 16×qd×List qa×Int×Int×List qc×Int
abbrev JE:=List qn×Int×Bool
def Xx (f:Y6) (y:JE):Ex×TSt:=(.exit 2,⟨0,66,[],[(2,.p 20 [] 0),(4,.p 40 [] 0),(7,.p 70 [] 0),(19,.tv (.sl 19 qf) f.2.2.2.2.2.2.1),(20,xi f.2.2.2.2.2.2.2.1),(21,xi f.2.2.2.2.2.2.2.2.1),(31,.tv (.sl 4 qq) f.2.2.2.2.2.2.2.2.2.1),(32,xi f.2.2.2.2.2.2.2.2.2.2),(33,xi y.2.1),(34,xb y.2.2)],[(20,.cell false (.ag [.tv (.ba 32) f.2.2.1,.v 24 f.1.length])),(24,.vec false 19 (.sl 19 qQ) f.1),(40,.cell false (.ag [.tv (.ba 32) f.2.2.2.1,.v 44 f.2.1.length])),(44,.vec false 19 (.sl 19 qQ) f.2.1),(70,.cell false (.ag [.tv (.ba 16) f.2.2.2.2.1,.tv qi f.2.2.2.2.2.1,.v 75 y.1.length])),(75,.vec false 37 (.sl 37 q6) (y.1:List qn))],false,[]⟩)
def qvi (N:Nat):List (Nat×qA):=[]
abbrev Xt:=List qn×Int
def qja:SP:=⟨0,66,[],[(2,.k (.p 20 [] 0)),(4,.k (.p 40 [] 0)),(7,.k (.p 70 [] 0)),(19,.x (.sl 19 qf)),(20,.x (.i .i64)),(21,.x (.i .i64)),(31,.x (.sl 4 qq)),(32,.x (.i .i64)),(33,.x (.i .i64))],[(20,.cell false (.ag [.x (.ba 32),.vs 24])),(24,.vec false 19),(40,.cell false (.ag [.x (.ba 32),.vs 44])),(44,.vec false 19),(70,.cell false (.ag [.x (.ba 16),.x qi,.vs 75])),(75,.vec false 37)],false,[]⟩
def qvG (f:Y6) (v:Xt):TSt:=zC qja [dv (.sl 19 qQ) f.1,dv (.sl 19 qQ) f.2.1,dv (.sl 37 q6) v.1,dv (.ba 32) f.2.2.1,dv (.ba 32) f.2.2.2.1,dv (.ba 16) f.2.2.2.2.1,dv qi f.2.2.2.2.2.1,dv (.sl 19 qf) f.2.2.2.2.2.2.1,dv (.i .i64) f.2.2.2.2.2.2.2.1,dv (.i .i64) f.2.2.2.2.2.2.2.2.1,dv (.sl 4 qq) f.2.2.2.2.2.2.2.2.2.1,dv (.i .i64) f.2.2.2.2.2.2.2.2.2.2,dv (.i .i64) v.2]
def YC (N:Nat) (o_9:List ql) (o_9_2:List ql) (o_9_4:Vector UInt8 32) (o_9_5:Vector UInt8 32) (o_9_6:Vector UInt8 16) (o_9_7:qd) (s19_9:List qa) (s20_9:Int) (s21_9:Int) (s31_9:List qc) (s32_9:Int) (v:Xt):Tree (Xt⊕JE):=
 .cond (decide (v.2 < s32_9)) (
 .bind (zk s31_9 v.2) fun e1=>
 .bind (qaq N (qe.V (qc.C e1))) fun r2=>
 .bind (qsy N (qe.V (qc.C e1))) fun r3=>
 .chk (jx v.1.length v.1.length ((v.1++[qn.mk (qc.No e1) (qe.S (qc.C e1)) (((qe.V (qc.C e1)).length:Nat):Int) r2 r3]).length) 88) <|
 .chk (qt (v.2 + 1)) <|
 .ret (.inl (v.1++[qn.mk (qc.No e1) (qe.S (qc.C e1)) (((qe.V (qc.C e1)).length:Nat):Int) r2 r3],v.2 + 1))) <|
 .ret (.inr (v.1,v.2,decide (v.2 < s32_9)))
def qiG (N n:Nat) (f:Y6) (v:Xt):Option JE:=qY (YC N f.1 f.2.1 f.2.2.1 f.2.2.2.1 f.2.2.2.2.1 f.2.2.2.2.2.1 f.2.2.2.2.2.2.1 f.2.2.2.2.2.2.2.1 f.2.2.2.2.2.2.2.2.1 f.2.2.2.2.2.2.2.2.2.1 f.2.2.2.2.2.2.2.2.2.2) some n v
theorem quS (N:Nat) (f:Y6) (n:Nat) (v:Xt) (y:JE) (h:qiG N n f v=some y):LG Tryz.prog Kl 21 (qM (qM qiS 5) 9) (qvG f v) (Xx f y):=
 zo qj (E:=qgJ N) (L:=qL (qvi N)) (st:=Xx f) (g:=some) (R:=Xx f) (qd2 N) (qo (by kernel_rfl) trivial) (rg0 (by kernel_rfl)) (fun v=>by kernel_rfl) (q0 (st:=Xx f) fun y=>by rfl) n v y h
def qbh (N:Nat) (o_9:List ql) (o_9_2:List ql) (o_9_4:Vector UInt8 32) (o_9_5:Vector UInt8 32) (o_9_6:Vector UInt8 16) (o_9_7:qd) (s19_9:List qa) (s20_9:Int) (s21_9:Int) (s31_9:List qc) (s32_9:Int) (o_9_3:List qn) (s33_9:Int):Option JE:=qiG N N (o_9,o_9_2,o_9_4,o_9_5,o_9_6,o_9_7,s19_9,s20_9,s21_9,s31_9,s32_9) (o_9_3,s33_9)
def qil (N:Nat):qA:=smL qja [(.sl 19 qQ),(.sl 19 qQ),(.sl 37 q6),(.ba 32),(.ba 32),(.ba 16),qi,(.sl 19 qf),(.i .i64),(.i .i64),(.sl 4 qq),(.i .i64),(.i .i64)] JE (fun x=>qbh N x.1 x.2.1 x.2.2.2.1 x.2.2.2.2.1 x.2.2.2.2.2.1 x.2.2.2.2.2.2.1 x.2.2.2.2.2.2.2.1 x.2.2.2.2.2.2.2.2.1 x.2.2.2.2.2.2.2.2.2.1 x.2.2.2.2.2.2.2.2.2.2.1 x.2.2.2.2.2.2.2.2.2.2.2.1 x.2.2.1 x.2.2.2.2.2.2.2.2.2.2.2.2.1) cs1 fun x=>Xx (x.1,x.2.1,x.2.2.2.1,x.2.2.2.2.1,x.2.2.2.2.2.1,x.2.2.2.2.2.2.1,x.2.2.2.2.2.2.2.1,x.2.2.2.2.2.2.2.2.1,x.2.2.2.2.2.2.2.2.2.1,x.2.2.2.2.2.2.2.2.2.2.1,x.2.2.2.2.2.2.2.2.2.2.2.1)
theorem qtb (N:Nat):jq Tryz.prog Kl 21 (qM (qM qiS 5) 9) (qil N):=zA fun x z h=>quS N (x.1,x.2.1,x.2.2.2.1,x.2.2.2.2.1,x.2.2.2.2.2.1,x.2.2.2.2.2.2.1,x.2.2.2.2.2.2.2.1,x.2.2.2.2.2.2.2.2.1,x.2.2.2.2.2.2.2.2.2.1,x.2.2.2.2.2.2.2.2.2.2.1,x.2.2.2.2.2.2.2.2.2.2.2.1) N (x.2.2.1,x.2.2.2.2.2.2.2.2.2.2.2.2.1) z h
abbrev Y0:=List ql×Vector UInt8 32×Vector UInt8 32×List qa×Int
abbrev JH:=List ql×Int×Bool
def Xd (f:Y0) (y:JH):Ex×TSt:=(.exit 0,⟨0,66,[],[(2,.p 20 [] 0),(4,.p 40 [] 0),(19,.tv (.sl 19 qf) f.2.2.2.1),(20,xi f.2.2.2.2),(21,xi y.2.1),(22,xb y.2.2)],[(20,.cell false (.ag [.tv (.ba 32) f.2.1,.v 24 f.1.length])),(24,.vec false 19 (.sl 19 qQ) f.1),(40,.cell false (.ag [.tv (.ba 32) f.2.2.1,.v 44 y.1.length])),(44,.vec false 19 (.sl 19 qQ) (y.1:List ql))],false,[]⟩)
def qvp (N:Nat):List (Nat×qA):=[(9,qil N)]
abbrev Xr:=List ql×Int
def qiJ:SP:=⟨0,66,[],[(2,.k (.p 20 [] 0)),(4,.k (.p 40 [] 0)),(19,.x (.sl 19 qf)),(20,.x (.i .i64)),(21,.x (.i .i64))],[(20,.cell false (.ag [.x (.ba 32),.vs 24])),(24,.vec false 19),(40,.cell false (.ag [.x (.ba 32),.vs 44])),(44,.vec false 19)],false,[]⟩
def quA (f:Y0) (v:Xr):TSt:=zC qiJ [dv (.sl 19 qQ) f.1,dv (.sl 19 qQ) v.1,dv (.ba 32) f.2.1,dv (.ba 32) f.2.2.1,dv (.sl 19 qf) f.2.2.2.1,dv (.i .i64) f.2.2.2.2,dv (.i .i64) v.2]
def Y8 (N:Nat) (o_5:List ql) (o_5_3:Vector UInt8 32) (o_5_4:Vector UInt8 32) (s19_5:List qa) (s20_5:Int) (v:Xr):Tree (Xr⊕JH):=
 .cond (decide (v.2 < s20_5)) (
 .bind (zk s19_5 v.2) fun e1=>
 .bind (zO [(o_5.length,o_5.length),(v.1.length,v.1.length),(([]:List qn).length,0)] (qbh N o_5 v.1 o_5_3 o_5_4 (qa.ID e1) (qa.qB e1) s19_5 s20_5 v.2 (qa.F e1) (((qa.F e1).length:Nat):Int) [] 0)) fun z2=>
 .chk (z2.1.length=z2.1.length) <|
 .chk (jx v.1.length v.1.length ((v.1++[ql.mk (qa.ID e1) (qa.qB e1) z2.1]).length) 56) <|
 .chk (qt (v.2 + 1)) <|
 .ret (.inl (v.1++[ql.mk (qa.ID e1) (qa.qB e1) z2.1],v.2 + 1))) <|
 .ret (.inr (v.1,v.2,decide (v.2 < s20_5)))
def qif (N n:Nat) (f:Y0) (v:Xr):Option JH:=qY (Y8 N f.1 f.2.1 f.2.2.1 f.2.2.2.1 f.2.2.2.2) some n v
theorem quv (N:Nat) (f:Y0) (n:Nat) (v:Xr) (y:JH) (h:qif N n f v=some y):LG Tryz.prog Kl 21 (qM qiS 5) (quA f v) (Xd f y):=
 zo qj (E:=qgJ N) (L:=qL (qvp N)) (st:=Xd f) (g:=some) (R:=Xd f) (qd2 N) (qo (by kernel_rfl) ⟨qtb N,trivial⟩) (rg0 (by kernel_rfl)) (fun v=>by kernel_rfl) (q0 (st:=Xd f) fun y=>by rfl) n v y h
def qbg (N:Nat) (o_5:List ql) (o_5_3:Vector UInt8 32) (o_5_4:Vector UInt8 32) (s19_5:List qa) (s20_5:Int) (o_5_2:List ql) (s21_5:Int):Option JH:=qif N N (o_5,o_5_3,o_5_4,s19_5,s20_5) (o_5_2,s21_5)
def qiH (N:Nat):qA:=smL qiJ [(.sl 19 qQ),(.sl 19 qQ),(.ba 32),(.ba 32),(.sl 19 qf),(.i .i64),(.i .i64)] JH (fun x=>qbg N x.1 x.2.2.1 x.2.2.2.1 x.2.2.2.2.1 x.2.2.2.2.2.1 x.2.1 x.2.2.2.2.2.2.1) cs1 fun x=>Xd (x.1,x.2.2.1,x.2.2.2.1,x.2.2.2.2.1,x.2.2.2.2.2.1)
theorem qsY (N:Nat):jq Tryz.prog Kl 21 (qM qiS 5) (qiH N):=zA fun x z h=>quv N (x.1,x.2.2.1,x.2.2.2.1,x.2.2.2.2.1,x.2.2.2.2.2.1) N (x.2.1,x.2.2.2.2.2.2.1) z h
def qBK (z:qp×Bool):TV×THp:=(.tup [.tv qH (z.1:qp),xb z.2],[])
def qcK (N:Nat) (a0:qb):Tree (qp×Bool):=
 .bind (Wm N a0) fun r1=>
 .cond (!r1) (
 .chk (0=0) <|
 .ret (qp.mk ((Vector.replicate 32 0)) [],false)) <|
 .bind (qa1 N a0) fun r2=>
 .bind (zO [(([]:List ql).length,0),(([]:List ql).length,0)] (qbg N [] ((Vector.replicate 32 0)) r2 (qb.R a0) (((qb.R a0).length:Nat):Int) [] 0)) fun z3=>
 .chk (z3.1.length=z3.1.length) <|
 .ret (qp.mk r2 z3.1,true)
def Wr (N:Nat) (a0:qb):Option (qp×Bool):=(qcK N a0).run some
def qBz (N:Nat):List (Nat×qA):=[(5,qiH N)]
def qpg (N:Nat):Ent:=smF ⟨21,[],[.x qh],[],[]⟩ [qh] (qp×Bool) (fun x=>Wr N x.1) cs1 fun _=>qBK
theorem qzB (N:Nat):zg Tryz.prog (qpg N):=
 zf (H:=Kl) (L:=qL (qBz N)) (ts:=[qh]) (T:=fun x=>qcK N x.1) 0 qNS (qd2 N) (qo (by kernel_rfl) ⟨qsY N,trivial⟩) (rg0 (by kernel_rfl)) fun x=>by kernel_rfl
noncomputable def qNB:Code:=Tryz.f87.body.getD .skip
theorem qNk:FnF Tryz.prog 87 Tryz.f87 qNB:=⟨qj,by kernel_rfl,by kernel_rfl,by kernel_rfl⟩
def qtn:TH:={ live:=[(0,[0,1]),(1,[0,1,6]),(2,[0,1]),(3,[0,1]),(4,[0,1,16]),(5,[0]),(6,[4])],esc:=true,nil:=[(5,[⟨.sl 0,900000870,(.sl 19 qf)⟩])] }
def qs6 (N:Nat):List Ent:=[]
theorem qpO (N:Nat):qT Tryz.prog (qs6 N):=trivial
def qtq:Unit⊕Unit→TV×THp
 | .inl z=>(.v 900000870 0,[(900000870,.vec false 19 (.sl 19 qf) ([]:List qa))])
 | .inr z=>(.nils,[])
def WM (a0:Int):Tree (Unit⊕Unit):=
 .cond (decide (a0 < ((0:Int)))) (
 .no) <|
 .chk (qt a0) <|
 .cond (decide (((0:Int)) < a0)) (
 .chk (0 < a0∧a0.toNat * 56≤zc) <|
 .ret (.inl ())) <|
 .ret (.inr ())
def J6 (a0:Int):Option (Unit⊕Unit):=(WM a0).run some
def qty:List (Nat×qA):=[]
def qhh:Ent:=smF ⟨87,[],[.k .nils,.x (.i .i64)],[],[]⟩ [(.i .i64)] (Unit⊕Unit) (fun x=>J6 x.1) (csS cs1) fun _=>qtq
theorem qqy:zg Tryz.prog (qhh):=
 zf (H:=qtn) (L:=qL (qty)) (ts:=[(.i .i64)]) (T:=fun x=>WM x.1) 0 qNk (qpO 0) (qo (by kernel_rfl) trivial) (rg0 (by kernel_rfl)) fun x=>by kernel_rfl
noncomputable def qiV:Code:=Tryz.f53.body.getD .skip
theorem qNl:FnF Tryz.prog 53 Tryz.f53 qiV:=⟨qj,by kernel_rfl,by kernel_rfl,by kernel_rfl⟩
def Jm:TH:={ live:=[(0,[0]),(1,[0,3]),(2,[0,3,9,10,11]),(3,[0,3,9,10,11,12]),(4,[0,3,5,9,10,11]),(5,[0,3,9,10,11]),(6,[0,3,9,10,11,20]),(7,[0,3,9,10,11]),(8,[0,3,9,10,11]),(9,[0,6]),(10,[6,25,26,27]),(11,[6,25,26,27,28]),(12,[6,8,25,26,27]),(13,[6,25,26,27]),(14,[6,25,26,27]),(15,[2])],raw:=[87],fresh:=[24],nil:=[(9,[⟨.sl 6,900000870,(.sl 19 qf)⟩])] }
def KP (N:Nat):List Ent:=[qhh]
theorem W0 (N:Nat):qT Tryz.prog (KP N):=⟨qqy,trivial⟩
abbrev JS:=List (List qa)×List (List qa)×Int
abbrev vO:=Int×Int×Bool
def Q2 (f:JS) (y:vO):Ex×TSt:=(.exit 0,⟨0,36,[],[(0,.tv (.sl 1 (.sl 19 qf)) f.1),(3,xi y.1),(9,.tv (.sl 1 (.sl 19 qf)) f.2.1),(10,xi f.2.2),(11,xi y.2.1),(12,xb y.2.2)],[],false,[]⟩)
def qk6 (N:Nat):List (Nat×qA):=[]
abbrev Q5:=Int×Int
def qcd:SP:=⟨0,36,[],[(0,.x (.sl 1 (.sl 19 qf))),(3,.x (.i .i64)),(9,.x (.sl 1 (.sl 19 qf))),(10,.x (.i .i64)),(11,.x (.i .i64))],[],false,[]⟩
def qkG (f:JS) (v:Q5):TSt:=zC qcd [dv (.sl 1 (.sl 19 qf)) f.1,dv (.i .i64) v.1,dv (.sl 1 (.sl 19 qf)) f.2.1,dv (.i .i64) f.2.2,dv (.i .i64) v.2]
def JU (N:Nat) (s0_3:List (List qa)) (s9_3:List (List qa)) (s10_3:Int) (v:Q5):Tree (Q5⊕vO):=
 .cond (decide (v.2 < s10_3)) (
 .bind (zk s9_3 v.2) fun e1=>
 .chk (qt (v.1 + ((e1.length:Nat):Int))) <|
 .cond (decide ((v.1 + ((e1.length:Nat):Int)) < 0)) (
 .no) <|
 .chk (qt (v.2 + 1)) <|
 .ret (.inl (v.1 + ((e1.length:Nat):Int),v.2 + 1))) <|
 .ret (.inr (v.1,v.2,decide (v.2 < s10_3)))
def qcp (N n:Nat) (f:JS) (v:Q5):Option vO:=qY (JU N f.1 f.2.1 f.2.2) some n v
theorem qkR (N:Nat) (f:JS) (n:Nat) (v:Q5) (y:vO) (h:qcp N n f v=some y):LG Tryz.prog Jm 53 (qM qiV 3) (qkG f v) (Q2 f y):=
 zo qj (E:=KP N) (L:=qL (qk6 N)) (st:=Q2 f) (g:=some) (R:=Q2 f) (W0 N) (qo (by kernel_rfl) trivial) (rg0 (by kernel_rfl)) (fun v=>by kernel_rfl) (q0 (st:=Q2 f) fun y=>by rfl) n v y h
def YA (N:Nat) (s0_3:List (List qa)) (s9_3:List (List qa)) (s10_3:Int) (s3_3:Int) (s11_3:Int):Option vO:=qcp N N (s0_3,s9_3,s10_3) (s3_3,s11_3)
def qb3 (N:Nat):qA:=smL qcd [(.sl 1 (.sl 19 qf)),(.i .i64),(.sl 1 (.sl 19 qf)),(.i .i64),(.i .i64)] vO (fun x=>YA N x.1 x.2.2.1 x.2.2.2.1 x.2.1 x.2.2.2.2.1) cs1 fun x=>Q2 (x.1,x.2.2.1,x.2.2.2.1)
theorem qjD (N:Nat):jq Tryz.prog Jm 53 (qM qiV 3) (qb3 N):=zA fun x z h=>qkR N (x.1,x.2.2.1,x.2.2.2.1) N (x.2.1,x.2.2.2.2.1) z h
abbrev Jh:=List (List qa)×Int
abbrev vw:=List qa×Int×Bool
def QF (f:Jh) (y:vw):Ex×TSt:=(.exit 2,⟨0,36,[],[(6,.v 900000870 y.1.length),(25,.tv (.sl 1 (.sl 19 qf)) f.1),(26,xi f.2),(27,xi y.2.1),(28,xb y.2.2)],[(900000870,.vec false 19 (.sl 19 qf) (y.1:List qa))],false,[]⟩)
def qjL (N:Nat):List (Nat×qA):=[]
abbrev QE:=List qa×Int
def qbN:SP:=⟨0,36,[],[(6,.vs 900000870),(25,.x (.sl 1 (.sl 19 qf))),(26,.x (.i .i64)),(27,.x (.i .i64))],[(900000870,.vec false 19)],false,[]⟩
def qjB (f:Jh) (v:QE):TSt:=zC qbN [dv (.sl 19 qf) v.1,dv (.sl 1 (.sl 19 qf)) f.1,dv (.i .i64) f.2,dv (.i .i64) v.2]
def Jj (N:Nat) (s25_11:List (List qa)) (s26_11:Int) (v:QE):Tree (QE⊕vw):=
 .cond (decide (v.2 < s26_11)) (
 .bind (zk s25_11 v.2) fun e1=>
 .chk (jx v.1.length v.1.length ((v.1++e1).length) 56) <|
 .chk (qt (v.2 + 1)) <|
 .ret (.inl (v.1++e1,v.2 + 1))) <|
 .ret (.inr (v.1,v.2,decide (v.2 < s26_11)))
def qbE (N n:Nat) (f:Jh) (v:QE):Option vw:=qY (Jj N f.1 f.2) some n v
theorem qjF (N:Nat) (f:Jh) (n:Nat) (v:QE) (y:vw) (h:qbE N n f v=some y):LG Tryz.prog Jm 53 (qM qiV 11) (qjB f v) (QF f y):=
 zo qj (E:=KP N) (L:=qL (qjL N)) (st:=QF f) (g:=some) (R:=QF f) (W0 N) (qo (by kernel_rfl) trivial) (rg0 (by kernel_rfl)) (fun v=>by kernel_rfl) (q0 (st:=QF f) fun y=>by rfl) n v y h
def Vf (N:Nat) (s25_11:List (List qa)) (s26_11:Int) (o_11:List qa) (s27_11:Int):Option vw:=qbE N N (s25_11,s26_11) (o_11,s27_11)
def qbB (N:Nat):qA:=smL qbN [(.sl 19 qf),(.sl 1 (.sl 19 qf)),(.i .i64),(.i .i64)] vw (fun x=>Vf N x.2.1 x.2.2.1 x.1 x.2.2.2.1) cs1 fun x=>QF (x.2.1,x.2.2.1)
theorem qiK (N:Nat):jq Tryz.prog Jm 53 (qM qiV 11) (qbB N):=zA fun x z h=>qjF N (x.2.1,x.2.2.1) N (x.1,x.2.2.2.1) z h
def qpP (z:List qa):TV×THp:=(.tv (.sl 19 qf) z,[])
def KQ (N:Nat) (a0:List (List qa)):Tree (List qa):=
 .bind (YA N a0 a0 ((a0.length:Nat):Int) 0 0) fun z1=>
 .bind (J6 z1.1) fun r2=>
 .sum r2 (fun r3=>
 .bind (zO [(([]:List qa).length,0)] (Vf N a0 ((a0.length:Nat):Int) [] 0)) fun z4=>
 .chk (z4.1.length=z4.1.length) <|
 .ret z4.1) fun r3=>
 .bind (zO [(([]:List qa).length,0)] (Vf N a0 ((a0.length:Nat):Int) [] 0)) fun z4=>
 .chk (z4.1.length=z4.1.length) <|
 .ret z4.1
def WD (N:Nat) (a0:List (List qa)):Option (List qa):=(KQ N a0).run some
def qpM (N:Nat):List (Nat×qA):=[(3,qb3 N),(11,qbB N)]
def qeN (N:Nat):Ent:=smF ⟨53,[],[.x (.sl 1 (.sl 19 qf))],[],[]⟩ [(.sl 1 (.sl 19 qf))] (List qa) (fun x=>WD N x.1) cs1 fun _=>qpP
theorem qn1 (N:Nat):zg Tryz.prog (qeN N):=
 zf (H:=Jm) (L:=qL (qpM N)) (ts:=[(.sl 1 (.sl 19 qf))]) (T:=fun x=>KQ N x.1) 0 qNl (W0 N) (qo (by kernel_rfl) ⟨qjD N,qiK N,trivial⟩) (rg0 (by kernel_rfl)) fun x=>by kernel_rfl
noncomputable def qNx:Code:=Tryz.f88.body.getD .skip
theorem quR:FnF Tryz.prog 88 Tryz.f88 qNx:=⟨qj,by kernel_rfl,by kernel_rfl,by kernel_rfl⟩
def qnU:TH:={ live:=[(0,[0]),(1,[0,4]),(2,[2]),(3,[2])],vecs:=[5] }
def qoK (N:Nat):List Ent:=[]
theorem qk3 (N:Nat):qT Tryz.prog (qoK N):=trivial
def qdx (a0:List qc) (z:Unit):TV×THp:=(.tv (.sl 4 qq) ((([]:List qc))++a0:List qc),[])
def Y7 (a0:List qc):Tree (Unit):=
 .chk (List.isEmpty a0=false) <|
 .chk (jx ((([]:List qc)).length) 0 (((([]:List qc))++a0).length) 40) <|
 .chk (((([]:List qc))++a0).length=((([]:List qc))++a0).length) <|
 .ret ()
def qat (a0:List qc):Option (Unit):=(Y7 a0).run some
def qnS:List (Nat×qA):=[]
theorem qlU:YM Tryz.prog ⟨88,[],[.x (.sl 4 qq)],[],[]⟩ [(.sl 4 qq)] (fun x=>Y7 x.1) (fun x=>qdx x.1):=
 Xm (H:=qnU) (L:=qL (qnS)) 0 quR (qk3 0) (qo (by kernel_rfl) trivial) (rg0 (by kernel_rfl)) fun x=>by kernel_rfl
def qk7:TH:={ live:=[(0,[0]),(1,[0,4]),(2,[2]),(3,[2])],vecs:=[5] }
def qle (N:Nat):List Ent:=[]
theorem qiM (N:Nat):qT Tryz.prog (qle N):=trivial
def qkH (z:Unit):TV×THp:=(.tv (.sl 4 qq) ([]:List qc),[])
def qcq:Tree (Unit):=
 .chk (0=0) <|
 .chk (0=0) <|
 .ret ()
def qnv:Option (Unit):=(qcq).run some
def qkF:List (Nat×qA):=[]
theorem qiN:YM Tryz.prog ⟨88,[],[.k (.es 0)],[],[]⟩ [] (fun x=>qcq) (fun _=>qkH):=
 Xm (H:=qk7) (L:=qL (qkF)) 0 quR (qiM 0) (qo (by kernel_rfl) trivial) (rg0 (by kernel_rfl)) fun x=>by kernel_rfl
def qkQ:TH:={ live:=[(0,[0]),(1,[0,4]),(2,[2]),(3,[2])],vecs:=[5] }
def qlB (N:Nat):List Ent:=[]
theorem qiq (N:Nat):qT Tryz.prog (qlB N):=trivial
def qlK (z:Unit):TV×THp:=(.tv (.sl 4 qq) ([]:List qc),[])
def qcm:Tree (Unit):=
 .ret ()
def qmZ:Option (Unit):=(qcm).run some
def qlq:List (Nat×qA):=[]
theorem qi2:YM Tryz.prog ⟨88,[],[.k (.es 1)],[],[]⟩ [] (fun x=>qcm) (fun _=>qlK):=
 Xm (H:=qkQ) (L:=qL (qlq)) 0 quR (qiq 0) (qo (by kernel_rfl) trivial) (rg0 (by kernel_rfl)) fun x=>by kernel_rfl
def qcb (z:Unit):Unit:=()
def qlC (z:Unit):Unit:=()
def QV (a0:List qc):Option (Unit):=
 bif a0.isEmpty then
  (qnv).bind fun z0=>(qmZ).bind fun z1=>chk (qcb z0=qlC z1) (some (qcb z0))
 else qat a0
def qc7:Ent:=smF ⟨88,[],[.x (.sl 4 qq)],[],[]⟩ [(.sl 4 qq)] (Unit) (fun x=>QV x.1) cs1 fun x=>qdx x.1
theorem qkO:zg Tryz.prog (qc7):=qfY fun x z h l=>by
 obtain ⟨a0,_⟩:=x
 replace h:QV a0=some z:=h
 unfold QV at h
 rcases qfN h with ⟨e,h2⟩ | ⟨_,h2⟩<;>clear h
 ·have e:=List.isEmpty_iff.1 e
  subst e
  obtain ⟨z0,c0,h2⟩:=bind_some h2
  obtain ⟨z1,c1,h2⟩:=bind_some h2
  obtain ⟨hE,h2⟩:=qe5 h2
  obtain rfl:=Option.some.inj h2
  refine qf3 (t:=(.sl 4 qq)) (x:=[]) rfl (TV.ers []) (TV.ers []) (by exact qiN (()) _ c0 l) ?_
  rw [hE]
  exact (by exact qi2 (()) _ c1 l)
 ·exact qlU (a0,()) z h2 l
noncomputable def qOv:Code:=Tryz.f54.body.getD .skip
theorem qMo:FnF Tryz.prog 54 Tryz.f54 qOv:=⟨qj,by kernel_rfl,by kernel_rfl,by kernel_rfl⟩
def qHH:TH:={ live:=[(0,[1,2]),(1,[1,2]),(2,[2])],nil:=[(0,[⟨.ob 20 [2],25,(.sl 4 qq)⟩])] }
def qHs (N:Nat):List Ent:=[qc7]
theorem qD3 (N:Nat):qT Tryz.prog (qHs N):=⟨qkO,trivial⟩
def qHN (a0:qa) (z:Unit):TV×THp:=(.tv qf (qa.mk (qa.ID a0) (qa.qB a0) ((([]:List qc))++(qa.F a0))),[])
def qof (a0:qa):Tree (Unit):=
 .bind (QV (qa.F a0)) fun r1=>
 .ret ()
def qm2 (a0:qa):Option (Unit):=(qof a0).run some
def qHo:List (Nat×qA):=[]
def qxi:Ent:=smF ⟨54,[],[.x qf],[],[]⟩ [qf] (Unit) (fun x=>qm2 x.1) cs1 fun x=>qHN x.1
theorem qFf:zg Tryz.prog (qxi):=
 zf (H:=qHH) (L:=qL (qHo)) (ts:=[qf]) (T:=fun x=>qof x.1) 0 qMo (qD3 0) (qo (by kernel_rfl) trivial) (rg0 (by kernel_rfl)) fun x=>by kernel_rfl
noncomputable def qLj:Code:=Tryz.f147.body.getD .skip
theorem qKT:FnF Tryz.prog 147 Tryz.f147 qLj:=⟨qj,by kernel_rfl,by kernel_rfl,by kernel_rfl⟩
def qp2:TH:={ live:=[(0,[2,3,4]),(1,[2,3,4,7]),(2,[6]),(3,[12]),(4,[6]),(5,[6])] }
def qqZ (N:Nat):List Ent:=[JW N]
theorem qn9 (N:Nat):qT Tryz.prog (qqZ N):=⟨Vt N,trivial⟩
def qqH (z:Int):TV×THp:=(xi z,[])
def qaH (N:Nat) (a0:qd) (a1:qd):Tree (Int):=
 .bind (j9 N a0 a1) fun r1=>
 .cond r1 (
 .ret (-1)) <|
 .bind (j9 N a1 a0) fun r2=>
 .cond r2 (
 .ret 1) <|
 .ret 0
def YB (N:Nat) (a0:qd) (a1:qd):Option (Int):=(qaH N a0 a1).run some
def qr6 (N:Nat):List (Nat×qA):=[]
def qgf (N:Nat):Ent:=smF ⟨147,[],[.x qi,.x qi,.fn 28 [] []],[],[]⟩ [qi,qi] (Int) (fun x=>YB N x.1 x.2.1) cs1 fun _=>qqH
theorem qpD (N:Nat):zg Tryz.prog (qgf N):=
 zf (H:=qp2) (L:=qL (qr6 N)) (ts:=[qi,qi]) (T:=fun x=>qaH N x.1 x.2.1) 0 qKT (qn9 N) (qo (by kernel_rfl) trivial) (rg0 (by kernel_rfl)) fun x=>by kernel_rfl
noncomputable def qJj:Code:=Tryz.f146.body.getD .skip
theorem qJD:FnF Tryz.prog 146 Tryz.f146 qJj:=⟨qj,by kernel_rfl,by kernel_rfl,by kernel_rfl⟩
def qA9:TH:={ live:=[(0,[0,1]),(1,[2])] }
def qBr (N:Nat):List Ent:=[qgf N]
theorem qwU (N:Nat):qT Tryz.prog (qBr N):=⟨qpD N,trivial⟩
def qA1 (a0:qe) (a1:qe) (z:Int):TV×THp:=(xi z,[(20,.cell false (.tv qv a0)),(30,.cell false (.tv qv a1))])
def qgP (N:Nat) (a0:qe) (a1:qe):Tree (Int):=
 .bind (YB N (qe.S a0) (qe.S a1)) fun r1=>
 .ret r1
def qfC (N:Nat) (a0:qe) (a1:qe):Option (Int):=(qgP N a0 a1).run some
def qBC (N:Nat):List (Nat×qA):=[]
def qoV (N:Nat):Ent:=smF ⟨146,[],[],[.k (.p 20 [] 0),.k (.p 30 [] 0)],[(20,.cell false (.x qv)),(30,.cell false (.x qv))]⟩ [qv,qv] (Int) (fun x=>qfC N x.1 x.2.1) cs1 fun x=>qA1 x.1 x.2.1
theorem qzA (N:Nat):zg Tryz.prog (qoV N):=
 zf (H:=qA9) (L:=qL (qBC N)) (ts:=[qv,qv]) (T:=fun x=>qgP N x.1 x.2.1) 0 qJD (qwU N) (qo (by kernel_rfl) trivial) (rg0 (by kernel_rfl)) fun x=>by kernel_rfl
noncomputable def qNZ:Code:=Tryz.f83.body.getD .skip
theorem qMH:FnF Tryz.prog 83 Tryz.f83 qNZ:=⟨qj,by kernel_rfl,by kernel_rfl,by kernel_rfl⟩
def qI6:TH:={ live:=[(0,[2,3]),(1,[4])],dec:=[8] }
def qHV (N:Nat):List Ent:=[KR]
theorem qCm (N:Nat):qT Tryz.prog (qHV N):=⟨qc5,trivial⟩
def qIq (z:Bool):TV×THp:=(xb z,[])
def qnP (a0:Vector UInt8 32) (a1:Vector UInt8 32):Tree (Bool):=
 .cond (!(eqE (.ba 32) a0 a1)) (
 .bind (Kr a0.toList a1.toList) fun r1=>
 .ret (decide (r1 < ((0:Int))))) <|
 .ret false
def qfo (a0:Vector UInt8 32) (a1:Vector UInt8 32):Option (Bool):=(qnP a0 a1).run some
def qHt:List (Nat×qA):=[]
def qn6:Ent:=smF ⟨83,[],[.x (.ba 32),.x (.ba 32)],[],[]⟩ [(.ba 32),(.ba 32)] (Bool) (fun x=>qfo x.1 x.2.1) cs1 fun _=>qIq
theorem qtX:zg Tryz.prog (qn6):=
 zf (H:=qI6) (L:=qL (qHt)) (ts:=[(.ba 32),(.ba 32)]) (T:=fun x=>qnP x.1 x.2.1) 0 qMH (qCm 0) (qo (by kernel_rfl) trivial) (rg0 (by kernel_rfl)) fun x=>by kernel_rfl
noncomputable def qLC:Code:=Tryz.f149.body.getD .skip
theorem qLm:FnF Tryz.prog 149 Tryz.f149 qLC:=⟨qj,by kernel_rfl,by kernel_rfl,by kernel_rfl⟩
def qpN:TH:={ live:=[(0,[2,3,4]),(1,[2,3,4,7]),(2,[6]),(3,[12]),(4,[6]),(5,[6])] }
def qpw (N:Nat):List Ent:=[qn6]
theorem qmF (N:Nat):qT Tryz.prog (qpw N):=⟨qtX,trivial⟩
def qpz (z:Int):TV×THp:=(xi z,[])
def KK (a0:Vector UInt8 32) (a1:Vector UInt8 32):Tree (Int):=
 .bind (qfo a0 a1) fun r1=>
 .cond r1 (
 .ret (-1)) <|
 .bind (qfo a1 a0) fun r2=>
 .cond r2 (
 .ret 1) <|
 .ret 0
def WO (a0:Vector UInt8 32) (a1:Vector UInt8 32):Option (Int):=(KK a0 a1).run some
def qpr:List (Nat×qA):=[]
def qeP:Ent:=smF ⟨149,[],[.x (.ba 32),.x (.ba 32),.fn 83 [] []],[],[]⟩ [(.ba 32),(.ba 32)] (Int) (fun x=>WO x.1 x.2.1) cs1 fun _=>qpz
theorem qnI:zg Tryz.prog (qeP):=
 zf (H:=qpN) (L:=qL (qpr)) (ts:=[(.ba 32),(.ba 32)]) (T:=fun x=>KK x.1 x.2.1) 0 qLm (qmF 0) (qo (by kernel_rfl) trivial) (rg0 (by kernel_rfl)) fun x=>by kernel_rfl
noncomputable def qLb:Code:=Tryz.f148.body.getD .skip
theorem qKF:FnF Tryz.prog 148 Tryz.f148 qLb:=⟨qj,by kernel_rfl,by kernel_rfl,by kernel_rfl⟩
def qAT:TH:={ live:=[(0,[0,1]),(1,[2])] }
def qAE (N:Nat):List Ent:=[qfc N,qeP]
theorem qxW (N:Nat):qT Tryz.prog (qAE N):=⟨qgk N,qnI,trivial⟩
def qAQ (a0:qe) (a1:qe) (z:Int):TV×THp:=(xi z,[(20,.cell false (.tv qv a0)),(30,.cell false (.tv qv a1))])
def qgo (N:Nat) (a0:qe) (a1:qe):Tree (Int):=
 .bind (qaq N (qe.V a0)) fun r1=>
 .bind (qaq N (qe.V a1)) fun r2=>
 .bind (WO r1 r2) fun r3=>
 .ret r3
def qfJ (N:Nat) (a0:qe) (a1:qe):Option (Int):=(qgo N a0 a1).run some
def qA_ (N:Nat):List (Nat×qA):=[]
def qpq (N:Nat):Ent:=smF ⟨148,[],[],[.k (.p 20 [] 0),.k (.p 30 [] 0)],[(20,.cell false (.x qv)),(30,.cell false (.x qv))]⟩ [qv,qv] (Int) (fun x=>qfJ N x.1 x.2.1) cs1 fun x=>qAQ x.1 x.2.1
theorem qzm (N:Nat):zg Tryz.prog (qpq N):=
 zf (H:=qAT) (L:=qL (qA_ N)) (ts:=[qv,qv]) (T:=fun x=>qgo N x.1 x.2.1) 0 qKF (qxW N) (qo (by kernel_rfl) trivial) (rg0 (by kernel_rfl)) fun x=>by kernel_rfl
noncomputable def qLk:Code:=Tryz.f153.body.getD .skip
theorem qLE:FnF Tryz.prog 153 Tryz.f153 qLk:=⟨qj,by kernel_rfl,by kernel_rfl,by kernel_rfl⟩
def qrz:TH:={ live:=[(0,[0]),(1,[2])] }
def qr0 (N:Nat):List Ent:=[]
theorem qnC (N:Nat):qT Tryz.prog (qr0 N):=trivial
def qqG (a0:List UInt8) (z:Unit):TV×THp:=(xb (!decide (a0=a0)),[])
def qfR (a0:List UInt8):Tree (Unit):=
 .ret ()
def YK (a0:List UInt8):Option (Unit):=(qfR a0).run some
def qpT:List (Nat×qA):=[]
def qf_:Ent:=smF ⟨153,[],[.x .s],[],[]⟩ [.s] (Unit) (fun x=>YK x.1) cs1 fun x=>qqG x.1
theorem qps:zg Tryz.prog (qf_):=
 zf (H:=qrz) (L:=qL (qpT)) (ts:=[.s]) (T:=fun x=>qfR x.1) 0 qLE (qnC 0) (qo (by kernel_rfl) trivial) (rg0 (by kernel_rfl)) fun x=>by kernel_rfl
noncomputable def qJ7:Code:=Tryz.f151.body.getD .skip
theorem qJP:FnF Tryz.prog 151 Tryz.f151 qJ7:=⟨qj,by kernel_rfl,by kernel_rfl,by kernel_rfl⟩
def qn7:TH:={ live:=[(0,[0,1]),(1,[0,1,5]),(2,[0,1,5,6]),(3,[0,1,6,11]),(4,[12]),(5,[4]),(6,[4]),(7,[0,1,13]),(8,[4]),(9,[0,1,16]),(10,[4]),(11,[19]),(12,[4]),(13,[4])] }
def qoN (N:Nat):List Ent:=[qf_]
theorem qkX (N:Nat):qT Tryz.prog (qoN N):=⟨qps,trivial⟩
def qoL (z:Int):TV×THp:=(xi z,[])
def YG (a0:List UInt8) (a1:List UInt8):Tree (Int):=
 .bind (YK a0) fun r1=>
 .bind (YK a1) fun r2=>
 .cond (!decide (a0=a0)) (
 .cond (!decide (a1=a1)) (
 .ret 0) <|
 .ret (-1)) <|
 .cond (!decide (a1=a1)) (
 .ret 1) <|
 .cond (Op.bytesLess a0 a1) (
 .ret (-1)) <|
 .cond (!(Op.bytesLess a0 a1||decide (a0=a1))) (
 .ret 1) <|
 .ret 0
def Wd (a0:List UInt8) (a1:List UInt8):Option (Int):=(YG a0 a1).run some
def qnl:List (Nat×qA):=[]
def qdu:Ent:=smF ⟨151,[],[.x .s,.x .s],[],[]⟩ [.s,.s] (Int) (fun x=>Wd x.1 x.2.1) cs1 fun _=>qoL
theorem qmB:zg Tryz.prog (qdu):=
 zf (H:=qn7) (L:=qL (qnl)) (ts:=[.s,.s]) (T:=fun x=>YG x.1 x.2.1) 0 qJP (qkX 0) (qo (by kernel_rfl) trivial) (rg0 (by kernel_rfl)) fun x=>by kernel_rfl
noncomputable def qLz:Code:=Tryz.f150.body.getD .skip
theorem qJO:FnF Tryz.prog 150 Tryz.f150 qLz:=⟨qj,by kernel_rfl,by kernel_rfl,by kernel_rfl⟩
def qAX:TH:={ live:=[(0,[0,1]),(1,[2])] }
def qBN (N:Nat):List Ent:=[qdu]
theorem qw5 (N:Nat):qT Tryz.prog (qBN N):=⟨qmB,trivial⟩
def qBb (a0:qe) (a1:qe) (z:Int):TV×THp:=(xi z,[(20,.cell false (.tv qv a0)),(30,.cell false (.tv qv a1))])
def qgw (a0:qe) (a1:qe):Tree (Int):=
 .bind (Wd (qe.V a0) (qe.V a1)) fun r1=>
 .ret r1
def qfH (a0:qe) (a1:qe):Option (Int):=(qgw a0 a1).run some
def qAO:List (Nat×qA):=[]
def qpk:Ent:=smF ⟨150,[],[],[.k (.p 20 [] 0),.k (.p 30 [] 0)],[(20,.cell false (.x qv)),(30,.cell false (.x qv))]⟩ [qv,qv] (Int) (fun x=>qfH x.1 x.2.1) cs1 fun x=>qBb x.1 x.2.1
theorem qyg:zg Tryz.prog (qpk):=
 zf (H:=qAX) (L:=qL (qAO)) (ts:=[qv,qv]) (T:=fun x=>qgw x.1 x.2.1) 0 qJO (qw5 0) (qo (by kernel_rfl) trivial) (rg0 (by kernel_rfl)) fun x=>by kernel_rfl
noncomputable def qdp:Code:=Tryz.f138.body.getD .skip
theorem qLt:FnF Tryz.prog 138 Tryz.f138 qdp:=⟨qj,by kernel_rfl,by kernel_rfl,by kernel_rfl⟩
def KE:TH:={ live:=[(0,[2,3]),(1,[5]),(2,[13,14]),(3,[13,14,15]),(4,[7,13,14]),(5,[8,13,14]),(6,[8,13,14,20]),(7,[4]),(8,[13,14]),(9,[4])] }
def qcg (N:Nat):List Ent:=[qoV N,qpq N,qpk]
theorem Ka (N:Nat):qT Tryz.prog (qcg N):=⟨qzA N,qzm N,qyg,trivial⟩
abbrev zI:=qe×qe
abbrev zN:=Bool⊕Unit
def zQ (f:zI):zN→Ex×TSt
 | .inl y=>(.ret,⟨0,24,[],[(4,xb y)],[],false,[]⟩)
 | .inr y=>(.exit 0,⟨0,24,[],[(13,.ag [.fn (.func 146) [] [.p 20 [] 0,.p 30 [] 0],.fn (.func 148) [] [.p 20 [] 0,.p 30 [] 0],.fn (.func 150) [] [.p 20 [] 0,.p 30 [] 0]]),(14,.ic .i64 3),(15,.bc false)],[(20,.cell false (.tv qv f.1)),(30,.cell false (.tv qv f.2))],false,[]⟩)
def qbr (N:Nat):List (Nat×qA):=[]
abbrev Z7:=Unit
def qtl:SP:=⟨0,24,[],[(13,.ag [.fn 146 [] [.k (.p 20 [] 0),.k (.p 30 [] 0)],.fn 148 [] [.k (.p 20 [] 0),.k (.p 30 [] 0)],.fn 150 [] [.k (.p 20 [] 0),.k (.p 30 [] 0)]]),(14,.k (.ic .i64 3))],[(20,.cell false (.x qv)),(30,.cell false (.x qv))],false,[]⟩
def qhb (f:zI) (v:Z7):TSt:=zC qtl [dv qv f.1,dv qv f.2]
def VH (N:Nat) (o_3:qe) (o_3_2:qe) (v:Z7):Tree (Z7⊕zN):=
 .ret (.inr (.inr ()))
def qgX (N n:Nat) (f:zI) (v:Z7):Option zN:=qY (VH N f.1 f.2) some n v
theorem qtk (N:Nat) (f:zI) (n:Nat) (v:Z7) (y:zN) (h:qgX N n f v=some y):LG Tryz.prog KE 138 (qM qdp 3) (qhb f v) (zQ f y):=
 zo qj (E:=qcg N) (L:=qL (qbr N)) (st:=zQ f) (g:=some) (R:=zQ f) (Ka N) (qo (by kernel_rfl) trivial) (rg0 (by kernel_rfl)) (fun v=>by kernel_rfl) (q0 (st:=zQ f) fun y=>by rcases y with _ | _<;>rfl) n v y h
abbrev Z2:=Unit
def qtv:SP:=⟨0,24,[],[(13,.ag [.fn 146 [] [.k (.p 20 [] 0),.k (.p 30 [] 0)],.fn 148 [] [.k (.p 20 [] 0),.k (.p 30 [] 0)],.fn 150 [] [.k (.p 20 [] 0),.k (.p 30 [] 0)]]),(14,.k (.ic .i64 2))],[(20,.cell false (.x qv)),(30,.cell false (.x qv))],false,[]⟩
def qhk (f:zI) (v:Z2):TSt:=zC qtv [dv qv f.1,dv qv f.2]
abbrev qbU:=Z7⊕zN
def Z6 (N:Nat) (o_3:qe) (o_3_2:qe) (v:Z2):Tree (Z2⊕qbU):=
 .chk (0≤(2:Int)∧(2:Int) < ((3:Nat):Int)) <|
 .bind (qfH o_3 o_3_2) fun r1=>
 .cond (!decide (r1=((0:Int)))) (
 .ret (.inr (.inr ((.inl (decide (r1 < ((0:Int))))))))) <|
 .ret (.inr (.inl ()))
def VA (N n:Nat) (f:zI):qbU→Option zN
 | .inl w=>qgX N n f w
 | .inr w=>some w
def qs7 (f:zI):qbU→Ex×TSt
 | .inl w=>(.normal,qhb f w)
 | .inr w=>zQ f w
def qhg (N n:Nat) (f:zI) (v:Z2):Option zN:=qY (Z6 N f.1 f.2) (VA N n f) n v
theorem qti (N:Nat) (f:zI) (n:Nat) (v:Z2) (y:zN) (h:qhg N n f v=some y):LG Tryz.prog KE 138 (qM qdp 3) (qhk f v) (zQ f y):=
 zo qj (E:=qcg N) (L:=qL (qbr N)) (st:=qs7 f) (g:=(VA N n f)) (R:=zQ f) (Ka N) (qo (by kernel_rfl) trivial) (rg0 (by kernel_rfl)) (fun v=>by kernel_rfl) (fun w y h=>by
 rcases w with w | w
 ·exact qtk N f n w y h
 ·exact q0 (st:=zQ f) (fun y=>by rcases y with _ | _<;>rfl) w y h
) n v y h
abbrev Z8:=Unit
def qth:SP:=⟨0,24,[],[(13,.ag [.fn 146 [] [.k (.p 20 [] 0),.k (.p 30 [] 0)],.fn 148 [] [.k (.p 20 [] 0),.k (.p 30 [] 0)],.fn 150 [] [.k (.p 20 [] 0),.k (.p 30 [] 0)]]),(14,.k (.ic .i64 1))],[(20,.cell false (.x qv)),(30,.cell false (.x qv))],false,[]⟩
def qg5 (f:zI) (v:Z8):TSt:=zC qth [dv qv f.1,dv qv f.2]
abbrev qbY:=Z2⊕zN
def Z4 (N:Nat) (o_3:qe) (o_3_2:qe) (v:Z8):Tree (Z8⊕qbY):=
 .chk (0≤(1:Int)∧(1:Int) < ((3:Nat):Int)) <|
 .bind (qfJ N o_3 o_3_2) fun r1=>
 .cond (!decide (r1=((0:Int)))) (
 .ret (.inr (.inr ((.inl (decide (r1 < ((0:Int))))))))) <|
 .ret (.inr (.inl ()))
def VM (N n:Nat) (f:zI):qbY→Option zN
 | .inl w=>qhg N n f w
 | .inr w=>some w
def qsO (f:zI):qbY→Ex×TSt
 | .inl w=>(.normal,qhk f w)
 | .inr w=>zQ f w
def qhm (N n:Nat) (f:zI) (v:Z8):Option zN:=qY (Z4 N f.1 f.2) (VM N n f) n v
theorem qsX (N:Nat) (f:zI) (n:Nat) (v:Z8) (y:zN) (h:qhm N n f v=some y):LG Tryz.prog KE 138 (qM qdp 3) (qg5 f v) (zQ f y):=
 zo qj (E:=qcg N) (L:=qL (qbr N)) (st:=qsO f) (g:=(VM N n f)) (R:=zQ f) (Ka N) (qo (by kernel_rfl) trivial) (rg0 (by kernel_rfl)) (fun v=>by kernel_rfl) (fun w y h=>by
 rcases w with w | w
 ·exact qti N f n w y h
 ·exact q0 (st:=zQ f) (fun y=>by rcases y with _ | _<;>rfl) w y h
) n v y h
abbrev Yf:=Unit
def qmc:SP:=⟨0,24,[],[(13,.ag [.fn 146 [] [.k (.p 20 [] 0),.k (.p 30 [] 0)],.fn 148 [] [.k (.p 20 [] 0),.k (.p 30 [] 0)],.fn 150 [] [.k (.p 20 [] 0),.k (.p 30 [] 0)]]),(14,.k (.ic .i64 0))],[(20,.cell false (.x qv)),(30,.cell false (.x qv))],false,[]⟩
def qyq (f:zI) (v:Yf):TSt:=zC qmc [dv qv f.1,dv qv f.2]
abbrev qe4:=Z8⊕zN
def qbd (N:Nat) (o_3:qe) (o_3_2:qe) (v:Yf):Tree (Yf⊕qe4):=
 .chk (0≤(0:Int)∧(0:Int) < ((3:Nat):Int)) <|
 .bind (qfC N o_3 o_3_2) fun r1=>
 .cond (!decide (r1=((0:Int)))) (
 .ret (.inr (.inr ((.inl (decide (r1 < ((0:Int))))))))) <|
 .ret (.inr (.inl ()))
def qfh (N n:Nat) (f:zI):qe4→Option zN
 | .inl w=>qhm N n f w
 | .inr w=>some w
def qy3 (f:zI):qe4→Ex×TSt
 | .inl w=>(.normal,qg5 f w)
 | .inr w=>zQ f w
def qmw (N n:Nat) (f:zI) (v:Yf):Option zN:=qY (qbd N f.1 f.2) (qfh N n f) n v
theorem qy2 (N:Nat) (f:zI) (n:Nat) (v:Yf) (y:zN) (h:qmw N n f v=some y):LG Tryz.prog KE 138 (qM qdp 3) (qyq f v) (zQ f y):=
 zo qj (E:=qcg N) (L:=qL (qbr N)) (st:=qy3 f) (g:=(qfh N n f)) (R:=zQ f) (Ka N) (qo (by kernel_rfl) trivial) (rg0 (by kernel_rfl)) (fun v=>by kernel_rfl) (fun w y h=>by
 rcases w with w | w
 ·exact qsX N f n w y h
 ·exact q0 (st:=zQ f) (fun y=>by rcases y with _ | _<;>rfl) w y h
) n v y h
def qee (N:Nat) (o_3:qe) (o_3_2:qe):Option zN:=qmw N N (o_3,o_3_2) ()
def ql8 (N:Nat):qA:=smL qmc [qv,qv] zN (fun x=>qee N x.1 x.2.1) (csS cs1) fun x=>zQ (x.1,x.2.1)
theorem qxv (N:Nat):jq Tryz.prog KE 138 (qM qdp 3) (ql8 N):=zA fun x z h=>qy2 N (x.1,x.2.1) N () z h
def qFr (z:Bool):TV×THp:=(xb z,[])
def qlJ (N:Nat) (a0:qe) (a1:qe):Tree (Bool):=
 .bind (qee N a0 a1) fun z1=>
 .sum z1 (fun z2=>
 .ret z2) fun z2=>
 .ret false
def qko (N:Nat) (a0:qe) (a1:qe):Option (Bool):=(qlJ N a0 a1).run some
def qGe (N:Nat):List (Nat×qA):=[(3,ql8 N)]
def qtP (N:Nat):Ent:=smF ⟨138,[],[.x qv,.x qv],[],[]⟩ [qv,qv] (Bool) (fun x=>qko N x.1 x.2.1) cs1 fun _=>qFr
theorem qB7 (N:Nat):zg Tryz.prog (qtP N):=
 zf (H:=KE) (L:=qL (qGe N)) (ts:=[qv,qv]) (T:=fun x=>qlJ N x.1 x.2.1) 0 qLt (Ka N) (qo (by kernel_rfl) ⟨qxv N,trivial⟩) (rg0 (by kernel_rfl)) fun x=>by kernel_rfl
noncomputable def qLs:Code:=Tryz.f116.body.getD .skip
theorem qJL:FnF Tryz.prog 116 Tryz.f116 qLs:=⟨qj,by kernel_rfl,by kernel_rfl,by kernel_rfl⟩
def qFH:TH:={ live:=[(0,[2,3,4]),(1,[2,3,4,7]),(2,[4]),(3,[4])] }
def qF0 (N:Nat):List Ent:=[qtP N]
theorem qBJ (N:Nat):qT Tryz.prog (qF0 N):=⟨qB7 N,trivial⟩
def qFA (z:qe):TV×THp:=(.tv qv z,[])
def qk8 (N:Nat) (a0:qe) (a1:qe):Tree (qe):=
 .bind (qko N a0 a1) fun r1=>
 .cond r1 (
 .ret a1) <|
 .ret a0
def qj_ (N:Nat) (a0:qe) (a1:qe):Option (qe):=(qk8 N a0 a1).run some
def qEX (N:Nat):List (Nat×qA):=[]
def qtI (N:Nat):Ent:=smF ⟨116,[],[.x qv,.x qv],[],[]⟩ [qv,qv] (qe) (fun x=>qj_ N x.1 x.2.1) cs1 fun _=>qFA
theorem qDI (N:Nat):zg Tryz.prog (qtI N):=
 zf (H:=qFH) (L:=qL (qEX N)) (ts:=[qv,qv]) (T:=fun x=>qk8 N x.1 x.2.1) 0 qJL (qBJ N) (qo (by kernel_rfl) trivial) (rg0 (by kernel_rfl)) fun x=>by kernel_rfl
noncomputable def qvm:Code:=Tryz.f89.body.getD .skip
theorem qMp:FnF Tryz.prog 89 Tryz.f89 qvm:=⟨qj,by kernel_rfl,by kernel_rfl,by kernel_rfl⟩
def qal:TH:={ live:=[(0,[0,3]),(1,[0,9,10,11]),(2,[0,9,10,11,12]),(3,[0,5,9,10,11]),(4,[0,5,6,7,9,10,11]),(5,[0,5,6,9,10,11,22]),(6,[0,9,10,11]),(7,[0,9,10,11]),(8,[0,9,10,11])] }
def qgm (N:Nat):List Ent:=[qtI N]
theorem qdP (N:Nat):qT Tryz.prog (qgm N):=⟨qDI N,trivial⟩
abbrev J8:=List qc×Int
abbrev v8:=Nat×List (Int×qe×Nat)×Int×Bool
def Zs (f:J8) (y:v8):Ex×TSt:=(.exit 0,⟨1,36,[250],[(0,.m 250),(9,.tv (.sl 4 qq) f.1),(10,xi f.2),(11,xi y.2.2.1),(12,xb y.2.2.2)],[(250,.map y.1 (.i .i64) qv (y.2.1:List (Int×qe×Nat)))],false,[]⟩)
def qmK (N:Nat):List (Nat×qA):=[]
abbrev Zu:=Nat×List (Int×qe×Nat)×Int
def qda:SP:=⟨1,36,[250],[(0,.k (.m 250)),(9,.x (.sl 4 qq)),(10,.x (.i .i64)),(11,.x (.i .i64))],[(250,.map (.i .i64) qv)],false,[]⟩
def qmT (f:J8) (v:Zu):TSt:=zC qda [dv .nat v.1,dv (YV (.i .i64) qv) v.2.1,dv (.sl 4 qq) f.1,dv (.i .i64) f.2,dv (.i .i64) v.2.2]
def Zr (N:Nat) (s9_2:List qc) (s10_2:Int) (v:Zu):Tree (Zu⊕v8):=
 .cond (decide (v.2.2 < s10_2)) (
 .bind (zk s9_2 v.2.2) fun e1=>
 .opt (fnd (β:=qe) (.i .i64) (qc.No e1) v.2.1) (
 .chk (qt (v.2.2 + 1)) <|
 .ret (.inl ((ZB (.i .i64) (qc.No e1) (qc.C e1) v.1 v.2.1).1,(ZB (.i .i64) (qc.No e1) (qc.C e1) v.1 v.2.1).2,v.2.2 + 1))) fun e2=>
 .bind (qj_ N e2.1 (qc.C e1)) fun r3=>
 .chk (qt (v.2.2 + 1)) <|
 .ret (.inl ((ZB (.i .i64) (qc.No e1) r3 v.1 v.2.1).1,(ZB (.i .i64) (qc.No e1) r3 v.1 v.2.1).2,v.2.2 + 1))) <|
 .ret (.inr (v.1,v.2.1,v.2.2,decide (v.2.2 < s10_2)))
def qdi (N n:Nat) (f:J8) (v:Zu):Option v8:=qY (Zr N f.1 f.2) some n v
theorem qmb (N:Nat) (f:J8) (n:Nat) (v:Zu) (y:v8) (h:qdi N n f v=some y):LG Tryz.prog qal 89 (qM qvm 2) (qmT f v) (Zs f y):=
 zo qj (E:=qgm N) (L:=qL (qmK N)) (st:=Zs f) (g:=some) (R:=Zs f) (qdP N) (qo (by kernel_rfl) trivial) (rg0 (by kernel_rfl)) (fun v=>by kernel_rfl) (q0 (st:=Zs f) fun y=>by rfl) n v y h
def KN (N:Nat) (s9_2:List qc) (s10_2:Int) (o_2:Nat) (o_2_2:List (Int×qe×Nat)) (s11_2:Int):Option v8:=qdi N N (s9_2,s10_2) (o_2,o_2_2,s11_2)
def qdk (N:Nat):qA:=smL qda [.nat,(YV (.i .i64) qv),(.sl 4 qq),(.i .i64),(.i .i64)] v8 (fun x=>KN N x.2.2.1 x.2.2.2.1 x.1 x.2.1 x.2.2.2.2.1) cs1 fun x=>Zs (x.2.2.1,x.2.2.2.1)
theorem qlx (N:Nat):jq Tryz.prog qal 89 (qM qvm 2) (qdk N):=zA fun x z h=>qmb N (x.2.2.1,x.2.2.2.1) N (x.1,x.2.1,x.2.2.2.2.1) z h
def qre (z:Nat×List (Int×qe×Nat)):TV×THp:=(.tup [],[(250,.map z.1 (.i .i64) qv (z.2:List (Int×qe×Nat)))])
def qaz (N:Nat) (a0:Nat) (a1:List (Int×qe×Nat)) (a2:qa):Tree (Nat×List (Int×qe×Nat)):=
 .bind (KN N (qa.F a2) (((qa.F a2).length:Nat):Int) a0 a1 0) fun z1=>
 .ret (z1.1,z1.2.1)
def Xn (N:Nat) (a0:Nat) (a1:List (Int×qe×Nat)) (a2:qa):Option (Nat×List (Int×qe×Nat)):=(qaz N a0 a1 a2).run some
def qrd (N:Nat):List (Nat×qA):=[(2,qdk N)]
def qf6 (N:Nat):Ent:=smF ⟨89,[],[.k (.m 250),.x qf],[],[(250,.map (.i .i64) qv)]⟩ [.nat,(YV (.i .i64) qv),qf] (Nat×List (Int×qe×Nat)) (fun x=>Xn N x.1 x.2.1 x.2.2.1) cs1 fun _=>qre
theorem qpK (N:Nat):zg Tryz.prog (qf6 N):=
 zf (H:=qal) (L:=qL (qrd N)) (ts:=[.nat,(YV (.i .i64) qv),qf]) (T:=fun x=>qaz N x.1 x.2.1 x.2.2.1) 0 qMp (qdP N) (qo (by kernel_rfl) ⟨qlx N,trivial⟩) (rg0 (by kernel_rfl)) fun x=>by kernel_rfl
noncomputable def qOt:Code:=Tryz.f90.body.getD .skip
theorem qOb:FnF Tryz.prog 90 Tryz.f90 qOt:=⟨qj,by kernel_rfl,by kernel_rfl,by kernel_rfl⟩
def qFp:TH:={ live:=[(0,[2,3,4]),(1,[2,3,4,7]),(2,[4]),(3,[4])] }
def qGa (N:Nat):List Ent:=[JW N]
theorem qA7 (N:Nat):qT Tryz.prog (qGa N):=⟨Vt N,trivial⟩
def qFb (z:qd):TV×THp:=(.tv qi z,[])
def qk2 (N:Nat) (a0:qd) (a1:qd):Tree (qd):=
 .bind (j9 N a0 a1) fun r1=>
 .cond r1 (
 .ret a1) <|
 .ret a0
def qkB (N:Nat) (a0:qd) (a1:qd):Option (qd):=(qk2 N a0 a1).run some
def qGc (N:Nat):List (Nat×qA):=[]
def qtW (N:Nat):Ent:=smF ⟨90,[],[.x qi,.x qi],[],[]⟩ [qi,qi] (qd) (fun x=>qkB N x.1 x.2.1) cs1 fun _=>qFb
theorem qEm (N:Nat):zg Tryz.prog (qtW N):=
 zf (H:=qFp) (L:=qL (qGc N)) (ts:=[qi,qi]) (T:=fun x=>qk2 N x.1 x.2.1) 0 qOb (qA7 N) (qo (by kernel_rfl) trivial) (rg0 (by kernel_rfl)) fun x=>by kernel_rfl
noncomputable def qNz:Code:=Tryz.f91.body.getD .skip
theorem qMd:FnF Tryz.prog 91 Tryz.f91 qNz:=⟨qj,by kernel_rfl,by kernel_rfl,by kernel_rfl⟩
def qlW:TH:={ live:=[(0,[2,3]),(1,[4])],esc:=true }
def qlV (N:Nat):List Ent:=[]
theorem qjH (N:Nat):qT Tryz.prog (qlV N):=trivial
def qme (a0:Nat) (a1:List (Int×qe×Nat)) (a2:qd) (z:Unit):TV×THp:=(.fn (.func 117) [] [.p 100020 [] 0,.p 100030 [] 0],[(250,.map a0 (.i .i64) qv a1),(100020,.cell false (.m 250)),(100030,.cell false (.tv qi a2))])
def qc8 (a0:Nat) (a1:List (Int×qe×Nat)) (a2:qd):Tree (Unit):=
 .ret ()
def qeT (a0:Nat) (a1:List (Int×qe×Nat)) (a2:qd):Option (Unit):=(qc8 a0 a1 a2).run some
def qmj:List (Nat×qA):=[]
def qdj:Ent:=smF ⟨91,[],[.k (.m 250),.x qi],[],[(250,.map (.i .i64) qv)]⟩ [.nat,(YV (.i .i64) qv),qi] (Unit) (fun x=>qeT x.1 x.2.1 x.2.2.1) cs1 fun x=>qme x.1 x.2.1 x.2.2.1
theorem qlb:zg Tryz.prog (qdj):=
 zf (H:=qlW) (L:=qL (qmj)) (ts:=[.nat,(YV (.i .i64) qv),qi]) (T:=fun x=>qc8 x.1 x.2.1 x.2.2.1) 0 qMd (qjH 0) (qo (by kernel_rfl) trivial) (rg0 (by kernel_rfl)) fun x=>by kernel_rfl
def qrL:TH:={ live:=[(0,[2,3,4]),(1,[2,3,4,23]),(2,[4,5]),(3,[2,3,4,6]),(4,[2,3,4,6]),(5,[2,3,4,6]),(6,[4,6,7]),(7,[4,7,43]),(8,[7,8]),(10,[4,5])],dec:=[12,17],fresh:=[43] }
def qpZ (N:Nat):List Ent:=[]
theorem qnT (N:Nat):qT Tryz.prog (qpZ N):=trivial
def qrn (a0:List qc) (a1:List qc) (a2:Nat) (a3:List (Int×qe×Nat)) (a4:Vector UInt8 16) (a5:qd) (a6:Vector UInt8 16) (a7:qd) (a8:qd) (a9:qc) (z:Unit):TV×THp:=(.bc true,[(40,.cell false (.ag [.tv (.ba 16) a4,.tv qi a5,.v 45 a0.length])),(45,.vec false 4 (.sl 4 qq) a0),(70,.cell false (.ag [.tv (.ba 16) a6,.tv qi a7,.v 75 ((a1++[a9]).length)])),(75,.vec false 4 (.sl 4 qq) (a1++[a9]:List qc)),(250,.map a2 (.i .i64) qv a3),(50080,.loop [44] 52 [(4,.p 40 [] 0),(7,.p 70 [] 0),(43,.fn (.func 117) [] [.p 100020 [] 0,.p 100030 [] 0])] 5500008 55 .ready none 50081),(50081,.dfr true),(100020,.cell false (.m 250)),(100030,.cell false (.tv qi a8))])
def qai (a0:List qc) (a1:List qc) (a2:Nat) (a3:List (Int×qe×Nat)) (a4:Vector UInt8 16) (a5:qd) (a6:Vector UInt8 16) (a7:qd) (a8:qd) (a9:qc):Tree (Unit):=
 .chk (jx a1.length a1.length ((a1++[a9]).length) 40) <|
 .ret ()
def YO (a0:List qc) (a1:List qc) (a2:Nat) (a3:List (Int×qe×Nat)) (a4:Vector UInt8 16) (a5:qd) (a6:Vector UInt8 16) (a7:qd) (a8:qd) (a9:qc):Option (Unit):=(qai a0 a1 a2 a3 a4 a5 a6 a7 a8 a9).run some
def qqR:List (Nat×qA):=[]
def qfU:Ent:=smR 50080 [.x qq] [(40,.cell false (.ag [.x (.ba 16),.x qi,.vs 45])),(45,.vec false 4),(70,.cell false (.ag [.x (.ba 16),.x qi,.vs 75])),(75,.vec false 4),(250,.map (.i .i64) qv),(50080,.loop [44] 52 [(4,.k (.p 40 [] 0)),(7,.k (.p 70 [] 0)),(43,.fn 117 [] [.k (.p 100020 [] 0),.k (.p 100030 [] 0)])] 5500008 55 .ready none 50081),(50081,.dfr true),(100020,.cell false (.k (.m 250))),(100030,.cell false (.x qi))] [(.sl 4 qq),(.sl 4 qq),.nat,(YV (.i .i64) qv),(.ba 16),qi,(.ba 16),qi,qi,qq] (Unit) (fun x=>YO x.1 x.2.1 x.2.2.1 x.2.2.2.1 x.2.2.2.2.1 x.2.2.2.2.2.1 x.2.2.2.2.2.2.1 x.2.2.2.2.2.2.2.1 x.2.2.2.2.2.2.2.2.1 x.2.2.2.2.2.2.2.2.2.1) cs1 fun x=>qrn x.1 x.2.1 x.2.2.1 x.2.2.2.1 x.2.2.2.2.1 x.2.2.2.2.2.1 x.2.2.2.2.2.2.1 x.2.2.2.2.2.2.2.1 x.2.2.2.2.2.2.2.2.1 x.2.2.2.2.2.2.2.2.2.1
theorem qpR:zg Tryz.prog (qfU):=
 qIP (H:=qrL) (L:=qL (qqR)) (ts:=[(.sl 4 qq),(.sl 4 qq),.nat,(YV (.i .i64) qv),(.ba 16),qi,(.ba 16),qi,qi,qq]) (T:=fun x=>qai x.1 x.2.1 x.2.2.1 x.2.2.2.1 x.2.2.2.2.1 x.2.2.2.2.2.1 x.2.2.2.2.2.2.1 x.2.2.2.2.2.2.2.1 x.2.2.2.2.2.2.2.2.1 x.2.2.2.2.2.2.2.2.2.1) (K:=55) (cid:=5500008) 2 qj (qnT 0) (by kernel_rfl) (qo (by kernel_rfl) trivial) (rg0 (by kernel_rfl)) (rg0 (by kernel_rfl)) (fun x=>by kernel_rfl) fun x=>by kernel_rfl
noncomputable def qrP:Code:=Tryz.f117.body.getD .skip
theorem qLI:FnF Tryz.prog 117 Tryz.f117 qrP:=⟨qj,by kernel_rfl,by kernel_rfl,by kernel_rfl⟩
def XE:TH:={ live:=[(0,[0,1,2,7]),(1,[0,1,2,7,8]),(2,[0,1,2,4,7]),(3,[0,1,2,4,5,6,7]),(4,[0,1,2,7,30]),(5,[0,1,2,7])],dec:=[17,23] }
def qbJ (N:Nat):List Ent:=[JW N,qfU]
theorem K7 (N:Nat):qT Tryz.prog (qbJ N):=⟨Vt N,qpR,trivial⟩
abbrev Q7:=List qc×Nat×List (Int×qe×Nat)×Vector UInt8 16×qd×Vector UInt8 16×qd×qd
abbrev jN:=List qc×Int×Bool
def vG (f:Q7) (y:jN):Ex×TSt:=(.exit 0,⟨2,32,[40,45,70,75,250,50080,50081,100020,100030],[(0,.yl 50080),(1,.p 100020 [] 0),(2,.p 100030 [] 0),(7,xi y.2.1),(8,xb y.2.2)],[(40,.cell false (.ag [.tv (.ba 16) f.2.2.2.1,.tv qi f.2.2.2.2.1,.v 45 f.1.length])),(45,.vec false 4 (.sl 4 qq) f.1),(70,.cell false (.ag [.tv (.ba 16) f.2.2.2.2.2.1,.tv qi f.2.2.2.2.2.2.1,.v 75 y.1.length])),(75,.vec false 4 (.sl 4 qq) (y.1:List qc)),(250,.map f.2.1 (.i .i64) qv f.2.2.1),(50080,.loop [44] 52 [(4,.p 40 [] 0),(7,.p 70 [] 0),(43,.fn (.func 117) [] [.p 100020 [] 0,.p 100030 [] 0])] 5500008 55 .ready none 50081),(50081,.dfr true),(100020,.cell false (.m 250)),(100030,.cell false (.tv qi f.2.2.2.2.2.2.2))],false,[]⟩)
def qgR (N:Nat):List (Nat×qA):=[]
abbrev vJ:=List qc×Int
def Kv:SP:=⟨2,32,[40,45,70,75,250,50080,50081,100020,100030],[(0,.k (.yl 50080)),(1,.k (.p 100020 [] 0)),(2,.k (.p 100030 [] 0)),(7,.x (.i .i64))],[(40,.cell false (.ag [.x (.ba 16),.x qi,.vs 45])),(45,.vec false 4),(70,.cell false (.ag [.x (.ba 16),.x qi,.vs 75])),(75,.vec false 4),(250,.map (.i .i64) qv),(50080,.loop [44] 52 [(4,.k (.p 40 [] 0)),(7,.k (.p 70 [] 0)),(43,.fn 117 [] [.k (.p 100020 [] 0),.k (.p 100030 [] 0)])] 5500008 55 .ready none 50081),(50081,.dfr true),(100020,.cell false (.k (.m 250))),(100030,.cell false (.x qi))],false,[]⟩
def qgM (f:Q7) (v:vJ):TSt:=zC Kv [dv (.sl 4 qq) f.1,dv (.sl 4 qq) v.1,dv .nat f.2.1,dv (YV (.i .i64) qv) f.2.2.1,dv (.ba 16) f.2.2.2.1,dv qi f.2.2.2.2.1,dv (.ba 16) f.2.2.2.2.2.1,dv qi f.2.2.2.2.2.2.1,dv qi f.2.2.2.2.2.2.2,dv (.i .i64) v.2]
def Q8 (N:Nat) (o_1:List qc) (o_1_3:Nat) (o_1_4:List (Int×qe×Nat)) (o_1_5:Vector UInt8 16) (o_1_6:qd) (o_1_7:Vector UInt8 16) (o_1_8:qd) (o_1_9:qd) (v:vJ):Tree (vJ⊕jN):=
 .cond (decide (v.2 < ((8:Int)))) (
 .opt (fnd (β:=qe) (.i .i64) v.2 o_1_4) (
 .chk (qt (v.2 + 1)) <|
 .ret (.inl (v.1,v.2 + 1))) fun e1=>
 .bind (j9 N o_1_9 (qe.S e1.1)) fun r2=>
 .cond r2 (
 .bind (zO [(o_1.length,o_1.length),(v.1.length,v.1.length)] (YO o_1 v.1 o_1_3 o_1_4 o_1_5 o_1_6 o_1_7 o_1_8 o_1_9 (qc.mk v.2 e1.1))) fun r3=>
 .chk (qt (v.2 + 1)) <|
 .ret (.inl (v.1++[qc.mk v.2 e1.1],v.2 + 1))) <|
 .chk (qt (v.2 + 1)) <|
 .ret (.inl (v.1,v.2 + 1))) <|
 .ret (.inr (v.1,v.2,decide (v.2 < ((8:Int)))))
def Kj (N n:Nat) (f:Q7) (v:vJ):Option jN:=qY (Q8 N f.1 f.2.1 f.2.2.1 f.2.2.2.1 f.2.2.2.2.1 f.2.2.2.2.2.1 f.2.2.2.2.2.2.1 f.2.2.2.2.2.2.2) some n v
theorem qgz (N:Nat) (f:Q7) (n:Nat) (v:vJ) (y:jN) (h:Kj N n f v=some y):LG Tryz.prog XE 117 (qM qrP 1) (qgM f v) (vG f y):=
 zo qj (E:=qbJ N) (L:=qL (qgR N)) (st:=vG f) (g:=some) (R:=vG f) (K7 N) (qo (by kernel_rfl) trivial) (rg0 (by kernel_rfl)) (fun v=>by kernel_rfl) (q0 (st:=vG f) fun y=>by rfl) n v y h
def Xo (N:Nat) (o_1:List qc) (o_1_3:Nat) (o_1_4:List (Int×qe×Nat)) (o_1_5:Vector UInt8 16) (o_1_6:qd) (o_1_7:Vector UInt8 16) (o_1_8:qd) (o_1_9:qd) (o_1_2:List qc) (s7_1:Int):Option jN:=Kj N N (o_1,o_1_3,o_1_4,o_1_5,o_1_6,o_1_7,o_1_8,o_1_9) (o_1_2,s7_1)
def Kw (N:Nat):qA:=smL Kv [(.sl 4 qq),(.sl 4 qq),.nat,(YV (.i .i64) qv),(.ba 16),qi,(.ba 16),qi,qi,(.i .i64)] jN (fun x=>Xo N x.1 x.2.2.1 x.2.2.2.1 x.2.2.2.2.1 x.2.2.2.2.2.1 x.2.2.2.2.2.2.1 x.2.2.2.2.2.2.2.1 x.2.2.2.2.2.2.2.2.1 x.2.1 x.2.2.2.2.2.2.2.2.2.1) cs1 fun x=>vG (x.1,x.2.2.1,x.2.2.2.1,x.2.2.2.2.1,x.2.2.2.2.2.1,x.2.2.2.2.2.2.1,x.2.2.2.2.2.2.2.1,x.2.2.2.2.2.2.2.2.1)
theorem qf5 (N:Nat):jq Tryz.prog XE 117 (qM qrP 1) (Kw N):=zA fun x z h=>qgz N (x.1,x.2.2.1,x.2.2.2.1,x.2.2.2.2.1,x.2.2.2.2.2.1,x.2.2.2.2.2.2.1,x.2.2.2.2.2.2.2.1,x.2.2.2.2.2.2.2.2.1) N (x.2.1,x.2.2.2.2.2.2.2.2.2.1) z h
def qjE (a0:List qc) (a2:Nat) (a3:List (Int×qe×Nat)) (a4:Vector UInt8 16) (a5:qd) (a6:Vector UInt8 16) (a7:qd) (a8:qd) (z:List qc):TV×THp:=(.tup [],[(40,.cell false (.ag [.tv (.ba 16) a4,.tv qi a5,.v 45 a0.length])),(45,.vec false 4 (.sl 4 qq) a0),(70,.cell false (.ag [.tv (.ba 16) a6,.tv qi a7,.v 75 z.length])),(75,.vec false 4 (.sl 4 qq) z),(250,.map a2 (.i .i64) qv a3),(50080,.loop [44] 52 [(4,.p 40 [] 0),(7,.p 70 [] 0),(43,.fn (.func 117) [] [.p 100020 [] 0,.p 100030 [] 0])] 5500008 55 .ready none 50081),(50081,.dfr true),(100020,.cell false (.m 250)),(100030,.cell false (.tv qi a8))])
def XG (N:Nat) (a0:List qc) (a1:List qc) (a2:Nat) (a3:List (Int×qe×Nat)) (a4:Vector UInt8 16) (a5:qd) (a6:Vector UInt8 16) (a7:qd) (a8:qd):Tree (List qc):=
 .bind (zO [(a0.length,a0.length),(a1.length,a1.length)] (Xo N a0 a2 a3 a4 a5 a6 a7 a8 a1 0)) fun z1=>
 .ret z1.1
def Vg (N:Nat) (a0:List qc) (a1:List qc) (a2:Nat) (a3:List (Int×qe×Nat)) (a4:Vector UInt8 16) (a5:qd) (a6:Vector UInt8 16) (a7:qd) (a8:qd):Option (List qc):=(XG N a0 a1 a2 a3 a4 a5 a6 a7 a8).run some
def qju (N:Nat):List (Nat×qA):=[(1,Kw N)]
def qbF (N:Nat):Ent:=smF ⟨117,[],[.k (.yl 50080)],[.k (.p 100020 [] 0),.k (.p 100030 [] 0)],[(40,.cell false (.ag [.x (.ba 16),.x qi,.vs 45])),(45,.vec false 4),(70,.cell false (.ag [.x (.ba 16),.x qi,.vs 75])),(75,.vec false 4),(250,.map (.i .i64) qv),(50080,.loop [44] 52 [(4,.k (.p 40 [] 0)),(7,.k (.p 70 [] 0)),(43,.fn 117 [] [.k (.p 100020 [] 0),.k (.p 100030 [] 0)])] 5500008 55 .ready none 50081),(50081,.dfr true),(100020,.cell false (.k (.m 250))),(100030,.cell false (.x qi))]⟩ [(.sl 4 qq),(.sl 4 qq),.nat,(YV (.i .i64) qv),(.ba 16),qi,(.ba 16),qi,qi] (List qc) (fun x=>Vg N x.1 x.2.1 x.2.2.1 x.2.2.2.1 x.2.2.2.2.1 x.2.2.2.2.2.1 x.2.2.2.2.2.2.1 x.2.2.2.2.2.2.2.1 x.2.2.2.2.2.2.2.2.1) cs1 fun x=>qjE x.1 x.2.2.1 x.2.2.2.1 x.2.2.2.2.1 x.2.2.2.2.2.1 x.2.2.2.2.2.2.1 x.2.2.2.2.2.2.2.1 x.2.2.2.2.2.2.2.2.1
theorem qjq (N:Nat):zg Tryz.prog (qbF N):=
 zf (H:=XE) (L:=qL (qju N)) (ts:=[(.sl 4 qq),(.sl 4 qq),.nat,(YV (.i .i64) qv),(.ba 16),qi,(.ba 16),qi,qi]) (T:=fun x=>XG N x.1 x.2.1 x.2.2.1 x.2.2.2.1 x.2.2.2.2.1 x.2.2.2.2.2.1 x.2.2.2.2.2.2.1 x.2.2.2.2.2.2.2.1 x.2.2.2.2.2.2.2.2.1) 1 qLI (K7 N) (qo (by kernel_rfl) ⟨qf5 N,trivial⟩) (rg0 (by kernel_rfl)) fun x=>by kernel_rfl
noncomputable def qNJ:Code:=Tryz.f55.body.getD .skip
theorem qNw:FnF Tryz.prog 55 Tryz.f55 qNJ:=⟨qj,by kernel_rfl,by kernel_rfl,by kernel_rfl⟩
def qIW:TH:={ live:=[(0,[2,3,4]),(1,[2,3,4,23]),(2,[4,5]),(3,[2,3,4,6]),(4,[2,3,4,6]),(5,[2,3,4,6]),(6,[4,6,7]),(7,[4,7,43]),(8,[7,8]),(10,[4,5])],dec:=[12,17],fresh:=[43],nil:=[(0,[⟨.ob 40 [2],45,(.sl 4 qq)⟩]),(2,[⟨.ob 40 [2],45,(.sl 4 qq)⟩]),(6,[⟨.ob 70 [2],75,(.sl 4 qq)⟩])] }
def qIv (N:Nat):List Ent:=[qkC N,qf6 N,qtW N,qdj,qbF N]
theorem qDF (N:Nat):qT Tryz.prog (qIv N):=⟨qnK N,qpK N,qEm N,qlb,qjq N,trivial⟩
def qI1 (z:qa×Bool):TV×THp:=(.tup [.tv qf (z.1:qa),xb z.2],[])
def qoB (N:Nat) (a0:qa) (a1:qa):Tree (qa×Bool):=
 .bind (qfm N a0) fun r1=>
 .cond (!r1) (
 .chk (0=0) <|
 .ret (qa.mk ((Vector.replicate 16 0)) (qd.mk 0 0) [],false)) <|
 .bind (qfm N a1) fun r2=>
 .cond (!r2) (
 .chk (0=0) <|
 .ret (qa.mk ((Vector.replicate 16 0)) (qd.mk 0 0) [],false)) <|
 .cond (!(eqE (.ba 16) (qa.ID a0) (qa.ID a1))) (
 .chk (0=0) <|
 .ret (qa.mk ((Vector.replicate 16 0)) (qd.mk 0 0) [],false)) <|
 .bind (Xn N 0 [] a0) fun r3=>
 .bind (Xn N r3.1 r3.2 a1) fun r4=>
 .bind (qkB N (qa.qB a0) (qa.qB a1)) fun r5=>
 .bind (qeT r4.1 r4.2 r5) fun r6=>
 .bind (zO [(([]:List qc).length,0),(([]:List qc).length,0)] (Vg N [] [] r4.1 r4.2 ((Vector.replicate 16 0)) (qd.mk 0 0) (qa.ID a0) r5 r5)) fun r7=>
 .chk (r7.length=r7.length) <|
 .ret (qa.mk (qa.ID a0) r5 r7,true)
def qoH (N:Nat) (a0:qa) (a1:qa):Option (qa×Bool):=(qoB N a0 a1).run some
def qIw (N:Nat):List (Nat×qA):=[]
def qwI (N:Nat):Ent:=smF ⟨55,[],[.x qf,.x qf],[],[]⟩ [qf,qf] (qa×Bool) (fun x=>qoH N x.1 x.2.1) cs1 fun _=>qI1
theorem qFR (N:Nat):zg Tryz.prog (qwI N):=
 zf (H:=qIW) (L:=qL (qIw N)) (ts:=[qf,qf]) (T:=fun x=>qoB N x.1 x.2.1) 0 qNw (qDF N) (qo (by kernel_rfl) trivial) (rgs (by kernel_rfl)) fun x=>by kernel_rfl
noncomputable def qKf:Code:=Tryz.f127.body.getD .skip
theorem qKb:FnF Tryz.prog 127 Tryz.f127 qKf:=⟨qj,by kernel_rfl,by kernel_rfl,by kernel_rfl⟩
def qtu:TH:={ live:=[(0,[0,2]),(1,[0,2,4]),(2,[0]),(3,[0,2]),(4,[0,2,8]),(5,[0,2]),(6,[0,2]),(7,[0,2,14]),(8,[0,2]),(9,[0,2]),(10,[2])] }
def qte (N:Nat):List Ent:=[]
theorem qpI (N:Nat):qT Tryz.prog (qte N):=trivial
def qsU (z:Int):TV×THp:=(xi z,[])
def qg1 (a0:Int):Tree (Int):=
 .cond (decide (((4294967296:Int))≤a0)) (
 .chk (0≤(32:Int)) <|
 .cond (decide (65536≤(Q1 a0 32))) (
 .chk (0≤(16:Int)) <|
 .cond (decide (256≤(Q1 (Q1 a0 32) 16))) (
 .chk (0≤(8:Int)) <|
 let w1:Int:=IntKind.u8.wrap (Q1 (Q1 (Q1 a0 32) 16) 8)
 .bind (zk qrb w1) fun e2=>
 .chk (qt ((e2.toNat:Nat):Int)) <|
 .chk (qt (((56:Int)) + ((e2.toNat:Nat):Int))) <|
 .ret (((56:Int)) + ((e2.toNat:Nat):Int))) <|
 .bind (zk qrb (IntKind.u8.wrap (Q1 (Q1 a0 32) 16))) fun e1=>
 .chk (qt ((e1.toNat:Nat):Int)) <|
 .chk (qt (((48:Int)) + ((e1.toNat:Nat):Int))) <|
 .ret (((48:Int)) + ((e1.toNat:Nat):Int))) <|
 .cond (decide (256≤(Q1 a0 32))) (
 .chk (0≤(8:Int)) <|
 .bind (zk qrb (IntKind.u8.wrap (Q1 (Q1 a0 32) 8))) fun e1=>
 .chk (qt ((e1.toNat:Nat):Int)) <|
 .chk (qt (((40:Int)) + ((e1.toNat:Nat):Int))) <|
 .ret (((40:Int)) + ((e1.toNat:Nat):Int))) <|
 .bind (zk qrb (IntKind.u8.wrap (Q1 a0 32))) fun e1=>
 .chk (qt ((e1.toNat:Nat):Int)) <|
 .chk (qt (((32:Int)) + ((e1.toNat:Nat):Int))) <|
 .ret (((32:Int)) + ((e1.toNat:Nat):Int))) <|
 .cond (decide (((65536:Int))≤a0)) (
 .chk (0≤(16:Int)) <|
 .cond (decide (256≤(Q1 a0 16))) (
 .chk (0≤(8:Int)) <|
 .bind (zk qrb (IntKind.u8.wrap (Q1 (Q1 a0 16) 8))) fun e1=>
 .chk (qt ((e1.toNat:Nat):Int)) <|
 .chk (qt (((24:Int)) + ((e1.toNat:Nat):Int))) <|
 .ret (((24:Int)) + ((e1.toNat:Nat):Int))) <|
 .bind (zk qrb (IntKind.u8.wrap (Q1 a0 16))) fun e1=>
 .chk (qt ((e1.toNat:Nat):Int)) <|
 .chk (qt (((16:Int)) + ((e1.toNat:Nat):Int))) <|
 .ret (((16:Int)) + ((e1.toNat:Nat):Int))) <|
 .cond (decide (((256:Int))≤a0)) (
 .chk (0≤(8:Int)) <|
 .bind (zk qrb (IntKind.u8.wrap (Q1 a0 8))) fun e1=>
 .chk (qt ((e1.toNat:Nat):Int)) <|
 .chk (qt (((8:Int)) + ((e1.toNat:Nat):Int))) <|
 .ret (((8:Int)) + ((e1.toNat:Nat):Int))) <|
 .bind (zk qrb (IntKind.u8.wrap a0)) fun e1=>
 .chk (qt ((e1.toNat:Nat):Int)) <|
 .chk (qt (((0:Int)) + ((e1.toNat:Nat):Int))) <|
 .ret (((0:Int)) + ((e1.toNat:Nat):Int))
def qky (a0:Int):Option (Int):=(qg1 a0).run some
def qtC:List (Nat×qA):=[]
def qho:Ent:=smF ⟨127,[],[.x (.i .u64)],[],[]⟩ [(.i .u64)] (Int) (fun x=>qky x.1) cs1 fun _=>qsU
theorem qrQ:zg Tryz.prog (qho):=
 zf (H:=qtu) (L:=qL (qtC)) (ts:=[(.i .u64)]) (T:=fun x=>qg1 x.1) 0 qKb (qpI 0) (qo (by kernel_rfl) trivial) (rg0 (by kernel_rfl)) fun x=>by kernel_rfl
noncomputable def qL8:Code:=Tryz.f93.body.getD .skip
theorem qMh:FnF Tryz.prog 93 Tryz.f93 qL8:=⟨qj,by kernel_rfl,by kernel_rfl,by kernel_rfl⟩
def qxB:TH:={ live:=[(0,[0]),(1,[2]),(2,[2])] }
def qwv (N:Nat):List Ent:=[qho]
theorem qtf (N:Nat):qT Tryz.prog (qwv N):=⟨qrQ,trivial⟩
def qxN (z:Int):TV×THp:=(xi z,[])
def qka (a0:Int):Tree (Int):=
 .bind (qky a0) fun r1=>
 .ret r1
def qcD (a0:Int):Option (Int):=(qka a0).run some
def qwR:List (Nat×qA):=[]
def qku:Ent:=smF ⟨93,[],[.x (.i .u64)],[],[]⟩ [(.i .u64)] (Int) (fun x=>qcD x.1) cs1 fun _=>qxN
theorem qvO:zg Tryz.prog (qku):=
 zf (H:=qxB) (L:=qL (qwR)) (ts:=[(.i .u64)]) (T:=fun x=>qka x.1) 0 qMh (qtf 0) (qo (by kernel_rfl) trivial) (rg0 (by kernel_rfl)) fun x=>by kernel_rfl
noncomputable def qL9:Code:=Tryz.f57.body.getD .skip
theorem qOj:FnF Tryz.prog 57 Tryz.f57 qL9:=⟨qj,by kernel_rfl,by kernel_rfl,by kernel_rfl⟩
def qyR:TH:={ live:=[(0,[2,3]),(1,[4])] }
def qzk (N:Nat):List Ent:=[KR]
theorem qu0 (N:Nat):qT Tryz.prog (qzk N):=⟨qc5,trivial⟩
def qyU (z:Int):TV×THp:=(xi z,[])
def qmn (a0:Vector UInt8 16) (a1:Vector UInt8 16):Tree (Int):=
 .bind (Kr a0.toList a1.toList) fun r1=>
 .ret r1
def qiy (a0:Vector UInt8 16) (a1:Vector UInt8 16):Option (Int):=(qmn a0 a1).run some
def qzo:List (Nat×qA):=[]
def ql5:Ent:=smF ⟨57,[],[.x (.ba 16),.x (.ba 16)],[],[]⟩ [(.ba 16),(.ba 16)] (Int) (fun x=>qiy x.1 x.2.1) cs1 fun _=>qyU
theorem qxH:zg Tryz.prog (ql5):=
 zf (H:=qyR) (L:=qL (qzo)) (ts:=[(.ba 16),(.ba 16)]) (T:=fun x=>qmn x.1 x.2.1) 0 qOj (qu0 0) (qo (by kernel_rfl) trivial) (rg0 (by kernel_rfl)) fun x=>by kernel_rfl
noncomputable def qgg:Code:=Tryz.f118.body.getD .skip
theorem qKt:FnF Tryz.prog 118 Tryz.f118 qgg:=⟨qj,by kernel_rfl,by kernel_rfl,by kernel_rfl⟩
def jE:TH:={ live:=[(0,[0,1,2,3,8]),(1,[0,1,2,3,8,14]),(2,[0,1,2,3,8]),(3,[0,1,2,3,8,9]),(4,[0,1,2,3,8,9,34]),(5,[0,1,2,3,8,9]),(6,[0,1,2,3,8,9])],dec:=[21] }
def Zc (N:Nat):List Ent:=[ql5]
theorem QN (N:Nat):qT Tryz.prog (Zc N):=⟨qxH,trivial⟩
abbrev jT:=Nat×Int×Int×Int
abbrev zT:=List (Vector UInt8 16)×Int×Bool
def jm (f:jT) (y:zT):Ex×TSt:=(.exit 2,⟨1,53,[75],[(0,.v 75 f.1),(1,xi f.2.1),(2,xi f.2.2.1),(3,.fn (.func 57) [] []),(8,xi f.2.2.2),(9,xi y.2.1),(34,xb y.2.2)],[(75,.vec false 16 (.sl 16 (.ba 16)) (y.1:List (Vector UInt8 16)))],false,[]⟩)
def qbu (N:Nat):List (Nat×qA):=[]
abbrev jk:=List (Vector UInt8 16)×Int
def Vc:SP:=⟨1,53,[75],[(0,.v 75),(1,.x (.i .i64)),(2,.x (.i .i64)),(3,.fn 57 [] []),(8,.x (.i .i64)),(9,.x (.i .i64))],[(75,.vec false 16)],false,[]⟩
def qbk (f:jT) (v:jk):TSt:=zC Vc [dv (.sl 16 (.ba 16)) v.1,dv .nat f.1,dv (.i .i64) f.2.1,dv (.i .i64) f.2.2.1,dv (.i .i64) f.2.2.2,dv (.i .i64) v.2]
def jj (N:Nat) (s0_4:Nat) (s1_4:Int) (s2_4:Int) (s8_4:Int) (v:jk):Tree (jk⊕zT):=
 .cond (decide (s1_4 < v.2)) (
 .chk (0≤v.2∧v.2 < ((s0_4:Nat):Int)) <|
 .bind (Zd v.1 s0_4 v.2.toNat) fun e1=>
 .chk (qt (v.2 - 1)) <|
 .chk (0≤(v.2 - 1)∧(v.2 - 1) < ((s0_4:Nat):Int)) <|
 .bind (Zd v.1 s0_4 ((v.2 - 1).toNat)) fun e2=>
 .bind (qiy e1 e2) fun r3=>
 .cond (decide (r3 < ((0:Int)))) (
 .chk (qt (v.2 - 1)) <|
 .chk (qt (v.2 - 1)) <|
 .chk (0≤(v.2 - 1)∧(v.2 - 1) < ((s0_4:Nat):Int)) <|
 .bind (Zd v.1 s0_4 ((v.2 - 1).toNat)) fun e4=>
 .chk (0≤v.2∧v.2 < ((s0_4:Nat):Int)) <|
 .bind (Zd v.1 s0_4 v.2.toNat) fun e5=>
 .chk (0≤v.2∧v.2 < ((s0_4:Nat):Int)) <|
 .chk (qcx v.1.length s0_4 v.2.toNat) <|
 .chk (0≤(v.2 - 1)∧(v.2 - 1) < ((s0_4:Nat):Int)) <|
 .chk (qcx ((v.1.set v.2.toNat e4).length) s0_4 ((v.2 - 1).toNat)) <|
 .chk (qt (v.2 - 1)) <|
 .ret (.inl ((v.1.set v.2.toNat e4).set ((v.2 - 1).toNat) e5,v.2 - 1))) <|
 .ret (.inr (v.1,v.2,decide (r3 < ((0:Int)))))) <|
 .ret (.inr (v.1,v.2,false))
def Vo (N n:Nat) (f:jT) (v:jk):Option zT:=qY (jj N f.1 f.2.1 f.2.2.1 f.2.2.2) some n v
theorem qbi (N:Nat) (f:jT) (n:Nat) (v:jk) (y:zT) (h:Vo N n f v=some y):LG Tryz.prog jE 118 (qM (qM qgg 1) 4) (qbk f v) (jm f y):=
 zo qj (E:=Zc N) (L:=qL (qbu N)) (st:=jm f) (g:=some) (R:=jm f) (QN N) (qo (by kernel_rfl) trivial) (rg0 (by kernel_rfl)) (fun v=>by kernel_rfl) (q0 (st:=jm f) fun y=>by rfl) n v y h
def V6 (N:Nat) (s0_4:Nat) (s1_4:Int) (s2_4:Int) (s8_4:Int) (o_4:List (Vector UInt8 16)) (s9_4:Int):Option zT:=Vo N N (s0_4,s1_4,s2_4,s8_4) (o_4,s9_4)
def Vb (N:Nat):qA:=smL Vc [(.sl 16 (.ba 16)),.nat,(.i .i64),(.i .i64),(.i .i64),(.i .i64)] zT (fun x=>V6 N x.2.1 x.2.2.1 x.2.2.2.1 x.2.2.2.2.1 x.1 x.2.2.2.2.2.1) cs1 fun x=>jm (x.2.1,x.2.2.1,x.2.2.2.1,x.2.2.2.2.1)
theorem qaX (N:Nat):jq Tryz.prog jE 118 (qM (qM qgg 1) 4) (Vb N):=zA fun x z h=>qbi N (x.2.1,x.2.2.1,x.2.2.2.1,x.2.2.2.2.1) N (x.1,x.2.2.2.2.2.1) z h
abbrev jQ:=Nat×Int×Int
abbrev zU:=List (Vector UInt8 16)×Int×Bool
def jo (f:jQ) (y:zU):Ex×TSt:=(.exit 0,⟨1,53,[75],[(0,.v 75 f.1),(1,xi f.2.1),(2,xi f.2.2),(3,.fn (.func 57) [] []),(8,xi y.2.1),(14,xb y.2.2)],[(75,.vec false 16 (.sl 16 (.ba 16)) (y.1:List (Vector UInt8 16)))],false,[]⟩)
def qa9 (N:Nat):List (Nat×qA):=[(4,Vb N)]
abbrev jn:=List (Vector UInt8 16)×Int
def J7:SP:=⟨1,53,[75],[(0,.v 75),(1,.x (.i .i64)),(2,.x (.i .i64)),(3,.fn 57 [] []),(8,.x (.i .i64))],[(75,.vec false 16)],false,[]⟩
def qbe (f:jQ) (v:jn):TSt:=zC J7 [dv (.sl 16 (.ba 16)) v.1,dv .nat f.1,dv (.i .i64) f.2.1,dv (.i .i64) f.2.2,dv (.i .i64) v.2]
def zJ (N:Nat) (s0_1:Nat) (s1_1:Int) (s2_1:Int) (v:jn):Tree (jn⊕zU):=
 .cond (decide (v.2 < s2_1)) (
 .bind (V6 N s0_1 s1_1 s2_1 v.2 v.1 v.2) fun z1=>
 .chk (qt (v.2 + 1)) <|
 .ret (.inl (z1.1,v.2 + 1))) <|
 .ret (.inr (v.1,v.2,decide (v.2 < s2_1)))
def J9 (N n:Nat) (f:jQ) (v:jn):Option zU:=qY (zJ N f.1 f.2.1 f.2.2) some n v
theorem qbp (N:Nat) (f:jQ) (n:Nat) (v:jn) (y:zU) (h:J9 N n f v=some y):LG Tryz.prog jE 118 (qM qgg 1) (qbe f v) (jo f y):=
 zo qj (E:=Zc N) (L:=qL (qa9 N)) (st:=jo f) (g:=some) (R:=jo f) (QN N) (qo (by kernel_rfl) ⟨qaX N,trivial⟩) (rg0 (by kernel_rfl)) (fun v=>by kernel_rfl) (q0 (st:=jo f) fun y=>by rfl) n v y h
def vu (N:Nat) (s0_1:Nat) (s1_1:Int) (s2_1:Int) (o_1:List (Vector UInt8 16)) (s8_1:Int):Option zU:=J9 N N (s0_1,s1_1,s2_1) (o_1,s8_1)
def Vm (N:Nat):qA:=smL J7 [(.sl 16 (.ba 16)),.nat,(.i .i64),(.i .i64),(.i .i64)] zU (fun x=>vu N x.2.1 x.2.2.1 x.2.2.2.1 x.1 x.2.2.2.2.1) cs1 fun x=>jo (x.2.1,x.2.2.1,x.2.2.2.1)
theorem qad (N:Nat):jq Tryz.prog jE 118 (qM qgg 1) (Vm N):=zA fun x z h=>qbp N (x.2.1,x.2.2.1,x.2.2.2.1) N (x.1,x.2.2.2.2.1) z h
def qcQ (z:List (Vector UInt8 16)):TV×THp:=(.tup [],[(75,.vec false 16 (.sl 16 (.ba 16)) z)])
def vC (N:Nat) (a0:List (Vector UInt8 16)) (a1:Int) (a2:Int):Tree (List (Vector UInt8 16)):=
 .chk (qt (a1 + 1)) <|
 .bind (vu N a0.length a1 a2 a0 (a1 + 1)) fun z1=>
 .ret z1.1
def zX (N:Nat) (a0:List (Vector UInt8 16)) (a1:Int) (a2:Int):Option (List (Vector UInt8 16)):=(vC N a0 a1 a2).run some
def qcV (N:Nat):List (Nat×qA):=[(1,Vm N)]
def Xh (N:Nat):Ent:=smF ⟨118,[],[.vs 75,.x (.i .i64),.x (.i .i64),.fn 57 [] []],[],[(75,.vec false 16)]⟩ [(.sl 16 (.ba 16)),(.i .i64),(.i .i64)] (List (Vector UInt8 16)) (fun x=>zX N x.1 x.2.1 x.2.2.1) cs1 fun _=>qcQ
theorem qb4 (N:Nat):zg Tryz.prog (Xh N):=
 zf (H:=jE) (L:=qL (qcV N)) (ts:=[(.sl 16 (.ba 16)),(.i .i64),(.i .i64)]) (T:=fun x=>vC N x.1 x.2.1 x.2.2.1) 0 qKt (QN N) (qo (by kernel_rfl) ⟨qad N,trivial⟩) (rg0 (by kernel_rfl)) fun x=>by kernel_rfl
noncomputable def qu3:Code:=Tryz.f92.body.getD .skip
theorem qNi:FnF Tryz.prog 92 Tryz.f92 qu3:=⟨qj,by kernel_rfl,by kernel_rfl,by kernel_rfl⟩
def Vu:TH:={ live:=[(0,[0,1,2,3,4,10]),(1,[0,1,2,3,4,10,11]),(2,[0,1,2,3,4,10,11,12]),(3,[0,1,2,3,4,10,11,12,25]),(5,[0,1,2,3,4,10,11,12,32]),(7,[0,1,2,3,4,10,11,12,39]),(8,[0,1,2,3,4,10,11,12]),(9,[0,1,2,3,4,10,11,12]),(10,[0,1,2,3,4,10,11,12,13,14]),(11,[0,1,2,3,4,10,11,12,13,14,56]),(12,[0,1,2,3,4,10,11,12,13]),(13,[0,1,2,3,4,10,11,12,13]),(14,[0,1,2,3,4,10,11,12,13,14]),(15,[0,1,2,3,4,10,11,12,13,75]),(16,[0,1,2,3,4,10,11,12,13,80]),(17,[0,1,2,3,4,10,11,12,13,97]),(18,[0,2,3,4,10,11,15]),(19,[0,1,2,3,4,10,11]),(20,[0,1,2,3,4,12,16,17]),(21,[0,1,2,3,4,11,12,16]),(22,[0,1,2,3,4,11,12,16,18,19]),(23,[0,1,2,3,4,11,16,18,19,20]),(24,[0,1,2,3,4,11,16,18,19,20,125]),(25,[0,1,2,3,4,10,11,16]),(26,[0,2,3,4,10,11,16]),(27,[0,1,2,3,4,10,11]),(28,[0,1,2,3,4,10,11,16]),(29,[0,1,3,4,10,11,16]),(30,[0,1,2,3,4,10,11])],dec:=[69,72,83],raw:=[118] }
def Y_ (N:Nat):List Ent:=[Xh N]
theorem W8 (N:Nat):qT Tryz.prog (Y_ N):=⟨qb4 N,trivial⟩
abbrev Qe:=List (Vector UInt8 16)×Int×Int×Int
abbrev js:=List (Vector UInt8 16)
def jX (f:Qe) (y:js):Ex×TSt:=(.ret,⟨1,148,[75],[],[(75,.vec false 16 (.sl 16 (.ba 16)) y)],false,[]⟩)
def qeE (N:Nat):List (Nat×qA):=[]
abbrev jU:=Unit
def Wy:SP:=⟨1,148,[75],[(0,.vs 75),(1,.x (.i .i64)),(2,.x (.i .i64)),(3,.x (.i .i64)),(4,.fn 57 [] []),(10,.k (.bc true)),(11,.k (.bc true))],[(75,.vec false 16)],false,[]⟩
def qeI (f:Qe) (v:jU):TSt:=zC Wy [dv (.sl 16 (.ba 16)) f.1,dv (.i .i64) f.2.1,dv (.i .i64) f.2.2.1,dv (.i .i64) f.2.2.2]
def Qg (N:Nat) (o_2:List (Vector UInt8 16)) (s1_2:Int) (s2_2:Int) (s3_2:Int) (v:jU):Tree (jU⊕js):=
 .chk (qt (s2_2 - s1_2)) <|
 .cond (decide ((s2_2 - s1_2)≤12)) (
 .bind (zO [(o_2.length,o_2.length)] (zX N o_2 s1_2 s2_2)) fun r1=>
 .ret (.inr r1)) <|
 .cond (decide (s3_2=((0:Int)))) (
 .chk (o_2.length=o_2.length) <|
 .no) <|
 .chk (o_2.length=o_2.length) <|
 .no
def Ww (N n:Nat) (f:Qe) (v:jU):Option js:=qY (Qg N f.1 f.2.1 f.2.2.1 f.2.2.2) some n v
theorem qeG (N:Nat) (f:Qe) (n:Nat) (v:jU) (y:js) (h:Ww N n f v=some y):LG Tryz.prog Vu 92 (qM qu3 2) (qeI f v) (jX f y):=
 zo qj (E:=Y_ N) (L:=qL (qeE N)) (st:=jX f) (g:=some) (R:=jX f) (W8 N) (qo (by kernel_rfl) trivial) (rg0 (by kernel_rfl)) (fun v=>by kernel_rfl) (q0 (st:=jX f) fun y=>by rfl) n v y h
def JY (N:Nat) (o_2:List (Vector UInt8 16)) (s1_2:Int) (s2_2:Int) (s3_2:Int):Option js:=Ww N N (o_2,s1_2,s2_2,s3_2) ()
def WA (N:Nat):qA:=smL Wy [(.sl 16 (.ba 16)),(.i .i64),(.i .i64),(.i .i64)] js (fun x=>JY N x.1 x.2.1 x.2.2.1 x.2.2.2.1) cs1 fun x=>jX (x.1,x.2.1,x.2.2.1,x.2.2.2.1)
theorem qdW (N:Nat):jq Tryz.prog Vu 92 (qM qu3 2) (WA N):=zA fun x z h=>qeG N (x.1,x.2.1,x.2.2.1,x.2.2.2.1) N () z h
def qgv (z:List (Vector UInt8 16)):TV×THp:=(.tup [],[(75,.vec false 16 (.sl 16 (.ba 16)) z)])
def Vw (N:Nat) (a0:List (Vector UInt8 16)) (a1:Int) (a2:Int) (a3:Int):Tree (List (Vector UInt8 16)):=
 .bind (zO [(a0.length,a0.length)] (JY N a0 a1 a2 a3)) fun z1=>
 .ret z1
def ZO (N:Nat) (a0:List (Vector UInt8 16)) (a1:Int) (a2:Int) (a3:Int):Option (List (Vector UInt8 16)):=(Vw N a0 a1 a2 a3).run some
def qgS (N:Nat):List (Nat×qA):=[(2,WA N)]
def Y9 (N:Nat):Ent:=smF ⟨92,[],[.vs 75,.x (.i .i64),.x (.i .i64),.x (.i .i64),.fn 57 [] []],[],[(75,.vec false 16)]⟩ [(.sl 16 (.ba 16)),(.i .i64),(.i .i64),(.i .i64)] (List (Vector UInt8 16)) (fun x=>ZO N x.1 x.2.1 x.2.2.1 x.2.2.2.1) cs1 fun _=>qgv
theorem qfS (N:Nat):zg Tryz.prog (Y9 N):=
 zf (H:=Vu) (L:=qL (qgS N)) (ts:=[(.sl 16 (.ba 16)),(.i .i64),(.i .i64),(.i .i64)]) (T:=fun x=>Vw N x.1 x.2.1 x.2.2.1 x.2.2.2.1) 0 qNi (W8 N) (qo (by kernel_rfl) ⟨qdW N,trivial⟩) (rg0 (by kernel_rfl)) fun x=>by kernel_rfl
noncomputable def qMS:Code:=Tryz.f56.body.getD .skip
theorem qN0:FnF Tryz.prog 56 Tryz.f56 qMS:=⟨qj,by kernel_rfl,by kernel_rfl,by kernel_rfl⟩
def qm6:TH:={ live:=[(0,[0,1,4])],raw:=[92] }
def qnN (N:Nat):List Ent:=[qku,Y9 N]
theorem qkW (N:Nat):qT Tryz.prog (qnN N):=⟨qvO,qfS N,trivial⟩
def qoc (z:List (Vector UInt8 16)):TV×THp:=(.tup [],[(75,.vec false 16 (.sl 16 (.ba 16)) z)])
def YX (N:Nat) (a0:List (Vector UInt8 16)):Tree (List (Vector UInt8 16)):=
 let w1:Int:=IntKind.u64.wrap ((a0.length:Nat):Int)
 .bind (qcD w1) fun r2=>
 .bind (zO [(a0.length,a0.length)] (ZO N a0 0 ((a0.length:Nat):Int) r2)) fun r3=>
 .ret r3
def Wb (N:Nat) (a0:List (Vector UInt8 16)):Option (List (Vector UInt8 16)):=(YX N a0).run some
def qn4 (N:Nat):List (Nat×qA):=[]
def qdS (N:Nat):Ent:=smF ⟨56,[],[.vs 75,.fn 57 [] []],[],[(75,.vec false 16)]⟩ [(.sl 16 (.ba 16))] (List (Vector UInt8 16)) (fun x=>Wb N x.1) cs1 fun _=>qoc
theorem qmO (N:Nat):zg Tryz.prog (qdS N):=
 zf (H:=qm6) (L:=qL (qn4 N)) (ts:=[(.sl 16 (.ba 16))]) (T:=fun x=>YX N x.1) 0 qN0 (qkW N) (qo (by kernel_rfl) trivial) (rg0 (by kernel_rfl)) fun x=>by kernel_rfl
noncomputable def qh3:Code:=Tryz.f22.body.getD .skip
theorem qNQ:FnF Tryz.prog 22 Tryz.f22 qh3:=⟨qj,by kernel_rfl,by kernel_rfl,by kernel_rfl⟩
def qch:TH:={ live:=[(0,[2,3,4]),(1,[2,3,4,22]),(2,[4,5]),(3,[2,3,4,6]),(4,[2,3,4,6,7]),(5,[4,6,7,30,31,32]),(6,[4,6,7,30,31,32,33]),(7,[4,6,7,9,30,31,32]),(8,[4,6,7,9,10,11,30,31,32]),(9,[4,6,7,9,10,30,31,32,44]),(10,[4,6,7,9,30,31,32]),(11,[4,6,7,30,31,32]),(12,[4,6,7,30,31,32]),(13,[4,6,7,30,31,32]),(14,[4,6,7,67]),(15,[4,5]),(16,[4,6,7]),(17,[4,6,7,12]),(18,[4,6,12,71,72,73]),(19,[4,6,12,71,72,73,74]),(20,[4,6,12,14,71,72,73]),(21,[4,6,12,71,72,73]),(22,[4,6,12,71,72,73]),(23,[4,5])],dec:=[18],raw:=[56],nil:=[(0,[⟨.ob 40 [0],43,(.sl 19 qf)⟩]),(2,[⟨.ob 40 [0],43,(.sl 19 qf)⟩]),(4,[⟨.sl 7,75,(.sl 16 (.ba 16))⟩]),(8,[⟨.ob 100 [2],105,(.sl 4 qq)⟩]),(15,[⟨.ob 40 [0],43,(.sl 19 qf)⟩]),(17,[⟨.ob 120 [0],123,(.sl 19 qf)⟩])] }
def qkJ (N:Nat):List Ent:=[qbz N,qeN N,qxi,qwI N,qdS N]
theorem qgO (N:Nat):qT Tryz.prog (qkJ N):=⟨qb8 N,qn1 N,qFf,qFR N,qmO N,trivial⟩
abbrev qbo:=List qa×List qa×Int
abbrev Xb:=List (Vector UInt8 16)×Nat×List (Vector UInt8 16×qa×Nat)×Int×Bool
def WZ (f:qbo) (y:Xb):Ex×TSt:=(.exit 0,⟨0,87,[],[(4,.p 40 [] 0),(6,.m 240),(7,.v 75 y.1.length),(30,.tv (.sl 19 qf) f.2.1),(31,xi f.2.2),(32,xi y.2.2.2.1),(33,xb y.2.2.2.2)],[(40,.cell false (.ag [.v 43 f.1.length])),(43,.vec false 19 (.sl 19 qf) f.1),(75,.vec false 16 (.sl 16 (.ba 16)) (y.1:List (Vector UInt8 16))),(240,.map y.2.1 (.ba 16) qf (y.2.2.1:List (Vector UInt8 16×qa×Nat)))],false,[]⟩)
def qyF (N:Nat):List (Nat×qA):=[]
abbrev Yi:=List (Vector UInt8 16)×Nat×List (Vector UInt8 16×qa×Nat)×Int
def qmk:SP:=⟨0,87,[],[(4,.k (.p 40 [] 0)),(6,.k (.m 240)),(7,.vs 75),(30,.x (.sl 19 qf)),(31,.x (.i .i64)),(32,.x (.i .i64))],[(40,.cell false (.ag [.vs 43])),(43,.vec false 19),(75,.vec false 16),(240,.map (.ba 16) qf)],false,[]⟩
def qyW (f:qbo) (v:Yi):TSt:=zC qmk [dv (.sl 19 qf) f.1,dv (.sl 16 (.ba 16)) v.1,dv .nat v.2.1,dv (YV (.ba 16) qf) v.2.2.1,dv (.sl 19 qf) f.2.1,dv (.i .i64) f.2.2,dv (.i .i64) v.2.2.2]
def Ym (N:Nat) (o_6:List qa) (s30_6:List qa) (s31_6:Int) (v:Yi):Tree (Yi⊕Xb):=
 .cond (decide (v.2.2.2 < s31_6)) (
 .bind (zk s30_6 v.2.2.2) fun e1=>
 .opt (fnd (β:=qa) (.ba 16) (qa.ID e1) v.2.2.1) (
 .chk (jx v.1.length v.1.length ((v.1++[qa.ID e1]).length) 16) <|
 .bind (qm2 e1) fun r3=>
 .chk (qt (v.2.2.2 + 1)) <|
 .ret (.inl (v.1++[qa.ID e1],(ZB (.ba 16) (qa.ID e1) (qa.mk (qa.ID e1) (qa.qB e1) ((([]:List qc))++(qa.F e1))) v.2.1 v.2.2.1).1,(ZB (.ba 16) (qa.ID e1) (qa.mk (qa.ID e1) (qa.qB e1) ((([]:List qc))++(qa.F e1))) v.2.1 v.2.2.1).2,v.2.2.2 + 1))) fun e2=>
 .bind (qoH N e2.1 e1) fun r3=>
 .chk (qt (v.2.2.2 + 1)) <|
 .ret (.inl (v.1,(ZB (.ba 16) (qa.ID e1) r3.1 v.2.1 v.2.2.1).1,(ZB (.ba 16) (qa.ID e1) r3.1 v.2.1 v.2.2.1).2,v.2.2.2 + 1))) <|
 .ret (.inr (v.1,v.2.1,v.2.2.1,v.2.2.2,decide (v.2.2.2 < s31_6)))
def qmh (N n:Nat) (f:qbo) (v:Yi):Option Xb:=qY (Ym N f.1 f.2.1 f.2.2) some n v
theorem qy8 (N:Nat) (f:qbo) (n:Nat) (v:Yi) (y:Xb) (h:qmh N n f v=some y):LG Tryz.prog qch 22 (qM qh3 6) (qyW f v) (WZ f y):=
 zo qj (E:=qkJ N) (L:=qL (qyF N)) (st:=WZ f) (g:=some) (R:=WZ f) (qgO N) (qo (by kernel_rfl) trivial) (rg0 (by kernel_rfl)) (fun v=>by kernel_rfl) (q0 (st:=WZ f) fun y=>by rfl) n v y h
def qjf (N:Nat) (o_6:List qa) (s30_6:List qa) (s31_6:Int) (o_6_2:List (Vector UInt8 16)) (o_6_3:Nat) (o_6_4:List (Vector UInt8 16×qa×Nat)) (s32_6:Int):Option Xb:=qmh N N (o_6,s30_6,s31_6) (o_6_2,o_6_3,o_6_4,s32_6)
def qmp (N:Nat):qA:=smL qmk [(.sl 19 qf),(.sl 16 (.ba 16)),.nat,(YV (.ba 16) qf),(.sl 19 qf),(.i .i64),(.i .i64)] Xb (fun x=>qjf N x.1 x.2.2.2.2.1 x.2.2.2.2.2.1 x.2.1 x.2.2.1 x.2.2.2.1 x.2.2.2.2.2.2.1) cs1 fun x=>WZ (x.1,x.2.2.2.2.1,x.2.2.2.2.2.1)
theorem qxS (N:Nat):jq Tryz.prog qch 22 (qM qh3 6) (qmp N):=zA fun x z h=>qy8 N (x.1,x.2.2.2.2.1,x.2.2.2.2.2.1) N (x.2.1,x.2.2.1,x.2.2.2.1,x.2.2.2.2.2.2.1) z h
abbrev KS:=List qa×List (Vector UInt8 16)×Nat×List (Vector UInt8 16×qa×Nat)×Nat×Int
abbrev Va:=List qa×Int×Bool
def XS (f:KS) (y:Va):Ex×TSt:=(.exit 2,⟨0,87,[],[(4,.p 40 [] 0),(6,.m 240),(12,.p 120 [] 0),(71,.v 75 f.2.2.2.2.1),(72,xi f.2.2.2.2.2),(73,xi y.2.1),(74,xb y.2.2)],[(40,.cell false (.ag [.v 43 f.1.length])),(43,.vec false 19 (.sl 19 qf) f.1),(75,.vec false 16 (.sl 16 (.ba 16)) f.2.1),(120,.cell false (.ag [.v 123 y.1.length])),(123,.vec false 19 (.sl 19 qf) (y.1:List qa)),(240,.map f.2.2.1 (.ba 16) qf f.2.2.2.1)],false,[]⟩)
def qxt (N:Nat):List (Nat×qA):=[]
abbrev XY:=List qa×Int
def qke:SP:=⟨0,87,[],[(4,.k (.p 40 [] 0)),(6,.k (.m 240)),(12,.k (.p 120 [] 0)),(71,.v 75),(72,.x (.i .i64)),(73,.x (.i .i64))],[(40,.cell false (.ag [.vs 43])),(43,.vec false 19),(75,.vec false 16),(120,.cell false (.ag [.vs 123])),(123,.vec false 19),(240,.map (.ba 16) qf)],false,[]⟩
def qv7 (f:KS) (v:XY):TSt:=zC qke [dv (.sl 19 qf) f.1,dv (.sl 16 (.ba 16)) f.2.1,dv (.sl 19 qf) v.1,dv .nat f.2.2.1,dv (YV (.ba 16) qf) f.2.2.2.1,dv .nat f.2.2.2.2.1,dv (.i .i64) f.2.2.2.2.2,dv (.i .i64) v.2]
def KT (N:Nat) (o_19:List qa) (o_19_2:List (Vector UInt8 16)) (o_19_4:Nat) (o_19_5:List (Vector UInt8 16×qa×Nat)) (s71_19:Nat) (s72_19:Int) (v:XY):Tree (XY⊕Va):=
 .cond (decide (v.2 < s72_19)) (
 .chk (0≤v.2∧v.2 < ((s71_19:Nat):Int)) <|
 .bind (Zd o_19_2 s71_19 v.2.toNat) fun e1=>
 .opt (fnd (β:=qa) (.ba 16) e1 o_19_5) (
 .chk (jx v.1.length v.1.length ((v.1++[qa.mk ((Vector.replicate 16 0)) (qd.mk 0 0) []]).length) 56) <|
 .chk (qt (v.2 + 1)) <|
 .ret (.inl (v.1++[qa.mk ((Vector.replicate 16 0)) (qd.mk 0 0) []],v.2 + 1))) fun e2=>
 .chk (jx v.1.length v.1.length ((v.1++[e2.1]).length) 56) <|
 .chk (qt (v.2 + 1)) <|
 .ret (.inl (v.1++[e2.1],v.2 + 1))) <|
 .ret (.inr (v.1,v.2,decide (v.2 < s72_19)))
def qkc (N n:Nat) (f:KS) (v:XY):Option Va:=qY (KT N f.1 f.2.1 f.2.2.1 f.2.2.2.1 f.2.2.2.2.1 f.2.2.2.2.2) some n v
theorem qwO (N:Nat) (f:KS) (n:Nat) (v:XY) (y:Va) (h:qkc N n f v=some y):LG Tryz.prog qch 22 (qM qh3 19) (qv7 f v) (XS f y):=
 zo qj (E:=qkJ N) (L:=qL (qxt N)) (st:=XS f) (g:=some) (R:=XS f) (qgO N) (qo (by kernel_rfl) trivial) (rg0 (by kernel_rfl)) (fun v=>by kernel_rfl) (q0 (st:=XS f) fun y=>by rfl) n v y h
def qgp (N:Nat) (o_19:List qa) (o_19_2:List (Vector UInt8 16)) (o_19_4:Nat) (o_19_5:List (Vector UInt8 16×qa×Nat)) (s71_19:Nat) (s72_19:Int) (o_19_3:List qa) (s73_19:Int):Option Va:=qkc N N (o_19,o_19_2,o_19_4,o_19_5,s71_19,s72_19) (o_19_3,s73_19)
def qjU (N:Nat):qA:=smL qke [(.sl 19 qf),(.sl 16 (.ba 16)),(.sl 19 qf),.nat,(YV (.ba 16) qf),.nat,(.i .i64),(.i .i64)] Va (fun x=>qgp N x.1 x.2.1 x.2.2.2.1 x.2.2.2.2.1 x.2.2.2.2.2.1 x.2.2.2.2.2.2.1 x.2.2.1 x.2.2.2.2.2.2.2.1) cs1 fun x=>XS (x.1,x.2.1,x.2.2.2.1,x.2.2.2.2.1,x.2.2.2.2.2.1,x.2.2.2.2.2.2.1)
theorem qvJ (N:Nat):jq Tryz.prog qch 22 (qM qh3 19) (qjU N):=zA fun x z h=>qwO N (x.1,x.2.1,x.2.2.2.1,x.2.2.2.2.1,x.2.2.2.2.2.1,x.2.2.2.2.2.2.1) N (x.2.2.1,x.2.2.2.2.2.2.2.1) z h
def qFe (z:qb×Int):TV×THp:=(.tup [.tv qh (z.1:qb),xi z.2],[])
def qfx (N:Nat) (a0:qb) (a1:qb):Tree (qb×Int):=
 .bind (Wm N a0) fun r1=>
 .cond (!r1) (
 .chk (0=0) <|
 .ret (qb.mk [],1)) <|
 .bind (Wm N a1) fun r2=>
 .cond (!r2) (
 .chk (0=0) <|
 .ret (qb.mk [],1)) <|
 .bind (WD N [qb.R a0,qb.R a1]) fun r3=>
 .bind (zO [(([]:List qa).length,0),(([]:List (Vector UInt8 16)).length,0)] (qjf N [] r3 ((r3.length:Nat):Int) [] 0 [] 0)) fun z4=>
 .cond (decide (((10:Int)) < ((z4.1.length:Nat):Int))) (
 .chk (0=0) <|
 .ret (qb.mk [],4)) <|
 .bind (zO [(z4.1.length,z4.1.length)] (Wb N z4.1)) fun r5=>
 .bind (zO [(([]:List qa).length,0),(([]:List qa).length,0)] (qgp N [] r5 z4.2.1 z4.2.2.1 z4.1.length ((z4.1.length:Nat):Int) [] 0)) fun z6=>
 .chk (z6.1.length=z6.1.length) <|
 .ret (qb.mk z6.1,0)
def X8 (N:Nat) (a0:qb) (a1:qb):Option (qb×Int):=(qfx N a0 a1).run some
def qFE (N:Nat):List (Nat×qA):=[(6,qmp N),(19,qjU N)]
def qlA (N:Nat):Ent:=smF ⟨22,[],[.x qh,.x qh],[],[]⟩ [qh,qh] (qb×Int) (fun x=>X8 N x.1 x.2.1) cs1 fun _=>qFe
theorem qpV (N:Nat):zg Tryz.prog (qlA N):=
 zf (H:=qch) (L:=qL (qFE N)) (ts:=[qh,qh]) (T:=fun x=>qfx N x.1 x.2.1) 0 qNQ (qgO N) (qo (by kernel_rfl) ⟨qxS N,qvJ N,trivial⟩) (rg0 (by kernel_rfl)) fun x=>by kernel_rfl
noncomputable def JB:Code:=Tryz.f23.body.getD .skip
theorem qOa:FnF Tryz.prog 23 Tryz.f23 JB:=⟨qj,by kernel_rfl,by kernel_rfl,by kernel_rfl⟩
def zG:TH:={ live:=[(0,[2,3]),(1,[2,3,5]),(2,[2,3,5,6]),(3,[2,3,5,6,17]),(4,[2,3,5,6]),(5,[2,3,5,6,7]),(6,[2,3,5,6,7,28]),(7,[2,3,5,6,7]),(8,[2,3,5,6,7]),(9,[3,5,8]),(10,[3,5,8,49]),(11,[3,5,8]),(12,[3,5,8,9]),(13,[3,5,8,9,60]),(14,[3,5,8,9]),(15,[3,5,8,9]),(16,[5,10]),(17,[5,10,11]),(18,[5,10,11,80]),(19,[5,10,11]),(20,[5,10,11]),(21,[5,10,11,12]),(22,[5,10,11,12,93]),(23,[5,10,11,12]),(24,[5,10,11,12,115]),(25,[4]),(26,[4])],dec:=[105],nil:=[(1,[⟨.sl 5,55,(.sl 1 .s)⟩]),(16,[⟨.sl 10,105,(.sl 32 (.ba 32))⟩])] }
def vD (N:Nat):List Ent:=[qfc N]
theorem jO (N:Nat):qT Tryz.prog (vD N):=⟨qgk N,trivial⟩
abbrev Jg:=qb×qb×Int
abbrev vz:=List (List UInt8)×Int×Bool
def QL (f:Jg) (y:vz):Ex×TSt:=(.exit 2,⟨0,116,[],[(2,.p 20 [] 0),(3,.p 30 [] 0),(5,.v 55 y.1.length),(6,xi f.2.2),(7,xi y.2.1),(28,xb y.2.2)],[(20,.cell false (.tv qh f.1)),(30,.cell false (.tv qh f.2.1)),(55,.vec false 1 (.sl 1 .s) (y.1:List (List UInt8)))],false,[]⟩)
def qjK (N:Nat):List (Nat×qA):=[]
abbrev QH:=List (List UInt8)×Int
def qbI:SP:=⟨0,116,[],[(2,.k (.p 20 [] 0)),(3,.k (.p 30 [] 0)),(5,.vs 55),(6,.x (.i .i64)),(7,.x (.i .i64))],[(20,.cell false (.x qh)),(30,.cell false (.x qh)),(55,.vec false 1)],false,[]⟩
def qjv (f:Jg) (v:QH):TSt:=zC qbI [dv (.sl 1 .s) v.1,dv qh f.1,dv qh f.2.1,dv (.i .i64) f.2.2,dv (.i .i64) v.2]
def QJ (N:Nat) (o_6_2:qb) (o_6_3:qb) (s6_6:Int) (v:QH):Tree (QH⊕vz):=
 .bind (zk (qb.R o_6_2) s6_6) fun e1=>
 .cond (decide (v.2 < (((qa.F e1).length:Nat):Int))) (
 .bind (zk (qb.R o_6_2) s6_6) fun e2=>
 .bind (zk (qa.F e2) v.2) fun e3=>
 .chk (jx v.1.length v.1.length ((v.1++[qe.V (qc.C e3)]).length) 16) <|
 .chk (qt (v.2 + 1)) <|
 .ret (.inl (v.1++[qe.V (qc.C e3)],v.2 + 1))) <|
 .ret (.inr (v.1,v.2,decide (v.2 < (((qa.F e1).length:Nat):Int))))
def qbO (N n:Nat) (f:Jg) (v:QH):Option vz:=qY (QJ N f.1 f.2.1 f.2.2) some n v
theorem qjt (N:Nat) (f:Jg) (n:Nat) (v:QH) (y:vz) (h:qbO N n f v=some y):LG Tryz.prog zG 23 (qM (qM JB 3) 6) (qjv f v) (QL f y):=
 zo qj (E:=vD N) (L:=qL (qjK N)) (st:=QL f) (g:=some) (R:=QL f) (jO N) (qo (by kernel_rfl) trivial) (rg0 (by kernel_rfl)) (fun v=>by kernel_rfl) (q0 (st:=QL f) fun y=>by rfl) n v y h
def J_ (N:Nat) (o_6_2:qb) (o_6_3:qb) (s6_6:Int) (o_6:List (List UInt8)) (s7_6:Int):Option vz:=qbO N N (o_6_2,o_6_3,s6_6) (o_6,s7_6)
def qbR (N:Nat):qA:=smL qbI [(.sl 1 .s),qh,qh,(.i .i64),(.i .i64)] vz (fun x=>J_ N x.2.1 x.2.2.1 x.2.2.2.1 x.1 x.2.2.2.2.1) cs1 fun x=>QL (x.2.1,x.2.2.1,x.2.2.2.1)
theorem qiI (N:Nat):jq Tryz.prog zG 23 (qM (qM JB 3) 6) (qbR N):=zA fun x z h=>qjt N (x.2.1,x.2.2.1,x.2.2.2.1) N (x.1,x.2.2.2.2.1) z h
abbrev Jb:=qb×qb
abbrev vA:=List (List UInt8)×Int×Bool
def QG (f:Jb) (y:vA):Ex×TSt:=(.exit 0,⟨0,116,[],[(2,.p 20 [] 0),(3,.p 30 [] 0),(5,.v 55 y.1.length),(6,xi y.2.1),(17,xb y.2.2)],[(20,.cell false (.tv qh f.1)),(30,.cell false (.tv qh f.2)),(55,.vec false 1 (.sl 1 .s) (y.1:List (List UInt8)))],false,[]⟩)
def qjw (N:Nat):List (Nat×qA):=[(6,qbR N)]
abbrev QK:=List (List UInt8)×Int
def qbD:SP:=⟨0,116,[],[(2,.k (.p 20 [] 0)),(3,.k (.p 30 [] 0)),(5,.vs 55),(6,.x (.i .i64))],[(20,.cell false (.x qh)),(30,.cell false (.x qh)),(55,.vec false 1)],false,[]⟩
def qjA (f:Jb) (v:QK):TSt:=zC qbD [dv (.sl 1 .s) v.1,dv qh f.1,dv qh f.2,dv (.i .i64) v.2]
def Ji (N:Nat) (o_3_2:qb) (o_3_3:qb) (v:QK):Tree (QK⊕vA):=
 .cond (decide (v.2 < (((qb.R o_3_2).length:Nat):Int))) (
 .bind (zO [(v.1.length,v.1.length)] (J_ N o_3_2 o_3_3 v.2 v.1 0)) fun z1=>
 .chk (qt (v.2 + 1)) <|
 .ret (.inl (z1.1,v.2 + 1))) <|
 .ret (.inr (v.1,v.2,decide (v.2 < (((qb.R o_3_2).length:Nat):Int))))
def qbQ (N n:Nat) (f:Jb) (v:QK):Option vA:=qY (Ji N f.1 f.2) some n v
theorem qjC (N:Nat) (f:Jb) (n:Nat) (v:QK) (y:vA) (h:qbQ N n f v=some y):LG Tryz.prog zG 23 (qM JB 3) (qjA f v) (QG f y):=
 zo qj (E:=vD N) (L:=qL (qjw N)) (st:=QG f) (g:=some) (R:=QG f) (jO N) (qo (by kernel_rfl) ⟨qiI N,trivial⟩) (rg0 (by kernel_rfl)) (fun v=>by kernel_rfl) (q0 (st:=QG f) fun y=>by rfl) n v y h
def WS (N:Nat) (o_3_2:qb) (o_3_3:qb) (o_3:List (List UInt8)) (s6_3:Int):Option vA:=qbQ N N (o_3_2,o_3_3) (o_3,s6_3)
def qbH (N:Nat):qA:=smL qbD [(.sl 1 .s),qh,qh,(.i .i64)] vA (fun x=>WS N x.2.1 x.2.2.1 x.1 x.2.2.2.1) cs1 fun x=>QG (x.2.1,x.2.2.1)
theorem qij (N:Nat):jq Tryz.prog zG 23 (qM JB 3) (qbH N):=zA fun x z h=>qjC N (x.2.1,x.2.2.1) N (x.1,x.2.2.2.1) z h
abbrev ZI:=qb×Int
abbrev vb:=List (List UInt8)×Int×Bool
def Qk (f:ZI) (y:vb):Ex×TSt:=(.exit 6,⟨0,116,[],[(3,.p 30 [] 0),(5,.v 55 y.1.length),(8,xi f.2),(9,xi y.2.1),(60,xb y.2.2)],[(30,.cell false (.tv qh f.1)),(55,.vec false 1 (.sl 1 .s) (y.1:List (List UInt8)))],false,[]⟩)
def qiY (N:Nat):List (Nat×qA):=[]
abbrev Qq:=List (List UInt8)×Int
def qag:SP:=⟨0,116,[],[(3,.k (.p 30 [] 0)),(5,.vs 55),(8,.x (.i .i64)),(9,.x (.i .i64))],[(30,.cell false (.x qh)),(55,.vec false 1)],false,[]⟩
def qjm (f:ZI) (v:Qq):TSt:=zC qag [dv (.sl 1 .s) v.1,dv qh f.1,dv (.i .i64) f.2,dv (.i .i64) v.2]
def qh2 (N:Nat) (o_13_2:qb) (s8_13:Int) (v:Qq):Tree (Qq⊕vb):=
 .bind (zk (qb.R o_13_2) s8_13) fun e1=>
 .cond (decide (v.2 < (((qa.F e1).length:Nat):Int))) (
 .bind (zk (qb.R o_13_2) s8_13) fun e2=>
 .bind (zk (qa.F e2) v.2) fun e3=>
 .chk (jx v.1.length v.1.length ((v.1++[qe.V (qc.C e3)]).length) 16) <|
 .chk (qt (v.2 + 1)) <|
 .ret (.inl (v.1++[qe.V (qc.C e3)],v.2 + 1))) <|
 .ret (.inr (v.1,v.2,decide (v.2 < (((qa.F e1).length:Nat):Int))))
def qao (N n:Nat) (f:ZI) (v:Qq):Option vb:=qY (qh2 N f.1 f.2) some n v
theorem qjb (N:Nat) (f:ZI) (n:Nat) (v:Qq) (y:vb) (h:qao N n f v=some y):LG Tryz.prog zG 23 (qM (qM JB 10) 13) (qjm f v) (Qk f y):=
 zo qj (E:=vD N) (L:=qL (qiY N)) (st:=Qk f) (g:=some) (R:=Qk f) (jO N) (qo (by kernel_rfl) trivial) (rg0 (by kernel_rfl)) (fun v=>by kernel_rfl) (q0 (st:=Qk f) fun y=>by rfl) n v y h
def Wh (N:Nat) (o_13_2:qb) (s8_13:Int) (o_13:List (List UInt8)) (s9_13:Int):Option vb:=qao N N (o_13_2,s8_13) (o_13,s9_13)
def qae (N:Nat):qA:=smL qag [(.sl 1 .s),qh,(.i .i64),(.i .i64)] vb (fun x=>Wh N x.2.1 x.2.2.1 x.1 x.2.2.2.1) cs1 fun x=>Qk (x.2.1,x.2.2.1)
theorem qhz (N:Nat):jq Tryz.prog zG 23 (qM (qM JB 10) 13) (qae N):=zA fun x z h=>qjb N (x.2.1,x.2.2.1) N (x.1,x.2.2.2.1) z h
abbrev ZR:=qb
abbrev ve:=List (List UInt8)×Int×Bool
def Qj (f:ZR) (y:ve):Ex×TSt:=(.exit 4,⟨0,116,[],[(3,.p 30 [] 0),(5,.v 55 y.1.length),(8,xi y.2.1),(49,xb y.2.2)],[(30,.cell false (.tv qh f)),(55,.vec false 1 (.sl 1 .s) (y.1:List (List UInt8)))],false,[]⟩)
def qjp (N:Nat):List (Nat×qA):=[(13,qae N)]
abbrev Qi:=List (List UInt8)×Int
def qan:SP:=⟨0,116,[],[(3,.k (.p 30 [] 0)),(5,.vs 55),(8,.x (.i .i64))],[(30,.cell false (.x qh)),(55,.vec false 1)],false,[]⟩
def qis (f:ZR) (v:Qi):TSt:=zC qan [dv (.sl 1 .s) v.1,dv qh f,dv (.i .i64) v.2]
def Qm (N:Nat) (o_10_2:qb) (v:Qi):Tree (Qi⊕ve):=
 .cond (decide (v.2 < (((qb.R o_10_2).length:Nat):Int))) (
 .bind (zO [(v.1.length,v.1.length)] (Wh N o_10_2 v.2 v.1 0)) fun z1=>
 .chk (qt (v.2 + 1)) <|
 .ret (.inl (z1.1,v.2 + 1))) <|
 .ret (.inr (v.1,v.2,decide (v.2 < (((qb.R o_10_2).length:Nat):Int))))
def K_ (N n:Nat) (f:ZR) (v:Qi):Option ve:=qY (Qm N f) some n v
theorem qh8 (N:Nat) (f:ZR) (n:Nat) (v:Qi) (y:ve) (h:K_ N n f v=some y):LG Tryz.prog zG 23 (qM JB 10) (qis f v) (Qj f y):=
 zo qj (E:=vD N) (L:=qL (qjp N)) (st:=Qj f) (g:=some) (R:=Qj f) (jO N) (qo (by kernel_rfl) ⟨qhz N,trivial⟩) (rg0 (by kernel_rfl)) (fun v=>by kernel_rfl) (q0 (st:=Qj f) fun y=>by rfl) n v y h
def JK (N:Nat) (o_10_2:qb) (o_10:List (List UInt8)) (s8_10:Int):Option ve:=K_ N N o_10_2 (o_10,s8_10)
def qac (N:Nat):qA:=smL qan [(.sl 1 .s),qh,(.i .i64)] ve (fun x=>JK N x.2.1 x.1 x.2.2.1) cs1 fun x=>Qj x.2.1
theorem qhG (N:Nat):jq Tryz.prog zG 23 (qM JB 10) (qac N):=zA fun x z h=>qh8 N x.2.1 N (x.1,x.2.2.1) z h
abbrev ZJ:=List (List UInt8)×List (Vector UInt8 32)×Int
abbrev vd:=Unit⊕(Int×Bool)
def Qr (f:ZJ):vd→Ex×TSt
 | .inl y=>(.ret,⟨0,116,[],[(4,.bc true)],[],false,[]⟩)
 | .inr y=>(.exit 10,⟨0,116,[],[(5,.v 55 f.1.length),(10,.v 105 f.2.1.length),(11,xi f.2.2),(12,xi y.1),(93,xb y.2)],[(55,.vec false 1 (.sl 1 .s) f.1),(105,.vec false 32 (.sl 32 (.ba 32)) f.2.1)],false,[]⟩)
def qia (N:Nat):List (Nat×qA):=[]
abbrev Qh:=Int
def qar:SP:=⟨0,116,[],[(5,.vs 55),(10,.vs 105),(11,.x (.i .i64)),(12,.x (.i .i64))],[(55,.vec false 1),(105,.vec false 32)],false,[]⟩
def qii (f:ZJ) (v:Qh):TSt:=zC qar [dv (.sl 1 .s) f.1,dv (.sl 32 (.ba 32)) f.2.1,dv (.i .i64) f.2.2,dv (.i .i64) v]
def ZU (N:Nat) (o_22:List (List UInt8)) (o_22_2:List (Vector UInt8 32)) (s11_22:Int) (v:Qh):Tree (Qh⊕vd):=
 .cond (decide (v < s11_22)) (
 .chk (0≤s11_22∧s11_22 < ((o_22.length:Nat):Int)) <|
 .bind (Zd o_22 o_22.length s11_22.toNat) fun e1=>
 .chk (0≤v∧v < ((o_22.length:Nat):Int)) <|
 .bind (Zd o_22 o_22.length v.toNat) fun e2=>
 .cond (!decide (e1=e2)) (
 .chk (0≤s11_22∧s11_22 < ((o_22_2.length:Nat):Int)) <|
 .bind (Zd o_22_2 o_22_2.length s11_22.toNat) fun e3=>
 .chk (0≤v∧v < ((o_22_2.length:Nat):Int)) <|
 .bind (Zd o_22_2 o_22_2.length v.toNat) fun e4=>
 .cond (eqE (.ba 32) e3 e4) (
 .ret (.inr (.inl ()))) <|
 .chk (qt (v + 1)) <|
 .ret (.inl (v + 1))) <|
 .chk (qt (v + 1)) <|
 .ret (.inl (v + 1))) <|
 .ret (.inr (.inr ((v,decide (v < s11_22)))))
def qaQ (N n:Nat) (f:ZJ) (v:Qh):Option vd:=qY (ZU N f.1 f.2.1 f.2.2) some n v
theorem qi3 (N:Nat) (f:ZJ) (n:Nat) (v:Qh) (y:vd) (h:qaQ N n f v=some y):LG Tryz.prog zG 23 (qM (qM JB 18) 22) (qii f v) (Qr f y):=
 zo qj (E:=vD N) (L:=qL (qia N)) (st:=Qr f) (g:=some) (R:=Qr f) (jO N) (qo (by kernel_rfl) trivial) (rg0 (by kernel_rfl)) (fun v=>by kernel_rfl) (q0 (st:=Qr f) fun y=>by rcases y with _ | _<;>rfl) n v y h
def Wj (N:Nat) (o_22:List (List UInt8)) (o_22_2:List (Vector UInt8 32)) (s11_22:Int) (s12_22:Int):Option vd:=qaQ N N (o_22,o_22_2,s11_22) s12_22
def qah (N:Nat):qA:=smL qar [(.sl 1 .s),(.sl 32 (.ba 32)),(.i .i64),(.i .i64)] vd (fun x=>Wj N x.1 x.2.1 x.2.2.1 x.2.2.2.1) (csS cs1) fun x=>Qr (x.1,x.2.1,x.2.2.1)
theorem qhC (N:Nat):jq Tryz.prog zG 23 (qM (qM JB 18) 22) (qah N):=zA fun x z h=>qi3 N (x.1,x.2.1,x.2.2.1) N x.2.2.2.1 z h
abbrev ZL:=List (List UInt8)
abbrev j_:=Unit⊕(List (Vector UInt8 32)×Int×Bool)
def Ql (f:ZL):j_→Ex×TSt
 | .inl y=>(.ret,⟨0,116,[],[(4,.bc true)],[],false,[]⟩)
 | .inr y=>(.exit 8,⟨0,116,[],[(5,.v 55 f.length),(10,.v 105 y.1.length),(11,xi y.2.1),(80,xb y.2.2)],[(55,.vec false 1 (.sl 1 .s) f),(105,.vec false 32 (.sl 32 (.ba 32)) (y.1:List (Vector UInt8 32)))],false,[]⟩)
def qid (N:Nat):List (Nat×qA):=[(22,qah N)]
abbrev Qn:=List (Vector UInt8 32)×Int
def qab:SP:=⟨0,116,[],[(5,.vs 55),(10,.vs 105),(11,.x (.i .i64))],[(55,.vec false 1),(105,.vec false 32)],false,[]⟩
def qh6 (f:ZL) (v:Qn):TSt:=zC qab [dv (.sl 1 .s) f,dv (.sl 32 (.ba 32)) v.1,dv (.i .i64) v.2]
def ZK (N:Nat) (o_18:List (List UInt8)) (v:Qn):Tree (Qn⊕j_):=
 .cond (decide (v.2 < ((o_18.length:Nat):Int))) (
 .chk (0≤v.2∧v.2 < ((o_18.length:Nat):Int)) <|
 .bind (Zd o_18 o_18.length v.2.toNat) fun e1=>
 .bind (qaq N e1) fun r2=>
 .chk (jx v.1.length v.1.length ((v.1++[r2]).length) 32) <|
 .bind (zO [(o_18.length,o_18.length),((v.1++[r2]).length,(v.1++[r2]).length)] (Wj N o_18 (v.1++[r2]) v.2 0)) fun z3=>
 .sum z3 (fun z4=>
 .ret (.inr (.inl ()))) fun z4=>
 .chk (qt (v.2 + 1)) <|
 .ret (.inl (v.1++[r2],v.2 + 1))) <|
 .ret (.inr (.inr ((v.1,v.2,decide (v.2 < ((o_18.length:Nat):Int))))))
def qaD (N n:Nat) (f:ZL) (v:Qn):Option j_:=qY (ZK N f) some n v
theorem qh1 (N:Nat) (f:ZL) (n:Nat) (v:Qn) (y:j_) (h:qaD N n f v=some y):LG Tryz.prog zG 23 (qM JB 18) (qh6 f v) (Ql f y):=
 zo qj (E:=vD N) (L:=qL (qid N)) (st:=Ql f) (g:=some) (R:=Ql f) (jO N) (qo (by kernel_rfl) ⟨qhC N,trivial⟩) (rg0 (by kernel_rfl)) (fun v=>by kernel_rfl) (q0 (st:=Ql f) fun y=>by rcases y with _ | _<;>rfl) n v y h
def Wo (N:Nat) (o_18:List (List UInt8)) (o_18_2:List (Vector UInt8 32)) (s11_18:Int):Option j_:=qaD N N o_18 (o_18_2,s11_18)
def qaE (N:Nat):qA:=smL qab [(.sl 1 .s),(.sl 32 (.ba 32)),(.i .i64)] j_ (fun x=>Wo N x.1 x.2.1 x.2.2.1) (csS cs1) fun x=>Ql x.1
theorem qhO (N:Nat):jq Tryz.prog zG 23 (qM JB 18) (qaE N):=zA fun x z h=>qh1 N x.1 N (x.2.1,x.2.2.1) z h
def qnY (z:Bool):TV×THp:=(xb z,[])
def YR (N:Nat) (a0:qb) (a1:qb):Tree (Bool):=
 .bind (zO [(([]:List (List UInt8)).length,0)] (WS N a0 a1 [] 0)) fun z1=>
 .bind (zO [(z1.1.length,z1.1.length)] (JK N a1 z1.1 0)) fun z2=>
 .bind (zO [(z2.1.length,z2.1.length),(([]:List (Vector UInt8 32)).length,0)] (Wo N z2.1 [] 0)) fun z3=>
 .sum z3 (fun z4=>
 .ret true) fun z4=>
 .ret false
def X6 (N:Nat) (a0:qb) (a1:qb):Option (Bool):=(YR N a0 a1).run some
def qoP (N:Nat):List (Nat×qA):=[(3,qbH N),(10,qac N),(18,qaE N)]
def qer (N:Nat):Ent:=smF ⟨23,[],[.x qh,.x qh],[],[]⟩ [qh,qh] (Bool) (fun x=>X6 N x.1 x.2.1) cs1 fun _=>qnY
theorem qmd (N:Nat):zg Tryz.prog (qer N):=
 zf (H:=zG) (L:=qL (qoP N)) (ts:=[qh,qh]) (T:=fun x=>YR N x.1 x.2.1) 0 qOa (jO N) (qo (by kernel_rfl) ⟨qij N,qhG N,qhO N,trivial⟩) (rg0 (by kernel_rfl)) fun x=>by kernel_rfl
noncomputable def qKg:Code:=Tryz.f132.body.getD .skip
theorem qKo:FnF Tryz.prog 132 Tryz.f132 qKg:=⟨qj,by kernel_rfl,by kernel_rfl,by kernel_rfl⟩
def qtr:TH:={ live:=[(0,[0]),(1,[0,4]),(2,[2]),(3,[2])] }
def qsI (N:Nat):List Ent:=[]
theorem qpu (N:Nat):qT Tryz.prog (qsI N):=trivial
def qtB (z:Int):TV×THp:=(xi z,[])
def qbZ (a0:Int):Tree (Int):=
 .cond (decide (a0 < ((24:Int)))) (
 .ret 0) <|
 .chk ((8:Int)≠0) <|
 .chk (qt (a0.tdiv 8)) <|
 .ret (a0.tdiv 8)
def K5 (a0:Int):Option (Int):=(qbZ a0).run some
def qtw:List (Nat×qA):=[]
def qha:Ent:=smF ⟨132,[],[.x (.i .i64)],[],[]⟩ [(.i .i64)] (Int) (fun x=>K5 x.1) cs1 fun _=>qtB
theorem qqz:zg Tryz.prog (qha):=
 zf (H:=qtr) (L:=qL (qtw)) (ts:=[(.i .i64)]) (T:=fun x=>qbZ x.1) 0 qKo (qpu 0) (qo (by kernel_rfl) trivial) (rg0 (by kernel_rfl)) fun x=>by kernel_rfl
noncomputable def qLQ:Code:=Tryz.f103.body.getD .skip
theorem qK9:FnF Tryz.prog 103 Tryz.f103 qLQ:=⟨qj,by kernel_rfl,by kernel_rfl,by kernel_rfl⟩
def qum:TH:={ live:=[(0,[2,3]),(1,[4])],dec:=[8,13,18,23,32,37] }
def qvs (N:Nat):List Ent:=[qha,V0,JW N]
theorem qrU (N:Nat):qT Tryz.prog (qvs N):=⟨qqz,Xy,Vt N,trivial⟩
def qvk (z:Bool):TV×THp:=(xb z,[])
def qcP (N:Nat) (a0:qn) (a1:qd):Tree (Bool):=
 .cond (decide (((0:Int))≤(qn.No a0))) (
 .cond (decide ((qn.No a0) < ((8:Int)))) (
 .cond (decide (((0:Int))≤(qn.Len a0))) (
 .cond (decide ((qn.Len a0)≤((200:Int)))) (
 .bind (K5 (qn.Len a0)) fun r1=>
 .cond (decide ((((qn.B a0).length:Nat):Int)=r1)) (
 .bind (VZ (qn.S a0)) fun r2=>
 .cond r2 (
 .bind (j9 N a1 (qn.S a0)) fun r3=>
 .ret r3) <|
 .ret false) <|
 .ret false) <|
 .ret false) <|
 .ret false) <|
 .ret false) <|
 .ret false
def qbc (N:Nat) (a0:qn) (a1:qd):Option (Bool):=(qcP N a0 a1).run some
def quy (N:Nat):List (Nat×qA):=[]
def qh0 (N:Nat):Ent:=smF ⟨103,[],[.x q6,.x qi],[],[]⟩ [q6,qi] (Bool) (fun x=>qbc N x.1 x.2.1) cs1 fun _=>qvk
theorem qs0 (N:Nat):zg Tryz.prog (qh0 N):=
 zf (H:=qum) (L:=qL (quy N)) (ts:=[q6,qi]) (T:=fun x=>qcP N x.1 x.2.1) 0 qK9 (qrU N) (qo (by kernel_rfl) trivial) (rg0 (by kernel_rfl)) fun x=>by kernel_rfl
noncomputable def qvH:Code:=Tryz.f78.body.getD .skip
theorem qNb:FnF Tryz.prog 78 Tryz.f78 qvH:=⟨qj,by kernel_rfl,by kernel_rfl,by kernel_rfl⟩
def qeB:TH:={ live:=[(0,[1]),(1,[1,6,7,8]),(2,[1,6,7,8,9]),(3,[1,3,4,6,7,8]),(4,[1,6,7,8,33]),(5,[2]),(6,[1,6,7,8]),(7,[2])],dec:=[18,21,38,43] }
def qjX (N:Nat):List Ent:=[qh0 N,V0]
theorem qgZ (N:Nat):qT Tryz.prog (qjX N):=⟨qs0 N,Xy,trivial⟩
abbrev X3:=ql×List qn×Int
abbrev Zk:=Unit⊕(Int×Bool)
def J2 (f:X3):Zk→Ex×TSt
 | .inl y=>(.ret,⟨0,50,[],[(2,.bc false)],[],false,[]⟩)
 | .inr y=>(.exit 0,⟨0,50,[],[(1,.p 10 [] 0),(6,.tv (.sl 37 q6) f.2.1),(7,xi f.2.2),(8,xi y.1),(9,xb y.2)],[(10,.cell false (.tv qQ f.1))],false,[]⟩)
def qry (N:Nat):List (Nat×qA):=[]
abbrev J0:=Int
def qgi:SP:=⟨0,50,[],[(1,.k (.p 10 [] 0)),(6,.x (.sl 37 q6)),(7,.x (.i .i64)),(8,.x (.i .i64))],[(10,.cell false (.x qQ))],false,[]⟩
def qrC (f:X3) (v:J0):TSt:=zC qgi [dv qQ f.1,dv (.sl 37 q6) f.2.1,dv (.i .i64) f.2.2,dv (.i .i64) v]
def XX (N:Nat) (o_2:ql) (s6_2:List qn) (s7_2:Int) (v:J0):Tree (J0⊕Zk):=
 .cond (decide (v < s7_2)) (
 .bind (zk s6_2 v) fun e1=>
 .bind (qbc N e1 (ql.qB o_2)) fun r2=>
 .cond (!r2) (
 .ret (.inr (.inl ()))) <|
 .cond (decide (((0:Int)) < v)) (
 .chk (qt (v - 1)) <|
 .bind (zk (ql.F o_2) (v - 1)) fun e3=>
 .cond (decide ((qn.No e1)≤(qn.No e3))) (
 .ret (.inr (.inl ()))) <|
 .chk (qt (v + 1)) <|
 .ret (.inl (v + 1))) <|
 .chk (qt (v + 1)) <|
 .ret (.inl (v + 1))) <|
 .ret (.inr (.inr ((v,decide (v < s7_2)))))
def qgl (N n:Nat) (f:X3) (v:J0):Option Zk:=qY (XX N f.1 f.2.1 f.2.2) some n v
theorem qrw (N:Nat) (f:X3) (n:Nat) (v:J0) (y:Zk) (h:qgl N n f v=some y):LG Tryz.prog qeB 78 (qM qvH 2) (qrC f v) (J2 f y):=
 zo qj (E:=qjX N) (L:=qL (qry N)) (st:=J2 f) (g:=some) (R:=J2 f) (qgZ N) (qo (by kernel_rfl) trivial) (rg0 (by kernel_rfl)) (fun v=>by kernel_rfl) (q0 (st:=J2 f) fun y=>by rcases y with _ | _<;>rfl) n v y h
def qcR (N:Nat) (o_2:ql) (s6_2:List qn) (s7_2:Int) (s8_2:Int):Option Zk:=qgl N N (o_2,s6_2,s7_2) s8_2
def qfP (N:Nat):qA:=smL qgi [qQ,(.sl 37 q6),(.i .i64),(.i .i64)] Zk (fun x=>qcR N x.1 x.2.1 x.2.2.1 x.2.2.2.1) (csS cs1) fun x=>J2 (x.1,x.2.1,x.2.2.1)
theorem qpC (N:Nat):jq Tryz.prog qeB 78 (qM qvH 2) (qfP N):=zA fun x z h=>qrw N (x.1,x.2.1,x.2.2.1) N x.2.2.2.1 z h
def qwb (z:Bool):TV×THp:=(xb z,[])
def qew (N:Nat) (a0:ql):Tree (Bool):=
 .bind (qcR N a0 (ql.F a0) (((ql.F a0).length:Nat):Int) 0) fun z1=>
 .sum z1 (fun z2=>
 .ret false) fun z2=>
 .bind (VZ (ql.qB a0)) fun r3=>
 .cond r3 (
 .cond (decide (((0:Int)) < (((ql.F a0).length:Nat):Int))) (
 .ret true) <|
 .ret (!(eqE qi (ql.qB a0) (qd.mk 0 0)))) <|
 .ret false
def qcM (N:Nat) (a0:ql):Option (Bool):=(qew N a0).run some
def qxm (N:Nat):List (Nat×qA):=[(2,qfP N)]
def qkw (N:Nat):Ent:=smF ⟨78,[],[.x qQ],[],[]⟩ [qQ] (Bool) (fun x=>qcM N x.1) cs1 fun _=>qwb
theorem qvg (N:Nat):zg Tryz.prog (qkw N):=
 zf (H:=qeB) (L:=qL (qxm N)) (ts:=[qQ]) (T:=fun x=>qew N x.1) 0 qNb (qgZ N) (qo (by kernel_rfl) ⟨qpC N,trivial⟩) (rg0 (by kernel_rfl)) fun x=>by kernel_rfl
noncomputable def qvF:Code:=Tryz.f40.body.getD .skip
theorem qMx:FnF Tryz.prog 40 Tryz.f40 qvF:=⟨qj,by kernel_rfl,by kernel_rfl,by kernel_rfl⟩
def qff:TH:={ live:=[(0,[1]),(1,[1,6,7,8]),(2,[1,6,7,8,9]),(3,[1,3,4,6,7,8]),(4,[1,6,7,8,32]),(5,[2]),(6,[1,6,7,8]),(7,[2])],dec:=[16,19] }
def qmM (N:Nat):List Ent:=[qkw N,qlo]
theorem qjj (N:Nat):qT Tryz.prog (qmM N):=⟨qvg N,qrm,trivial⟩
abbrev WK:=qp×List ql×Int
abbrev Z0:=Unit⊕(Int×Bool)
def VC (f:WK):Z0→Ex×TSt
 | .inl y=>(.ret,⟨0,38,[],[(2,.bc false)],[],false,[]⟩)
 | .inr y=>(.exit 0,⟨0,38,[],[(1,.p 10 [] 0),(6,.tv (.sl 19 qQ) f.2.1),(7,xi f.2.2),(8,xi y.1),(9,xb y.2)],[(10,.cell false (.tv qH f.1))],false,[]⟩)
def qs2 (N:Nat):List (Nat×qA):=[]
abbrev VG:=Int
def qg6:SP:=⟨0,38,[],[(1,.k (.p 10 [] 0)),(6,.x (.sl 19 qQ)),(7,.x (.i .i64)),(8,.x (.i .i64))],[(10,.cell false (.x qH))],false,[]⟩
def qsW (f:WK) (v:VG):TSt:=zC qg6 [dv qH f.1,dv (.sl 19 qQ) f.2.1,dv (.i .i64) f.2.2,dv (.i .i64) v]
def WI (N:Nat) (o_2:qp) (s6_2:List ql) (s7_2:Int) (v:VG):Tree (VG⊕Z0):=
 .cond (decide (v < s7_2)) (
 .bind (zk s6_2 v) fun e1=>
 .bind (qcM N e1) fun r2=>
 .cond (!r2) (
 .ret (.inr (.inl ()))) <|
 .cond (decide (((0:Int)) < v)) (
 .chk (qt (v - 1)) <|
 .bind (zk (qp.L o_2) (v - 1)) fun e3=>
 .bind (qfQ (ql.ID e3) (ql.ID e1)) fun r4=>
 .cond (!r4) (
 .ret (.inr (.inl ()))) <|
 .chk (qt (v + 1)) <|
 .ret (.inl (v + 1))) <|
 .chk (qt (v + 1)) <|
 .ret (.inl (v + 1))) <|
 .ret (.inr (.inr ((v,decide (v < s7_2)))))
def qg4 (N n:Nat) (f:WK) (v:VG):Option Z0:=qY (WI N f.1 f.2.1 f.2.2) some n v
theorem qtD (N:Nat) (f:WK) (n:Nat) (v:VG) (y:Z0) (h:qg4 N n f v=some y):LG Tryz.prog qff 40 (qM qvF 2) (qsW f v) (VC f y):=
 zo qj (E:=qmM N) (L:=qL (qs2 N)) (st:=VC f) (g:=some) (R:=VC f) (qjj N) (qo (by kernel_rfl) trivial) (rg0 (by kernel_rfl)) (fun v=>by kernel_rfl) (q0 (st:=VC f) fun y=>by rcases y with _ | _<;>rfl) n v y h
def qdT (N:Nat) (o_2:qp) (s6_2:List ql) (s7_2:Int) (s8_2:Int):Option Z0:=qg4 N N (o_2,s6_2,s7_2) s8_2
def qg2 (N:Nat):qA:=smL qg6 [qH,(.sl 19 qQ),(.i .i64),(.i .i64)] Z0 (fun x=>qdT N x.1 x.2.1 x.2.2.1 x.2.2.2.1) (csS cs1) fun x=>VC (x.1,x.2.1,x.2.2.1)
theorem qqV (N:Nat):jq Tryz.prog qff 40 (qM qvF 2) (qg2 N):=zA fun x z h=>qtD N (x.1,x.2.1,x.2.2.1) N x.2.2.2.1 z h
def qzx (z:Bool):TV×THp:=(xb z,[])
def qeZ (N:Nat) (a0:qp):Tree (Bool):=
 .bind (qdT N a0 (qp.L a0) (((qp.L a0).length:Nat):Int) 0) fun z1=>
 .sum z1 (fun z2=>
 .ret false) fun z2=>
 .ret (decide ((((qp.L a0).length:Nat):Int)≤((10:Int))))
def qdD (N:Nat) (a0:qp):Option (Bool):=(qeZ N a0).run some
def qzy (N:Nat):List (Nat×qA):=[(2,qg2 N)]
def ql7 (N:Nat):Ent:=smF ⟨40,[],[.x qH],[],[]⟩ [qH] (Bool) (fun x=>qdD N x.1) cs1 fun _=>qzx
theorem qx7 (N:Nat):zg Tryz.prog (ql7 N):=
 zf (H:=qff) (L:=qL (qzy N)) (ts:=[qH]) (T:=fun x=>qeZ N x.1) 0 qMx (qjj N) (qo (by kernel_rfl) ⟨qqV N,trivial⟩) (rg0 (by kernel_rfl)) fun x=>by kernel_rfl
noncomputable def qN3:Code:=Tryz.f41.body.getD .skip
theorem qLW:FnF Tryz.prog 41 Tryz.f41 qN3:=⟨qj,by kernel_rfl,by kernel_rfl,by kernel_rfl⟩
def qCj:TH:={ live:=[(0,[2,3]),(1,[4])],esc:=true }
def qCu (N:Nat):List Ent:=[]
theorem qzs (N:Nat):qT Tryz.prog (qCu N):=trivial
def qDa (a0:qb) (a1:qp) (z:Unit):TV×THp:=(.fn (.func 79) [] [.p 100020 [] 0,.p 100030 [] 0],[(100020,.cell false (.tv qh a0)),(100030,.cell false (.tv qH a1))])
def qp3 (a0:qb) (a1:qp):Tree (Unit):=
 .ret ()
def qnx (a0:qb) (a1:qp):Option (Unit):=(qp3 a0 a1).run some
def qEP:List (Nat×qA):=[]
def qq2:Ent:=smF ⟨41,[],[.x qh,.x qH],[],[]⟩ [qh,qH] (Unit) (fun x=>qnx x.1 x.2.1) cs1 fun x=>qDa x.1 x.2.1
theorem qBO:zg Tryz.prog (qq2):=
 zf (H:=qCj) (L:=qL (qEP)) (ts:=[qh,qH]) (T:=fun x=>qp3 x.1 x.2.1) 0 qLW (qzs 0) (qo (by kernel_rfl) trivial) (rg0 (by kernel_rfl)) fun x=>by kernel_rfl
noncomputable def qOp:Code:=Tryz.f62.body.getD .skip
theorem qNt:FnF Tryz.prog 62 Tryz.f62 qOp:=⟨qj,by kernel_rfl,by kernel_rfl,by kernel_rfl⟩
def qtx:TH:={ live:=[(0,[1,2]),(1,[3])] }
def qtz (N:Nat):List Ent:=[]
theorem qpG (N:Nat):qT Tryz.prog (qtz N):=trivial
def qsH (a0:Vector UInt8 16) (a1:ql) (z:Unit):TV×THp:=(xb (eqE (.ba 16) (ql.ID a1) a0),[(30,.cell false (.tv (.ba 16) a0))])
def qbV (a0:Vector UInt8 16) (a1:ql):Tree (Unit):=
 .ret ()
def qdB (a0:Vector UInt8 16) (a1:ql):Option (Unit):=(qbV a0 a1).run some
def qtA:List (Nat×qA):=[]
def qg0:Ent:=smF ⟨62,[],[.x qQ],[.k (.p 30 [] 0)],[(30,.cell false (.x (.ba 16)))]⟩ [(.ba 16),qQ] (Unit) (fun x=>qdB x.1 x.2.1) cs1 fun x=>qsH x.1 x.2.1
theorem qqK:zg Tryz.prog (qg0):=
 zf (H:=qtx) (L:=qL (qtA)) (ts:=[(.ba 16),qQ]) (T:=fun x=>qbV x.1 x.2.1) 0 qNt (qpG 0) (qo (by kernel_rfl) trivial) (rg0 (by kernel_rfl)) fun x=>by kernel_rfl
noncomputable def qvB:Code:=Tryz.f61.body.getD .skip
theorem qMJ:FnF Tryz.prog 61 Tryz.f61 qvB:=⟨qj,by kernel_rfl,by kernel_rfl,by kernel_rfl⟩
def XF:TH:={ live:=[(0,[0,1]),(1,[0,1,7,8]),(2,[0,1,7,8,9]),(3,[0,1,5,7,8]),(4,[0,1,5,7,8,16]),(5,[4]),(6,[0,1,7,8]),(7,[4])] }
def qbP (N:Nat):List Ent:=[qg0]
theorem K4 (N:Nat):qT Tryz.prog (qbP N):=⟨qqK,trivial⟩
abbrev Q_:=Vector UInt8 16×List ql×Int
abbrev jM:=Int⊕(Int×Bool)
def vK (f:Q_):jM→Ex×TSt
 | .inl y=>(.ret,⟨1,19,[30],[(4,xi y)],[(30,.cell false (.tv (.ba 16) f.1))],false,[]⟩)
 | .inr y=>(.exit 0,⟨1,19,[30],[(0,.tv (.sl 19 qQ) f.2.1),(1,.fn (.func 62) [] [.p 30 [] 0]),(7,xi f.2.2),(8,xi y.1),(9,xb y.2)],[(30,.cell false (.tv (.ba 16) f.1))],false,[]⟩)
def qgQ (N:Nat):List (Nat×qA):=[]
abbrev vH:=Int
def Kd:SP:=⟨1,19,[30],[(0,.x (.sl 19 qQ)),(1,.fn 62 [] [.k (.p 30 [] 0)]),(7,.x (.i .i64)),(8,.x (.i .i64))],[(30,.cell false (.x (.ba 16)))],false,[]⟩
def qgN (f:Q_) (v:vH):TSt:=zC Kd [dv (.ba 16) f.1,dv (.sl 19 qQ) f.2.1,dv (.i .i64) f.2.2,dv (.i .i64) v]
def vI (N:Nat) (o_2:Vector UInt8 16) (s0_2:List ql) (s7_2:Int) (v:vH):Tree (vH⊕jM):=
 .cond (decide (v < s7_2)) (
 .bind (zk s0_2 v) fun e1=>
 .bind (qdB o_2 e1) fun r2=>
 .cond (eqE (.ba 16) (ql.ID e1) o_2) (
 .ret (.inr (.inl v))) <|
 .chk (qt (v + 1)) <|
 .ret (.inl (v + 1))) <|
 .ret (.inr (.inr ((v,decide (v < s7_2)))))
def Kg (N n:Nat) (f:Q_) (v:vH):Option jM:=qY (vI N f.1 f.2.1 f.2.2) some n v
theorem qgx (N:Nat) (f:Q_) (n:Nat) (v:vH) (y:jM) (h:Kg N n f v=some y):LG Tryz.prog XF 61 (qM qvB 2) (qgN f v) (vK f y):=
 zo qj (E:=qbP N) (L:=qL (qgQ N)) (st:=vK f) (g:=some) (R:=vK f) (K4 N) (qo (by kernel_rfl) trivial) (rg0 (by kernel_rfl)) (fun v=>by kernel_rfl) (q0 (st:=vK f) fun y=>by rcases y with _ | _<;>rfl) n v y h
def Xf (N:Nat) (o_2:Vector UInt8 16) (s0_2:List ql) (s7_2:Int) (s8_2:Int):Option jM:=Kg N N (o_2,s0_2,s7_2) s8_2
def Kh (N:Nat):qA:=smL Kd [(.ba 16),(.sl 19 qQ),(.i .i64),(.i .i64)] jM (fun x=>Xf N x.1 x.2.1 x.2.2.1 x.2.2.2.1) (csS cs1) fun x=>vK (x.1,x.2.1,x.2.2.1)
theorem qfX (N:Nat):jq Tryz.prog XF 61 (qM qvB 2) (Kh N):=zA fun x z h=>qgx N (x.1,x.2.1,x.2.2.1) N x.2.2.2.1 z h
def qjy (a0:Vector UInt8 16) (z:Int):TV×THp:=(xi z,[(30,.cell false (.tv (.ba 16) a0))])
def XD (N:Nat) (a0:Vector UInt8 16) (a1:List ql):Tree (Int):=
 .bind (Xf N a0 a1 ((a1.length:Nat):Int) 0) fun z1=>
 .sum z1 (fun z2=>
 .ret z2) fun z2=>
 .ret (-1)
def Vi (N:Nat) (a0:Vector UInt8 16) (a1:List ql):Option (Int):=(XD N a0 a1).run some
def qjG (N:Nat):List (Nat×qA):=[(2,Kh N)]
def qbM (N:Nat):Ent:=smF ⟨61,[],[.x (.sl 19 qQ),.fn 62 [] [.k (.p 30 [] 0)]],[],[(30,.cell false (.x (.ba 16)))]⟩ [(.ba 16),(.sl 19 qQ)] (Int) (fun x=>Vi N x.1 x.2.1) cs1 fun x=>qjy x.1
theorem qi6 (N:Nat):zg Tryz.prog (qbM N):=
 zf (H:=XF) (L:=qL (qjG N)) (ts:=[(.ba 16),(.sl 19 qQ)]) (T:=fun x=>XD N x.1 x.2.1) 0 qMJ (K4 N) (qo (by kernel_rfl) ⟨qfX N,trivial⟩) (rg0 (by kernel_rfl)) fun x=>by kernel_rfl
noncomputable def qL5:Code:=Tryz.f96.body.getD .skip
theorem qux:FnF Tryz.prog 96 Tryz.f96 qL5:=⟨qj,by kernel_rfl,by kernel_rfl,by kernel_rfl⟩
def qni:TH:={ live:=[(0,[0]),(1,[0,4]),(2,[2]),(3,[2])],vecs:=[5],esc:=true }
def qoC (N:Nat):List Ent:=[]
theorem qkZ (N:Nat):qT Tryz.prog (qoC N):=trivial
def qeA (a0:List qn) (z:Unit):TV×THp:=(.v 100050 (((([]:List qn))++a0).length),[(100050,.vec false 37 (.sl 37 q6) ((([]:List qn))++a0:List qn))])
def YI (a0:List qn):Tree (Unit):=
 .chk (List.isEmpty a0=false) <|
 .chk (jx ((([]:List qn)).length) 0 (((([]:List qn))++a0).length) 88) <|
 .ret ()
def qaf (a0:List qn):Option (Unit):=(YI a0).run some
def qoe:List (Nat×qA):=[]
theorem qlf:YM Tryz.prog ⟨96,[],[.x (.sl 37 q6)],[],[]⟩ [(.sl 37 q6)] (fun x=>YI x.1) (fun x=>qeA x.1):=
 Xm (H:=qni) (L:=qL (qoe)) 0 qux (qkZ 0) (qo (by kernel_rfl) trivial) (rg0 (by kernel_rfl)) fun x=>by kernel_rfl
def qli:TH:={ live:=[(0,[0]),(1,[0,4]),(2,[2]),(3,[2])],vecs:=[5],esc:=true }
def qlp (N:Nat):List Ent:=[]
theorem qic (N:Nat):qT Tryz.prog (qlp N):=trivial
def qkS (z:Unit):TV×THp:=(.v 100050 0,[(100050,.vec false 37 (.sl 37 q6) ([]:List qn))])
def qce:Tree (Unit):=
 .chk (0=0) <|
 .ret ()
def qnn:Option (Unit):=(qce).run some
def qly:List (Nat×qA):=[]
theorem qjg:YM Tryz.prog ⟨96,[],[.k (.es 0)],[],[]⟩ [] (fun x=>qce) (fun _=>qkS):=
 Xm (H:=qli) (L:=qL (qly)) 0 qux (qic 0) (qo (by kernel_rfl) trivial) (rg0 (by kernel_rfl)) fun x=>by kernel_rfl
def qlM:TH:={ live:=[(0,[0]),(1,[0,4]),(2,[2]),(3,[2])],vecs:=[5],esc:=true }
def qk_ (N:Nat):List Ent:=[]
theorem qjd (N:Nat):qT Tryz.prog (qk_ N):=trivial
def qlN (z:Unit):TV×THp:=(.nils,[])
def qb9:Tree (Unit):=
 .ret ()
def qnL:Option (Unit):=(qb9).run some
def qls:List (Nat×qA):=[]
theorem qi1:YM Tryz.prog ⟨96,[],[.k (.es 1)],[],[]⟩ [] (fun x=>qb9) (fun _=>qlN):=
 Xm (H:=qlM) (L:=qL (qls)) 0 qux (qjd 0) (qo (by kernel_rfl) trivial) (rg0 (by kernel_rfl)) fun x=>by kernel_rfl
def qck (z:Unit):Unit:=()
def qlz (z:Unit):Unit:=()
def QW (a0:List qn):Option (Unit):=
 bif a0.isEmpty then
  (qnn).bind fun z0=>(qnL).bind fun z1=>chk (qck z0=qlz z1) (some (qck z0))
 else qaf a0
def qdg:Ent:=smF ⟨96,[],[.x (.sl 37 q6)],[],[]⟩ [(.sl 37 q6)] (Unit) (fun x=>QW x.1) cs1 fun x=>qeA x.1
theorem qll:zg Tryz.prog (qdg):=qfY fun x z h l=>by
 obtain ⟨a0,_⟩:=x
 replace h:QW a0=some z:=h
 unfold QW at h
 rcases qfN h with ⟨e,h2⟩ | ⟨_,h2⟩<;>clear h
 ·have e:=List.isEmpty_iff.1 e
  subst e
  obtain ⟨z0,c0,h2⟩:=bind_some h2
  obtain ⟨z1,c1,h2⟩:=bind_some h2
  obtain ⟨hE,h2⟩:=qe5 h2
  obtain rfl:=Option.some.inj h2
  refine qf3 (t:=(.sl 37 q6)) (x:=[]) rfl (TV.ers []) (TV.ers []) (by exact qjg (()) _ c0 l) ?_
  rw [hE]
  exact (qG1 (n:=100050) (sz:=37) (x:=qE (.sl 37 q6) ([]:List qn)) rfl (by kernel_rfl) (by kernel_rfl) (qi1 (()) _ c1 l))
 ·exact qlf (a0,()) z h2 l
noncomputable def qN5:Code:=Tryz.f97.body.getD .skip
theorem quV:FnF Tryz.prog 97 Tryz.f97 qN5:=⟨qj,by kernel_rfl,by kernel_rfl,by kernel_rfl⟩
def qqm:TH:={ live:=[(0,[0]),(1,[0,4]),(2,[2]),(3,[2])],vecs:=[5] }
def qrY (N:Nat):List Ent:=[]
theorem qnh (N:Nat):qT Tryz.prog (qrY N):=trivial
def qgb (a0:List ze) (z:Unit):TV×THp:=(.tv (.sl 33 vS) ((([]:List ze))++a0:List ze),[])
def qaF (a0:List ze):Tree (Unit):=
 .chk (List.isEmpty a0=false) <|
 .chk (jx ((([]:List ze)).length) 0 (((([]:List ze))++a0).length) 36) <|
 .chk (((([]:List ze))++a0).length=((([]:List ze))++a0).length) <|
 .ret ()
def qcW (a0:List ze):Option (Unit):=(qaF a0).run some
def qqS:List (Nat×qA):=[]
theorem qoi:YM Tryz.prog ⟨97,[],[.x (.sl 33 vS)],[],[]⟩ [(.sl 33 vS)] (fun x=>qaF x.1) (fun x=>qgb x.1):=
 Xm (H:=qqm) (L:=qL (qqS)) 0 quV (qnh 0) (qo (by kernel_rfl) trivial) (rg0 (by kernel_rfl)) fun x=>by kernel_rfl
def qnd:TH:={ live:=[(0,[0]),(1,[0,4]),(2,[2]),(3,[2])],vecs:=[5] }
def qn2 (N:Nat):List Ent:=[]
theorem qlw (N:Nat):qT Tryz.prog (qn2 N):=trivial
def qoG (z:Unit):TV×THp:=(.tv (.sl 33 vS) ([]:List ze),[])
def qdU:Tree (Unit):=
 .chk (0=0) <|
 .chk (0=0) <|
 .ret ()
def qqJ:Option (Unit):=(qdU).run some
def qnt:List (Nat×qA):=[]
theorem qlc:YM Tryz.prog ⟨97,[],[.k (.es 0)],[],[]⟩ [] (fun x=>qdU) (fun _=>qoG):=
 Xm (H:=qnd) (L:=qL (qnt)) 0 quV (qlw 0) (qo (by kernel_rfl) trivial) (rg0 (by kernel_rfl)) fun x=>by kernel_rfl
def qn0:TH:={ live:=[(0,[0]),(1,[0,4]),(2,[2]),(3,[2])],vecs:=[5] }
def qnD (N:Nat):List Ent:=[]
theorem qkP (N:Nat):qT Tryz.prog (qnD N):=trivial
def qok (z:Unit):TV×THp:=(.tv (.sl 33 vS) ([]:List ze),[])
def qei:Tree (Unit):=
 .ret ()
def qqM:Option (Unit):=(qei).run some
def qnw:List (Nat×qA):=[]
theorem qln:YM Tryz.prog ⟨97,[],[.k (.es 1)],[],[]⟩ [] (fun x=>qei) (fun _=>qok):=
 Xm (H:=qn0) (L:=qL (qnw)) 0 quV (qkP 0) (qo (by kernel_rfl) trivial) (rg0 (by kernel_rfl)) fun x=>by kernel_rfl
def qdY (z:Unit):Unit:=()
def qny (z:Unit):Unit:=()
def Z1 (a0:List ze):Option (Unit):=
 bif a0.isEmpty then
  (qqJ).bind fun z0=>(qqM).bind fun z1=>chk (qdY z0=qny z1) (some (qdY z0))
 else qcW a0
def qeR:Ent:=smF ⟨97,[],[.x (.sl 33 vS)],[],[]⟩ [(.sl 33 vS)] (Unit) (fun x=>Z1 x.1) cs1 fun x=>qgb x.1
theorem qoq:zg Tryz.prog (qeR):=qfY fun x z h l=>by
 obtain ⟨a0,_⟩:=x
 replace h:Z1 a0=some z:=h
 unfold Z1 at h
 rcases qfN h with ⟨e,h2⟩ | ⟨_,h2⟩<;>clear h
 ·have e:=List.isEmpty_iff.1 e
  subst e
  obtain ⟨z0,c0,h2⟩:=bind_some h2
  obtain ⟨z1,c1,h2⟩:=bind_some h2
  obtain ⟨hE,h2⟩:=qe5 h2
  obtain rfl:=Option.some.inj h2
  refine qf3 (t:=(.sl 33 vS)) (x:=[]) rfl (TV.ers []) (TV.ers []) (by exact qlc (()) _ c0 l) ?_
  rw [hE]
  exact (by exact qln (()) _ c1 l)
 ·exact qoi (a0,()) z h2 l
noncomputable def qvR:Code:=Tryz.f63.body.getD .skip
theorem qNP:FnF Tryz.prog 63 Tryz.f63 qvR:=⟨qj,by kernel_rfl,by kernel_rfl,by kernel_rfl⟩
def qe6:TH:={ live:=[(0,[1,2]),(1,[1,2]),(2,[1,2,10,11]),(3,[1,2,10,11,12]),(4,[1,2,3,10,11]),(5,[1,2,10,11]),(6,[1,2,10,11]),(7,[2])],fresh:=[6],nil:=[(0,[⟨.ob 20 [2],25,(.sl 37 q6)⟩])] }
def qmQ (N:Nat):List Ent:=[qdg,qeR]
theorem qih (N:Nat):qT Tryz.prog (qmQ N):=⟨qll,qoq,trivial⟩
abbrev WL:=List qn×Vector UInt8 16×qd×Nat×Vector UInt8 16×qd×Int
abbrev ZZ:=List qn×Int×Bool
def VF (f:WL) (y:ZZ):Ex×TSt:=(.exit 0,⟨0,28,[],[(1,.p 10 [] 0),(2,.p 20 [] 0),(10,xi f.2.2.2.2.2.2),(11,xi y.2.1),(12,xb y.2.2)],[(10,.cell false (.ag [.tv (.ba 16) f.2.1,.tv qi f.2.2.1,.v 100050 f.2.2.2.1])),(20,.cell false (.ag [.tv (.ba 16) f.2.2.2.2.1,.tv qi f.2.2.2.2.2.1,.v 25 f.1.length])),(25,.vec false 37 (.sl 37 q6) f.1),(100050,.vec false 37 (.sl 37 q6) (y.1:List qn))],false,[]⟩)
def qsS (N:Nat):List (Nat×qA):=[]
abbrev VJ:=List qn×Int
def qhe:SP:=⟨0,28,[],[(1,.k (.p 10 [] 0)),(2,.k (.p 20 [] 0)),(10,.x (.i .i64)),(11,.x (.i .i64))],[(10,.cell false (.ag [.x (.ba 16),.x qi,.v 100050])),(20,.cell false (.ag [.x (.ba 16),.x qi,.vs 25])),(25,.vec false 37),(100050,.vec false 37)],false,[]⟩
def qsM (f:WL) (v:VJ):TSt:=zC qhe [dv (.sl 37 q6) f.1,dv (.sl 37 q6) v.1,dv (.ba 16) f.2.1,dv qi f.2.2.1,dv .nat f.2.2.2.1,dv (.ba 16) f.2.2.2.2.1,dv qi f.2.2.2.2.2.1,dv (.i .i64) f.2.2.2.2.2.2,dv (.i .i64) v.2]
def WJ (N:Nat) (o_3:List qn) (o_3_3:Vector UInt8 16) (o_3_4:qd) (o_3_5:Nat) (o_3_6:Vector UInt8 16) (o_3_7:qd) (s10_3:Int) (v:VJ):Tree (VJ⊕ZZ):=
 .cond (decide (v.2 < s10_3)) (
 .chk (0≤v.2∧v.2 < ((o_3_5:Nat):Int)) <|
 .bind (Zd v.1 o_3_5 v.2.toNat) fun e1=>
 .bind (Z1 (qn.B e1)) fun r2=>
 .chk (0≤v.2∧v.2 < ((o_3_5:Nat):Int)) <|
 .bind (Zd v.1 o_3_5 v.2.toNat) fun e3=>
 .chk (qt (v.2 + 1)) <|
 .ret (.inl (v.1.set v.2.toNat (qn.mk (qn.No e3) (qn.S e3) (qn.Len e3) (qn.D e3) ((([]:List ze))++(qn.B e1))),v.2 + 1))) <|
 .ret (.inr (v.1,v.2,decide (v.2 < s10_3)))
def qgY (N n:Nat) (f:WL) (v:VJ):Option ZZ:=qY (WJ N f.1 f.2.1 f.2.2.1 f.2.2.2.1 f.2.2.2.2.1 f.2.2.2.2.2.1 f.2.2.2.2.2.2) some n v
theorem qsZ (N:Nat) (f:WL) (n:Nat) (v:VJ) (y:ZZ) (h:qgY N n f v=some y):LG Tryz.prog qe6 63 (qM qvR 3) (qsM f v) (VF f y):=
 zo qj (E:=qmQ N) (L:=qL (qsS N)) (st:=VF f) (g:=some) (R:=VF f) (qih N) (qo (by kernel_rfl) trivial) (rg0 (by kernel_rfl)) (fun v=>by kernel_rfl) (q0 (st:=VF f) fun y=>by rfl) n v y h
def qeq (N:Nat) (o_3:List qn) (o_3_3:Vector UInt8 16) (o_3_4:qd) (o_3_5:Nat) (o_3_6:Vector UInt8 16) (o_3_7:qd) (s10_3:Int) (o_3_2:List qn) (s11_3:Int):Option ZZ:=qgY N N (o_3,o_3_3,o_3_4,o_3_5,o_3_6,o_3_7,s10_3) (o_3_2,s11_3)
def qhn (N:Nat):qA:=smL qhe [(.sl 37 q6),(.sl 37 q6),(.ba 16),qi,.nat,(.ba 16),qi,(.i .i64),(.i .i64)] ZZ (fun x=>qeq N x.1 x.2.2.1 x.2.2.2.1 x.2.2.2.2.1 x.2.2.2.2.2.1 x.2.2.2.2.2.2.1 x.2.2.2.2.2.2.2.1 x.2.1 x.2.2.2.2.2.2.2.2.1) cs1 fun x=>VF (x.1,x.2.2.1,x.2.2.2.1,x.2.2.2.2.1,x.2.2.2.2.2.1,x.2.2.2.2.2.2.1,x.2.2.2.2.2.2.2.1)
theorem qr8 (N:Nat):jq Tryz.prog qe6 63 (qM qvR 3) (qhn N):=zA fun x z h=>qsZ N (x.1,x.2.2.1,x.2.2.2.1,x.2.2.2.2.1,x.2.2.2.2.2.1,x.2.2.2.2.2.2.1,x.2.2.2.2.2.2.2.1) N (x.2.1,x.2.2.2.2.2.2.2.2.1) z h
def qzv (z:ql):TV×THp:=(.tv qQ z,[])
def qfb (N:Nat) (a0:ql):Tree (ql):=
 .bind (QW (ql.F a0)) fun r1=>
 .bind (zO [(([]:List qn).length,0)] (qeq N [] (ql.ID a0) (ql.qB a0) (((([]:List qn))++(ql.F a0)).length) ((Vector.replicate 16 0)) (qd.mk 0 0) ((((([]:List qn))++(ql.F a0)).length:Nat):Int) ((([]:List qn))++(ql.F a0)) 0)) fun z2=>
 .chk (z2.1.length=((([]:List qn))++(ql.F a0)).length) <|
 .ret (ql.mk (ql.ID a0) (ql.qB a0) z2.1)
def qdA (N:Nat) (a0:ql):Option (ql):=(qfb N a0).run some
def qyj (N:Nat):List (Nat×qA):=[(3,qhn N)]
def qms (N:Nat):Ent:=smF ⟨63,[],[.x qQ],[],[]⟩ [qQ] (ql) (fun x=>qdA N x.1) cs1 fun _=>qzv
theorem qxz (N:Nat):zg Tryz.prog (qms N):=
 zf (H:=qe6) (L:=qL (qyj N)) (ts:=[qQ]) (T:=fun x=>qfb N x.1) 0 qNP (qih N) (qo (by kernel_rfl) ⟨qr8 N,trivial⟩) (rg0 (by kernel_rfl)) fun x=>by kernel_rfl
noncomputable def qN4:Code:=Tryz.f26.body.getD .skip
theorem qOm:FnF Tryz.prog 26 Tryz.f26 qN4:=⟨qj,by kernel_rfl,by kernel_rfl,by kernel_rfl⟩
def qwG:TH:={ live:=[(0,[2,3,4]),(1,[2,4,6]),(2,[2,4,6,12]),(3,[4,5]),(4,[4,5])],nil:=[(0,[⟨.ob 40 [2],45,(.sl 37 q6)⟩]),(3,[⟨.ob 40 [2],45,(.sl 37 q6)⟩])] }
def qwC (N:Nat):List Ent:=[qbM N,qms N]
theorem qsQ (N:Nat):qT Tryz.prog (qwC N):=⟨qi6 N,qxz N,trivial⟩
def qwE (z:ql×Bool):TV×THp:=(.tup [.tv qQ (z.1:ql),xb z.2],[])
def qep (N:Nat) (a0:qp) (a1:Vector UInt8 16):Tree (ql×Bool):=
 .bind (Vi N a1 (qp.L a0)) fun r1=>
 .cond (decide (r1 < ((0:Int)))) (
 .chk (0=0) <|
 .ret (ql.mk ((Vector.replicate 16 0)) (qd.mk 0 0) [],false)) <|
 .bind (zk (qp.L a0) r1) fun e2=>
 .bind (qdA N e2) fun r3=>
 .ret (r3,true)
def Ke (N:Nat) (a0:qp) (a1:Vector UInt8 16):Option (ql×Bool):=(qep N a0 a1).run some
def qv0 (N:Nat):List (Nat×qA):=[]
def qkn (N:Nat):Ent:=smF ⟨26,[],[.x qH,.x (.ba 16)],[],[]⟩ [qH,(.ba 16)] (ql×Bool) (fun x=>Ke N x.1 x.2.1) cs1 fun _=>qwE
theorem quU (N:Nat):zg Tryz.prog (qkn N):=
 zf (H:=qwG) (L:=qL (qv0 N)) (ts:=[qH,(.ba 16)]) (T:=fun x=>qep N x.1 x.2.1) 0 qOm (qsQ N) (qo (by kernel_rfl) trivial) (rg0 (by kernel_rfl)) fun x=>by kernel_rfl
noncomputable def qM8:Code:=Tryz.f82.body.getD .skip
theorem qMf:FnF Tryz.prog 82 Tryz.f82 qM8:=⟨qj,by kernel_rfl,by kernel_rfl,by kernel_rfl⟩
def qsL:TH:={ live:=[(0,[1,2]),(1,[3])] }
def qs8 (N:Nat):List Ent:=[]
theorem qpL (N:Nat):qT Tryz.prog (qs8 N):=trivial
def qto (a0:Int) (a1:qn) (z:Unit):TV×THp:=(xb (decide ((qn.No a1)=a0)),[(50,.cell false (xi a0))])
def qhj (a0:Int) (a1:qn):Tree (Unit):=
 .ret ()
def qd6 (a0:Int) (a1:qn):Option (Unit):=(qhj a0 a1).run some
def qtg:List (Nat×qA):=[]
def qg3:Ent:=smF ⟨82,[],[.x q6],[.k (.p 50 [] 0)],[(50,.cell false (.x (.i .i64)))]⟩ [(.i .i64),q6] (Unit) (fun x=>qd6 x.1 x.2.1) cs1 fun x=>qto x.1 x.2.1
theorem qrS:zg Tryz.prog (qg3):=
 zf (H:=qsL) (L:=qL (qtg)) (ts:=[(.i .i64),q6]) (T:=fun x=>qhj x.1 x.2.1) 0 qMf (qpL 0) (qo (by kernel_rfl) trivial) (rg0 (by kernel_rfl)) fun x=>by kernel_rfl
noncomputable def qu9:Code:=Tryz.f64.body.getD .skip
theorem qL7:FnF Tryz.prog 64 Tryz.f64 qu9:=⟨qj,by kernel_rfl,by kernel_rfl,by kernel_rfl⟩
def VV:TH:={ live:=[(0,[0,1]),(1,[0,1,7,8]),(2,[0,1,7,8,9]),(3,[0,1,5,7,8]),(4,[0,1,5,7,8,16]),(5,[4]),(6,[0,1,7,8]),(7,[4])] }
def K3 (N:Nat):List Ent:=[qg3]
theorem Yx (N:Nat):qT Tryz.prog (K3 N):=⟨qrS,trivial⟩
abbrev Qz:=Int×List qn×Int
abbrev jA:=Int⊕(Int×Bool)
def vg (f:Qz):jA→Ex×TSt
 | .inl y=>(.ret,⟨1,19,[50],[(4,xi y)],[(50,.cell false (xi f.1))],false,[]⟩)
 | .inr y=>(.exit 0,⟨1,19,[50],[(0,.tv (.sl 37 q6) f.2.1),(1,.fn (.func 82) [] [.p 50 [] 0]),(7,xi f.2.2),(8,xi y.1),(9,xb y.2)],[(50,.cell false (xi f.1))],false,[]⟩)
def qfr (N:Nat):List (Nat×qA):=[]
abbrev vp:=Int
def Yc:SP:=⟨1,19,[50],[(0,.x (.sl 37 q6)),(1,.fn 82 [] [.k (.p 50 [] 0)]),(7,.x (.i .i64)),(8,.x (.i .i64))],[(50,.cell false (.x (.i .i64)))],false,[]⟩
def qfl (f:Qz) (v:vp):TSt:=zC Yc [dv (.i .i64) f.1,dv (.sl 37 q6) f.2.1,dv (.i .i64) f.2.2,dv (.i .i64) v]
def vi (N:Nat) (o_2:Int) (s0_2:List qn) (s7_2:Int) (v:vp):Tree (vp⊕jA):=
 .cond (decide (v < s7_2)) (
 .bind (zk s0_2 v) fun e1=>
 .bind (qd6 o_2 e1) fun r2=>
 .cond (decide ((qn.No e1)=o_2)) (
 .ret (.inr (.inl v))) <|
 .chk (qt (v + 1)) <|
 .ret (.inl (v + 1))) <|
 .ret (.inr (.inr ((v,decide (v < s7_2)))))
def W9 (N n:Nat) (f:Qz) (v:vp):Option jA:=qY (vi N f.1 f.2.1 f.2.2) some n v
theorem qe2 (N:Nat) (f:Qz) (n:Nat) (v:vp) (y:jA) (h:W9 N n f v=some y):LG Tryz.prog VV 64 (qM qu9 2) (qfl f v) (vg f y):=
 zo qj (E:=K3 N) (L:=qL (qfr N)) (st:=vg f) (g:=some) (R:=vg f) (Yx N) (qo (by kernel_rfl) trivial) (rg0 (by kernel_rfl)) (fun v=>by kernel_rfl) (q0 (st:=vg f) fun y=>by rcases y with _ | _<;>rfl) n v y h
def Vy (N:Nat) (o_2:Int) (s0_2:List qn) (s7_2:Int) (s8_2:Int):Option jA:=W9 N N (o_2,s0_2,s7_2) s8_2
def Yt (N:Nat):qA:=smL Yc [(.i .i64),(.sl 37 q6),(.i .i64),(.i .i64)] jA (fun x=>Vy N x.1 x.2.1 x.2.2.1 x.2.2.2.1) (csS cs1) fun x=>vg (x.1,x.2.1,x.2.2.1)
theorem qeK (N:Nat):jq Tryz.prog VV 64 (qM qu9 2) (Yt N):=zA fun x z h=>qe2 N (x.1,x.2.1,x.2.2.1) N x.2.2.2.1 z h
def qhP (a0:Int) (z:Int):TV×THp:=(xi z,[(50,.cell false (xi a0))])
def VN (N:Nat) (a0:Int) (a1:List qn):Tree (Int):=
 .bind (Vy N a0 a1 ((a1.length:Nat):Int) 0) fun z1=>
 .sum z1 (fun z2=>
 .ret z2) fun z2=>
 .ret (-1)
def Jf (N:Nat) (a0:Int) (a1:List qn):Option (Int):=(VN N a0 a1).run some
def qhH (N:Nat):List (Nat×qA):=[(2,Yt N)]
def KW (N:Nat):Ent:=smF ⟨64,[],[.x (.sl 37 q6),.fn 82 [] [.k (.p 50 [] 0)]],[],[(50,.cell false (.x (.i .i64)))]⟩ [(.i .i64),(.sl 37 q6)] (Int) (fun x=>Jf N x.1 x.2.1) cs1 fun x=>qhP x.1
theorem qgB (N:Nat):zg Tryz.prog (KW N):=
 zf (H:=VV) (L:=qL (qhH N)) (ts:=[(.i .i64),(.sl 37 q6)]) (T:=fun x=>VN N x.1 x.2.1) 0 qL7 (Yx N) (qo (by kernel_rfl) ⟨qeK N,trivial⟩) (rg0 (by kernel_rfl)) fun x=>by kernel_rfl
noncomputable def qLZ:Code:=Tryz.f49.body.getD .skip
theorem qOk:FnF Tryz.prog 49 Tryz.f49 qLZ:=⟨qj,by kernel_rfl,by kernel_rfl,by kernel_rfl⟩
def qxd:TH:={ live:=[(0,[3,4,5]),(1,[3,4,7]),(2,[3,4,7,12]),(3,[6]),(4,[3,4,7,19]),(5,[6]),(6,[3,4,7,22]),(7,[6]),(8,[6])] }
def qwq (N:Nat):List Ent:=[KW N,JW N,qfc N,qn6]
theorem qtt (N:Nat):qT Tryz.prog (qwq N):=⟨qgB N,Vt N,qgk N,qtX,trivial⟩
def qws (z:Bool):TV×THp:=(xb z,[])
def qeC (N:Nat) (a0:qe) (a1:ql) (a2:Int):Tree (Bool):=
 .bind (Jf N a2 (ql.F a1)) fun r1=>
 .bind (j9 N (ql.qB a1) (qe.S a0)) fun r2=>
 .cond (!r2) (
 .ret false) <|
 .cond (decide (r1 < ((0:Int)))) (
 .ret true) <|
 .bind (zk (ql.F a1) r1) fun e3=>
 .cond (!(eqE qi (qn.S e3) (qe.S a0))) (
 .bind (zk (ql.F a1) r1) fun e4=>
 .bind (j9 N (qn.S e4) (qe.S a0)) fun r5=>
 .ret r5) <|
 .bind (zk (ql.F a1) r1) fun e4=>
 .bind (qaq N (qe.V a0)) fun r5=>
 .bind (qfo (qn.D e4) r5) fun r6=>
 .ret r6
def Ky (N:Nat) (a0:qe) (a1:ql) (a2:Int):Option (Bool):=(qeC N a0 a1 a2).run some
def qwr (N:Nat):List (Nat×qA):=[]
def qj9 (N:Nat):Ent:=smF ⟨49,[],[.x qv,.x qQ,.x (.i .i64)],[],[]⟩ [qv,qQ,(.i .i64)] (Bool) (fun x=>Ky N x.1 x.2.1 x.2.2.1) cs1 fun _=>qws
theorem qvz (N:Nat):zg Tryz.prog (qj9 N):=
 zf (H:=qxd) (L:=qL (qwr N)) (ts:=[qv,qQ,(.i .i64)]) (T:=fun x=>qeC N x.1 x.2.1 x.2.2.1) 0 qOk (qtt N) (qo (by kernel_rfl) trivial) (rg0 (by kernel_rfl)) fun x=>by kernel_rfl
noncomputable def qOD:Code:=Tryz.f33.body.getD .skip
theorem qMG:FnF Tryz.prog 33 Tryz.f33 qOD:=⟨qj,by kernel_rfl,by kernel_rfl,by kernel_rfl⟩
def qCr:TH:={ live:=[(0,[1]),(1,[2])],dec:=[7] }
def qDj (N:Nat):List Ent:=[]
theorem qyN (N:Nat):qT Tryz.prog (qDj N):=trivial
def qC3 (z:Bool):TV×THp:=(xb z,[])
def qa5 (a0:qa):Tree (Bool):=
 .cond (eqE qi (qa.qB a0) (qd.mk 0 0)) (
 .ret (decide ((((qa.F a0).length:Nat):Int)=((0:Int))))) <|
 .ret false
def ZW (a0:qa):Option (Bool):=(qa5 a0).run some
def qCo:List (Nat×qA):=[]
def qdV:Ent:=smF ⟨33,[],[.x qf],[],[]⟩ [qf] (Bool) (fun x=>ZW x.1) cs1 fun _=>qC3
theorem qgu:zg Tryz.prog (qdV):=
 zf (H:=qCr) (L:=qL (qCo)) (ts:=[qf]) (T:=fun x=>qa5 x.1) 0 qMG (qyN 0) (qo (by kernel_rfl) trivial) (rg0 (by kernel_rfl)) fun x=>by kernel_rfl
def qmz:TH:={ live:=[(0,[2,3]),(1,[2,3,14]),(2,[4]),(3,[2,3,5]),(4,[5,17]),(5,[5,6]),(6,[5,6,21]),(8,[4])],dec:=[10],fresh:=[17] }
def qlZ (N:Nat):List Ent:=[qdV]
theorem qjI (N:Nat):qT Tryz.prog (qlZ N):=⟨qgu,trivial⟩
def qmX (a0:qb) (a1:qp) (a2:qa):Unit⊕Unit→TV×THp
 | .inl z=>(.bc true,[(50,.cell false (.v 200250 1)),(50050,.loop [18] 27 [(5,.p 50 [] 0),(17,.fn (.func 79) [] [.p 100020 [] 0,.p 100030 [] 0])] 1600005 16 .ready none 50051),(50051,.dfr true),(100020,.cell false (.tv qh a0)),(100030,.cell false (.tv qH a1)),(200250,.vec false 19 (.sl 19 qf) ([a2]:List qa))])
 | .inr z=>(.bc true,[(50,.cell false .nils),(50050,.loop [18] 27 [(5,.p 50 [] 0),(17,.fn (.func 79) [] [.p 100020 [] 0,.p 100030 [] 0])] 1600005 16 .ready none 50051),(50051,.dfr true),(100020,.cell false (.tv qh a0)),(100030,.cell false (.tv qH a1))])
def W1 (a0:qb) (a1:qp) (a2:qa):Tree (Unit⊕Unit):=
 .bind (ZW a2) fun r1=>
 .cond (!r1) (
 .chk (qyw 1 56) <|
 .ret (.inl ())) <|
 .ret (.inr ())
def QZ (a0:qb) (a1:qp) (a2:qa):Option (Unit⊕Unit):=(W1 a0 a1 a2).run some
def qmU:List (Nat×qA):=[]
def qdm:Ent:=smR 50050 [.x qf] [(50,.cell false (.k .nils)),(50050,.loop [18] 27 [(5,.k (.p 50 [] 0)),(17,.fn 79 [] [.k (.p 100020 [] 0),.k (.p 100030 [] 0)])] 1600005 16 .ready none 50051),(50051,.dfr true),(100020,.cell false (.x qh)),(100030,.cell false (.x qH))] [qh,qH,qf] (Unit⊕Unit) (fun x=>QZ x.1 x.2.1 x.2.2.1) (csS cs1) fun x=>qmX x.1 x.2.1 x.2.2.1
theorem qlF:zg Tryz.prog (qdm):=
 qIP (H:=qmz) (L:=qL (qmU)) (ts:=[qh,qH,qf]) (T:=fun x=>W1 x.1 x.2.1 x.2.2.1) (K:=16) (cid:=1600005) 2 qj (qjI 0) (by kernel_rfl) (qo (by kernel_rfl) trivial) (rg0 (by kernel_rfl)) (rg0 (by kernel_rfl)) (fun x=>by kernel_rfl) fun x=>by kernel_rfl
def qjz:TH:={ live:=[(0,[2,3]),(1,[2,3,14]),(2,[4]),(3,[2,3,5]),(4,[5,17]),(5,[5,6]),(6,[5,6,21]),(8,[4])],dec:=[10],fresh:=[17] }
def qjM (N:Nat):List Ent:=[qdV]
theorem qhs (N:Nat):qT Tryz.prog (qjM N):=⟨qgu,trivial⟩
def qjO (a1:qb) (a2:qp) (z:List qa):TV×THp:=(.bc true,[(50,.cell false (.v 200250 z.length)),(50050,.loop [18] 27 [(5,.p 50 [] 0),(17,.fn (.func 79) [] [.p 100020 [] 0,.p 100030 [] 0])] 1600005 16 .ready none 50051),(50051,.dfr true),(100020,.cell false (.tv qh a1)),(100030,.cell false (.tv qH a2)),(200250,.vec false 19 (.sl 19 qf) z)])
def XH (a0:List qa) (a1:qb) (a2:qp) (a3:qa):Tree (List qa):=
 .bind (ZW a3) fun r1=>
 .cond (!r1) (
 .chk (jx a0.length a0.length ((a0++[a3]).length) 56) <|
 .ret (a0++[a3])) <|
 .ret a0
def Zh (a0:List qa) (a1:qb) (a2:qp) (a3:qa):Option (List qa):=(XH a0 a1 a2 a3).run some
def qjN:List (Nat×qA):=[]
def qbL:Ent:=smR 50050 [.x qf] [(50,.cell false (.vs 200250)),(50050,.loop [18] 27 [(5,.k (.p 50 [] 0)),(17,.fn 79 [] [.k (.p 100020 [] 0),.k (.p 100030 [] 0)])] 1600005 16 .ready none 50051),(50051,.dfr true),(100020,.cell false (.x qh)),(100030,.cell false (.x qH)),(200250,.vec false 19)] [(.sl 19 qf),qh,qH,qf] (List qa) (fun x=>Zh x.1 x.2.1 x.2.2.1 x.2.2.2.1) cs1 fun x=>qjO x.2.1 x.2.2.1
theorem qiZ:zg Tryz.prog (qbL):=
 qIP (H:=qjz) (L:=qL (qjN)) (ts:=[(.sl 19 qf),qh,qH,qf]) (T:=fun x=>XH x.1 x.2.1 x.2.2.1 x.2.2.2.1) (K:=16) (cid:=1600005) 3 qj (qhs 0) (by kernel_rfl) (qo (by kernel_rfl) trivial) (rg0 (by kernel_rfl)) (rg0 (by kernel_rfl)) (fun x=>by kernel_rfl) fun x=>by kernel_rfl
noncomputable def qa4:Code:=Tryz.f79.body.getD .skip
theorem qMO:FnF Tryz.prog 79 Tryz.f79 qa4:=⟨qj,by kernel_rfl,by kernel_rfl,by kernel_rfl⟩
def Zp:TH:={ live:=[(0,[0,2,12,13,14]),(1,[0,2,12,13,14,15]),(2,[0,2,5,12,13,14]),(3,[0,2,5,6,12,13,14]),(4,[0,2,5,6,8,12,13,14]),(5,[0,2,5,6,8,12,13,14,32]),(6,[0,2,5,6,8,12,13,14]),(7,[0,2,6,8,12,13,14,37,38,39]),(8,[0,2,6,8,12,13,14,37,38,39,40]),(9,[0,2,6,8,10,12,13,14,37,38,39]),(10,[0,2,6,8,10,12,13,14,37,38,39,48]),(11,[0,2,6,8,12,13,14,37,38,39]),(12,[0,2,6,8,12,13,14,37,38,39]),(13,[0,2,12,13,14,59]),(14,[0,2,12,13,14])],fresh:=[58],nil:=[(4,[⟨.ob 200080 [2],200085,(.sl 4 qq)⟩])] }
def WV (N:Nat):List Ent:=[qkn N,JW N,qj9 N,qdm,qbL]
theorem Xw (N:Nat):qT Tryz.prog (WV N):=⟨quU N,Vt N,qvz N,qlF,qiZ,trivial⟩
abbrev WQ:=qb×qp×ql×Vector UInt8 16×qd×List qa×Int×Int×List qc×Int
abbrev Z9:=List qc×Int×Bool
def VB (f:WQ) (y:Z9):Ex×TSt:=(.exit 2,⟨2,61,[50,50050,50051,100020,100030],[(0,.yl 50050),(2,.p 100030 [] 0),(6,.p 200060 [] 0),(8,.p 200080 [] 0),(12,.tv (.sl 19 qf) f.2.2.2.2.2.1),(13,xi f.2.2.2.2.2.2.1),(14,xi f.2.2.2.2.2.2.2.1),(37,.tv (.sl 4 qq) f.2.2.2.2.2.2.2.2.1),(38,xi f.2.2.2.2.2.2.2.2.2),(39,xi y.2.1),(40,xb y.2.2)],[(50,.cell false .nils),(50050,.loop [18] 27 [(5,.p 50 [] 0),(17,.fn (.func 79) [] [.p 100020 [] 0,.p 100030 [] 0])] 1600005 16 .ready none 50051),(50051,.dfr true),(100020,.cell false (.tv qh f.1)),(100030,.cell false (.tv qH f.2.1)),(200060,.cell false (.tv qQ f.2.2.1)),(200080,.cell false (.ag [.tv (.ba 16) f.2.2.2.1,.tv qi f.2.2.2.2.1,.v 200085 y.1.length])),(200085,.vec false 4 (.sl 4 qq) (y.1:List qc))],false,[]⟩)
def qs5 (N:Nat):List (Nat×qA):=[]
abbrev VL:=List qc×Int
def qgW:SP:=⟨2,61,[50,50050,50051,100020,100030],[(0,.k (.yl 50050)),(2,.k (.p 100030 [] 0)),(6,.k (.p 200060 [] 0)),(8,.k (.p 200080 [] 0)),(12,.x (.sl 19 qf)),(13,.x (.i .i64)),(14,.x (.i .i64)),(37,.x (.sl 4 qq)),(38,.x (.i .i64)),(39,.x (.i .i64))],[(50,.cell false (.k .nils)),(50050,.loop [18] 27 [(5,.k (.p 50 [] 0)),(17,.fn 79 [] [.k (.p 100020 [] 0),.k (.p 100030 [] 0)])] 1600005 16 .ready none 50051),(50051,.dfr true),(100020,.cell false (.x qh)),(100030,.cell false (.x qH)),(200060,.cell false (.x qQ)),(200080,.cell false (.ag [.x (.ba 16),.x qi,.vs 200085])),(200085,.vec false 4)],false,[]⟩
def qs4 (f:WQ) (v:VL):TSt:=zC qgW [dv (.sl 4 qq) v.1,dv qh f.1,dv qH f.2.1,dv qQ f.2.2.1,dv (.ba 16) f.2.2.2.1,dv qi f.2.2.2.2.1,dv (.sl 19 qf) f.2.2.2.2.2.1,dv (.i .i64) f.2.2.2.2.2.2.1,dv (.i .i64) f.2.2.2.2.2.2.2.1,dv (.sl 4 qq) f.2.2.2.2.2.2.2.2.1,dv (.i .i64) f.2.2.2.2.2.2.2.2.2,dv (.i .i64) v.2]
def WC (N:Nat) (o_8_2:qb) (o_8_3:qp) (o_8_4:ql) (o_8_5:Vector UInt8 16) (o_8_6:qd) (s12_8:List qa) (s13_8:Int) (s14_8:Int) (s37_8:List qc) (s38_8:Int) (v:VL):Tree (VL⊕Z9):=
 .cond (decide (v.2 < s38_8)) (
 .bind (zk s37_8 v.2) fun e1=>
 .bind (Ky N (qc.C e1) o_8_4 (qc.No e1)) fun r2=>
 .cond r2 (
 .chk (jx v.1.length v.1.length ((v.1++[e1]).length) 40) <|
 .chk (qt (v.2 + 1)) <|
 .ret (.inl (v.1++[e1],v.2 + 1))) <|
 .chk (qt (v.2 + 1)) <|
 .ret (.inl (v.1,v.2 + 1))) <|
 .ret (.inr (v.1,v.2,decide (v.2 < s38_8)))
def qhc (N n:Nat) (f:WQ) (v:VL):Option Z9:=qY (WC N f.1 f.2.1 f.2.2.1 f.2.2.2.1 f.2.2.2.2.1 f.2.2.2.2.2.1 f.2.2.2.2.2.2.1 f.2.2.2.2.2.2.2.1 f.2.2.2.2.2.2.2.2.1 f.2.2.2.2.2.2.2.2.2) some n v
theorem qta (N:Nat) (f:WQ) (n:Nat) (v:VL) (y:Z9) (h:qhc N n f v=some y):LG Tryz.prog Zp 79 (qM (qM qa4 1) 8) (qs4 f v) (VB f y):=
 zo qj (E:=WV N) (L:=qL (qs5 N)) (st:=VB f) (g:=some) (R:=VB f) (Xw N) (qo (by kernel_rfl) trivial) (rg0 (by kernel_rfl)) (fun v=>by kernel_rfl) (q0 (st:=VB f) fun y=>by rfl) n v y h
def X2 (N:Nat) (o_8_2:qb) (o_8_3:qp) (o_8_4:ql) (o_8_5:Vector UInt8 16) (o_8_6:qd) (s12_8:List qa) (s13_8:Int) (s14_8:Int) (s37_8:List qc) (s38_8:Int) (o_8:List qc) (s39_8:Int):Option Z9:=qhc N N (o_8_2,o_8_3,o_8_4,o_8_5,o_8_6,s12_8,s13_8,s14_8,s37_8,s38_8) (o_8,s39_8)
def qg7 (N:Nat):qA:=smL qgW [(.sl 4 qq),qh,qH,qQ,(.ba 16),qi,(.sl 19 qf),(.i .i64),(.i .i64),(.sl 4 qq),(.i .i64),(.i .i64)] Z9 (fun x=>X2 N x.2.1 x.2.2.1 x.2.2.2.1 x.2.2.2.2.1 x.2.2.2.2.2.1 x.2.2.2.2.2.2.1 x.2.2.2.2.2.2.2.1 x.2.2.2.2.2.2.2.2.1 x.2.2.2.2.2.2.2.2.2.1 x.2.2.2.2.2.2.2.2.2.2.1 x.1 x.2.2.2.2.2.2.2.2.2.2.2.1) cs1 fun x=>VB (x.2.1,x.2.2.1,x.2.2.2.1,x.2.2.2.2.1,x.2.2.2.2.2.1,x.2.2.2.2.2.2.1,x.2.2.2.2.2.2.2.1,x.2.2.2.2.2.2.2.2.1,x.2.2.2.2.2.2.2.2.2.1,x.2.2.2.2.2.2.2.2.2.2.1)
theorem qgn (N:Nat):jq Tryz.prog Zp 79 (qM (qM qa4 1) 8) (qg7 N):=zA fun x z h=>qta N (x.2.1,x.2.2.1,x.2.2.2.1,x.2.2.2.2.1,x.2.2.2.2.2.1,x.2.2.2.2.2.2.1,x.2.2.2.2.2.2.2.1,x.2.2.2.2.2.2.2.2.1,x.2.2.2.2.2.2.2.2.2.1,x.2.2.2.2.2.2.2.2.2.2.1) N (x.1,x.2.2.2.2.2.2.2.2.2.2.2.1) z h
abbrev XB:=List qa×qb×qp×ql×Vector UInt8 16×qd×List qa×Int×Int×List qc×Int
abbrev QT:=List qc×Int×Bool
def Js (f:XB) (y:QT):Ex×TSt:=(.exit 2,⟨2,61,[50,50050,50051,100020,100030],[(0,.yl 50050),(2,.p 100030 [] 0),(6,.p 200060 [] 0),(8,.p 200080 [] 0),(12,.tv (.sl 19 qf) f.2.2.2.2.2.2.1),(13,xi f.2.2.2.2.2.2.2.1),(14,xi f.2.2.2.2.2.2.2.2.1),(37,.tv (.sl 4 qq) f.2.2.2.2.2.2.2.2.2.1),(38,xi f.2.2.2.2.2.2.2.2.2.2),(39,xi y.2.1),(40,xb y.2.2)],[(50,.cell false (.v 200250 f.1.length)),(50050,.loop [18] 27 [(5,.p 50 [] 0),(17,.fn (.func 79) [] [.p 100020 [] 0,.p 100030 [] 0])] 1600005 16 .ready none 50051),(50051,.dfr true),(100020,.cell false (.tv qh f.2.1)),(100030,.cell false (.tv qH f.2.2.1)),(200060,.cell false (.tv qQ f.2.2.2.1)),(200080,.cell false (.ag [.tv (.ba 16) f.2.2.2.2.1,.tv qi f.2.2.2.2.2.1,.v 200085 y.1.length])),(200085,.vec false 4 (.sl 4 qq) (y.1:List qc)),(200250,.vec false 19 (.sl 19 qf) f.1)],false,[]⟩)
def qpB (N:Nat):List (Nat×qA):=[]
abbrev Jo:=List qc×Int
def qeU:SP:=⟨2,61,[50,50050,50051,100020,100030],[(0,.k (.yl 50050)),(2,.k (.p 100030 [] 0)),(6,.k (.p 200060 [] 0)),(8,.k (.p 200080 [] 0)),(12,.x (.sl 19 qf)),(13,.x (.i .i64)),(14,.x (.i .i64)),(37,.x (.sl 4 qq)),(38,.x (.i .i64)),(39,.x (.i .i64))],[(50,.cell false (.vs 200250)),(50050,.loop [18] 27 [(5,.k (.p 50 [] 0)),(17,.fn 79 [] [.k (.p 100020 [] 0),.k (.p 100030 [] 0)])] 1600005 16 .ready none 50051),(50051,.dfr true),(100020,.cell false (.x qh)),(100030,.cell false (.x qH)),(200060,.cell false (.x qQ)),(200080,.cell false (.ag [.x (.ba 16),.x qi,.vs 200085])),(200085,.vec false 4),(200250,.vec false 19)],false,[]⟩
def qpJ (f:XB) (v:Jo):TSt:=zC qeU [dv (.sl 4 qq) v.1,dv (.sl 19 qf) f.1,dv qh f.2.1,dv qH f.2.2.1,dv qQ f.2.2.2.1,dv (.ba 16) f.2.2.2.2.1,dv qi f.2.2.2.2.2.1,dv (.sl 19 qf) f.2.2.2.2.2.2.1,dv (.i .i64) f.2.2.2.2.2.2.2.1,dv (.i .i64) f.2.2.2.2.2.2.2.2.1,dv (.sl 4 qq) f.2.2.2.2.2.2.2.2.2.1,dv (.i .i64) f.2.2.2.2.2.2.2.2.2.2,dv (.i .i64) v.2]
def qpA (N:Nat) (o_8_2:List qa) (o_8_3:qb) (o_8_4:qp) (o_8_5:ql) (o_8_6:Vector UInt8 16) (o_8_7:qd) (s12_8:List qa) (s13_8:Int) (s14_8:Int) (s37_8:List qc) (s38_8:Int) (v:Jo):Tree (Jo⊕QT):=
 .cond (decide (v.2 < s38_8)) (
 .bind (zk s37_8 v.2) fun e1=>
 .bind (Ky N (qc.C e1) o_8_5 (qc.No e1)) fun r2=>
 .cond r2 (
 .chk (jx v.1.length v.1.length ((v.1++[e1]).length) 40) <|
 .chk (qt (v.2 + 1)) <|
 .ret (.inl (v.1++[e1],v.2 + 1))) <|
 .chk (qt (v.2 + 1)) <|
 .ret (.inl (v.1,v.2 + 1))) <|
 .ret (.inr (v.1,v.2,decide (v.2 < s38_8)))
def qeM (N n:Nat) (f:XB) (v:Jo):Option QT:=qY (qpA N f.1 f.2.1 f.2.2.1 f.2.2.2.1 f.2.2.2.2.1 f.2.2.2.2.2.1 f.2.2.2.2.2.2.1 f.2.2.2.2.2.2.2.1 f.2.2.2.2.2.2.2.2.1 f.2.2.2.2.2.2.2.2.2.1 f.2.2.2.2.2.2.2.2.2.2) some n v
theorem qpx (N:Nat) (f:XB) (n:Nat) (v:Jo) (y:QT) (h:qeM N n f v=some y):LG Tryz.prog Zp 79 (qM (qM qa4 1) 8) (qpJ f v) (Js f y):=
 zo qj (E:=WV N) (L:=qL (qpB N)) (st:=Js f) (g:=some) (R:=Js f) (Xw N) (qo (by kernel_rfl) trivial) (rg0 (by kernel_rfl)) (fun v=>by kernel_rfl) (q0 (st:=Js f) fun y=>by rfl) n v y h
def WE (N:Nat) (o_8_2:List qa) (o_8_3:qb) (o_8_4:qp) (o_8_5:ql) (o_8_6:Vector UInt8 16) (o_8_7:qd) (s12_8:List qa) (s13_8:Int) (s14_8:Int) (s37_8:List qc) (s38_8:Int) (o_8:List qc) (s39_8:Int):Option QT:=qeM N N (o_8_2,o_8_3,o_8_4,o_8_5,o_8_6,o_8_7,s12_8,s13_8,s14_8,s37_8,s38_8) (o_8,s39_8)
def qeL (N:Nat):qA:=smL qeU [(.sl 4 qq),(.sl 19 qf),qh,qH,qQ,(.ba 16),qi,(.sl 19 qf),(.i .i64),(.i .i64),(.sl 4 qq),(.i .i64),(.i .i64)] QT (fun x=>WE N x.2.1 x.2.2.1 x.2.2.2.1 x.2.2.2.2.1 x.2.2.2.2.2.1 x.2.2.2.2.2.2.1 x.2.2.2.2.2.2.2.1 x.2.2.2.2.2.2.2.2.1 x.2.2.2.2.2.2.2.2.2.1 x.2.2.2.2.2.2.2.2.2.2.1 x.2.2.2.2.2.2.2.2.2.2.2.1 x.1 x.2.2.2.2.2.2.2.2.2.2.2.2.1) cs1 fun x=>Js (x.2.1,x.2.2.1,x.2.2.2.1,x.2.2.2.2.1,x.2.2.2.2.2.1,x.2.2.2.2.2.2.1,x.2.2.2.2.2.2.2.1,x.2.2.2.2.2.2.2.2.1,x.2.2.2.2.2.2.2.2.2.1,x.2.2.2.2.2.2.2.2.2.2.1,x.2.2.2.2.2.2.2.2.2.2.2.1)
theorem qd8 (N:Nat):jq Tryz.prog Zp 79 (qM (qM qa4 1) 8) (qeL N):=zA fun x z h=>qpx N (x.2.1,x.2.2.1,x.2.2.2.1,x.2.2.2.2.1,x.2.2.2.2.2.1,x.2.2.2.2.2.2.1,x.2.2.2.2.2.2.2.1,x.2.2.2.2.2.2.2.2.1,x.2.2.2.2.2.2.2.2.2.1,x.2.2.2.2.2.2.2.2.2.2.1,x.2.2.2.2.2.2.2.2.2.2.2.1) N (x.1,x.2.2.2.2.2.2.2.2.2.2.2.2.1) z h
abbrev j8:=qb×qp×List qa×Int
abbrev jI:=(Int×Bool)⊕(List qa×Int×Bool)
def jZ (f:j8):jI→Ex×TSt
 | .inl y=>(.exit 0,⟨2,61,[50,50050,50051,100020,100030],[(0,.yl 50050),(2,.p 100030 [] 0),(12,.tv (.sl 19 qf) f.2.2.1),(13,xi f.2.2.2),(14,xi y.1),(15,xb y.2)],[(50,.cell false .nils),(50050,.loop [18] 27 [(5,.p 50 [] 0),(17,.fn (.func 79) [] [.p 100020 [] 0,.p 100030 [] 0])] 1600005 16 .ready none 50051),(50051,.dfr true),(100020,.cell false (.tv qh f.1)),(100030,.cell false (.tv qH f.2.1))],false,[]⟩)
 | .inr y=>(.exit 0,⟨2,61,[50,50050,50051,100020,100030],[(0,.yl 50050),(2,.p 100030 [] 0),(12,.tv (.sl 19 qf) f.2.2.1),(13,xi f.2.2.2),(14,xi y.2.1),(15,xb y.2.2)],[(50,.cell false (.v 200250 y.1.length)),(50050,.loop [18] 27 [(5,.p 50 [] 0),(17,.fn (.func 79) [] [.p 100020 [] 0,.p 100030 [] 0])] 1600005 16 .ready none 50051),(50051,.dfr true),(100020,.cell false (.tv qh f.1)),(100030,.cell false (.tv qH f.2.1)),(200250,.vec false 19 (.sl 19 qf) (y.1:List qa))],false,[]⟩)
def qg_ (N:Nat):List (Nat×qA):=[(8,qg7 N),(8,qeL N)]
abbrev QC:=List qa×Int
def qmY:SP:=⟨2,61,[50,50050,50051,100020,100030],[(0,.k (.yl 50050)),(2,.k (.p 100030 [] 0)),(12,.x (.sl 19 qf)),(13,.x (.i .i64)),(14,.x (.i .i64))],[(50,.cell false (.vs 200250)),(50050,.loop [18] 27 [(5,.k (.p 50 [] 0)),(17,.fn 79 [] [.k (.p 100020 [] 0),.k (.p 100030 [] 0)])] 1600005 16 .ready none 50051),(50051,.dfr true),(100020,.cell false (.x qh)),(100030,.cell false (.x qH)),(200250,.vec false 19)],false,[]⟩
def qea (f:j8) (v:QC):TSt:=zC qmY [dv (.sl 19 qf) v.1,dv qh f.1,dv qH f.2.1,dv (.sl 19 qf) f.2.2.1,dv (.i .i64) f.2.2.2,dv (.i .i64) v.2]
def ZY (N:Nat) (o_1:qb) (o_1_2:qp) (s12_1:List qa) (s13_1:Int) (v:QC):Tree (QC⊕jI):=
 .cond (decide (v.2 < s13_1)) (
 .bind (zk s12_1 v.2) fun e1=>
 .bind (Ke N o_1_2 (qa.ID e1)) fun r2=>
 .bind (j9 N (ql.qB r2.1) (qa.qB e1)) fun r3=>
 .cond r3 (
 .bind (zO [(v.1.length,v.1.length),(([]:List qc).length,0)] (WE N v.1 o_1 o_1_2 r2.1 (qa.ID e1) (qa.qB e1) s12_1 s13_1 v.2 (qa.F e1) (((qa.F e1).length:Nat):Int) [] 0)) fun z4=>
 .chk (z4.1.length=z4.1.length) <|
 .bind (zO [(v.1.length,v.1.length)] (Zh v.1 o_1 o_1_2 (qa.mk (qa.ID e1) (qa.qB e1) z4.1))) fun r5=>
 .chk (qt (v.2 + 1)) <|
 .ret (.inl (r5,v.2 + 1))) <|
 .bind (zO [(v.1.length,v.1.length),(([]:List qc).length,0)] (WE N v.1 o_1 o_1_2 r2.1 (qa.ID e1) (qd.mk 0 0) s12_1 s13_1 v.2 (qa.F e1) (((qa.F e1).length:Nat):Int) [] 0)) fun z4=>
 .chk (z4.1.length=z4.1.length) <|
 .bind (zO [(v.1.length,v.1.length)] (Zh v.1 o_1 o_1_2 (qa.mk (qa.ID e1) (qd.mk 0 0) z4.1))) fun r5=>
 .chk (qt (v.2 + 1)) <|
 .ret (.inl (r5,v.2 + 1))) <|
 .ret (.inr (.inr ((v.1,v.2,decide (v.2 < s13_1)))))
def qd_ (N n:Nat) (f:j8) (v:QC):Option jI:=qY (ZY N f.1 f.2.1 f.2.2.1 f.2.2.2) some n v
theorem qoh (N:Nat) (f:j8) (n:Nat) (v:QC) (y:jI) (h:qd_ N n f v=some y):LG Tryz.prog Zp 79 (qM qa4 1) (qea f v) (jZ f y):=
 zo qj (E:=WV N) (L:=qL (qg_ N)) (st:=jZ f) (g:=some) (R:=jZ f) (Xw N) (qo (by kernel_rfl) ⟨qgn N,qd8 N,trivial⟩) (rg0 (by kernel_rfl)) (fun v=>by kernel_rfl) (q0 (st:=jZ f) fun y=>by rcases y with _ | _<;>rfl) n v y h
abbrev VK:=Int
def qhf:SP:=⟨2,61,[50,50050,50051,100020,100030],[(0,.k (.yl 50050)),(2,.k (.p 100030 [] 0)),(12,.x (.sl 19 qf)),(13,.x (.i .i64)),(14,.x (.i .i64))],[(50,.cell false (.k .nils)),(50050,.loop [18] 27 [(5,.k (.p 50 [] 0)),(17,.fn 79 [] [.k (.p 100020 [] 0),.k (.p 100030 [] 0)])] 1600005 16 .ready none 50051),(50051,.dfr true),(100020,.cell false (.x qh)),(100030,.cell false (.x qH))],false,[]⟩
def qtp (f:j8) (v:VK):TSt:=zC qhf [dv qh f.1,dv qH f.2.1,dv (.sl 19 qf) f.2.2.1,dv (.i .i64) f.2.2.2,dv (.i .i64) v]
abbrev WH:=QC⊕jI
def VE (N:Nat) (o_1:qb) (o_1_2:qp) (s12_1:List qa) (s13_1:Int) (v:VK):Tree (VK⊕WH):=
 .cond (decide (v < s13_1)) (
 .bind (zk s12_1 v) fun e1=>
 .bind (Ke N o_1_2 (qa.ID e1)) fun r2=>
 .bind (j9 N (ql.qB r2.1) (qa.qB e1)) fun r3=>
 .cond r3 (
 .bind (zO [(([]:List qc).length,0)] (X2 N o_1 o_1_2 r2.1 (qa.ID e1) (qa.qB e1) s12_1 s13_1 v (qa.F e1) (((qa.F e1).length:Nat):Int) [] 0)) fun z4=>
 .chk (z4.1.length=z4.1.length) <|
 .bind (QZ o_1 o_1_2 (qa.mk (qa.ID e1) (qa.qB e1) z4.1)) fun r5=>
 .sum r5 (fun r6=>
 .chk (qt (v + 1)) <|
 .ret (.inr (.inl ([qa.mk (qa.ID e1) (qa.qB e1) z4.1],v + 1)))) fun r6=>
 .chk (qt (v + 1)) <|
 .ret (.inl (v + 1))) <|
 .bind (zO [(([]:List qc).length,0)] (X2 N o_1 o_1_2 r2.1 (qa.ID e1) (qd.mk 0 0) s12_1 s13_1 v (qa.F e1) (((qa.F e1).length:Nat):Int) [] 0)) fun z4=>
 .chk (z4.1.length=z4.1.length) <|
 .bind (QZ o_1 o_1_2 (qa.mk (qa.ID e1) (qd.mk 0 0) z4.1)) fun r5=>
 .sum r5 (fun r6=>
 .chk (qt (v + 1)) <|
 .ret (.inr (.inl ([qa.mk (qa.ID e1) (qd.mk 0 0) z4.1],v + 1)))) fun r6=>
 .chk (qt (v + 1)) <|
 .ret (.inl (v + 1))) <|
 .ret (.inr (.inr ((.inl (v,decide (v < s13_1))))))
def qbT (N n:Nat) (f:j8):WH→Option jI
 | .inl w=>qd_ N n f w
 | .inr w=>some w
def qs9 (f:j8):WH→Ex×TSt
 | .inl w=>(.normal,qea f w)
 | .inr w=>jZ f w
def qhi (N n:Nat) (f:j8) (v:VK):Option jI:=qY (VE N f.1 f.2.1 f.2.2.1 f.2.2.2) (qbT N n f) n v
theorem qs3 (N:Nat) (f:j8) (n:Nat) (v:VK) (y:jI) (h:qhi N n f v=some y):LG Tryz.prog Zp 79 (qM qa4 1) (qtp f v) (jZ f y):=
 zo qj (E:=WV N) (L:=qL (qg_ N)) (st:=qs9 f) (g:=(qbT N n f)) (R:=jZ f) (Xw N) (qo (by kernel_rfl) ⟨qgn N,qd8 N,trivial⟩) (rg0 (by kernel_rfl)) (fun v=>by kernel_rfl) (fun w y h=>by
 rcases w with w | w
 ·exact qoh N f n w y h
 ·exact q0 (st:=jZ f) (fun y=>by rcases y with _ | _<;>rfl) w y h
) n v y h
def qeu (N:Nat) (o_1:qb) (o_1_2:qp) (s12_1:List qa) (s13_1:Int) (s14_1:Int):Option jI:=qhi N N (o_1,o_1_2,s12_1,s13_1) s14_1
def qhl (N:Nat):qA:=smL qhf [qh,qH,(.sl 19 qf),(.i .i64),(.i .i64)] jI (fun x=>qeu N x.1 x.2.1 x.2.2.1 x.2.2.2.1 x.2.2.2.2.1) (csS cs1) fun x=>jZ (x.1,x.2.1,x.2.2.1,x.2.2.2.1)
theorem qrr (N:Nat):jq Tryz.prog Zp 79 (qM qa4 1) (qhl N):=zA fun x z h=>qs3 N (x.1,x.2.1,x.2.2.1,x.2.2.2.1) N x.2.2.2.2.1 z h
def qy9 (a0:qb) (a1:qp):Unit⊕List qa→TV×THp
 | .inl z=>(.tup [],[(50,.cell false .nils),(50050,.loop [18] 27 [(5,.p 50 [] 0),(17,.fn (.func 79) [] [.p 100020 [] 0,.p 100030 [] 0])] 1600005 16 .ready none 50051),(50051,.dfr true),(100020,.cell false (.tv qh a0)),(100030,.cell false (.tv qH a1))])
 | .inr z=>(.tup [],[(50,.cell false (.v 200250 z.length)),(50050,.loop [18] 27 [(5,.p 50 [] 0),(17,.fn (.func 79) [] [.p 100020 [] 0,.p 100030 [] 0])] 1600005 16 .ready none 50051),(50051,.dfr true),(100020,.cell false (.tv qh a0)),(100030,.cell false (.tv qH a1)),(200250,.vec false 19 (.sl 19 qf) z)])
def qbl (N:Nat) (a0:qb) (a1:qp):Tree (Unit⊕List qa):=
 .bind (qeu N a0 a1 (qb.R a0) (((qb.R a0).length:Nat):Int) 0) fun z1=>
 .sum z1 (fun z2=>
 .ret (.inl ())) fun z2=>
 .ret (.inr z2.1)
def WU (N:Nat) (a0:qb) (a1:qp):Option (Unit⊕List qa):=(qbl N a0 a1).run some
def qzn (N:Nat):List (Nat×qA):=[(1,qhl N)]
def qmD (N:Nat):Ent:=smF ⟨79,[],[.k (.yl 50050)],[.k (.p 100020 [] 0),.k (.p 100030 [] 0)],[(50,.cell false (.k .nils)),(50050,.loop [18] 27 [(5,.k (.p 50 [] 0)),(17,.fn 79 [] [.k (.p 100020 [] 0),.k (.p 100030 [] 0)])] 1600005 16 .ready none 50051),(50051,.dfr true),(100020,.cell false (.x qh)),(100030,.cell false (.x qH))]⟩ [qh,qH] (Unit⊕List qa) (fun x=>WU N x.1 x.2.1) (csS cs1) fun x=>qy9 x.1 x.2.1
theorem qvX (N:Nat):zg Tryz.prog (qmD N):=
 zf (H:=Zp) (L:=qL (qzn N)) (ts:=[qh,qH]) (T:=fun x=>qbl N x.1 x.2.1) 1 qMO (Xw N) (qo (by kernel_rfl) ⟨qrr N,trivial⟩) (rg0 (by kernel_rfl)) fun x=>by kernel_rfl
noncomputable def qOu:Code:=Tryz.f16.body.getD .skip
theorem qOy:FnF Tryz.prog 16 Tryz.f16 qOu:=⟨qj,by kernel_rfl,by kernel_rfl,by kernel_rfl⟩
def qA3:TH:={ live:=[(0,[2,3]),(1,[2,3,14]),(2,[4]),(3,[2,3,5]),(4,[5,17]),(5,[5,6]),(6,[5,6,21]),(8,[4])],dec:=[10],fresh:=[17] }
def qBg (N:Nat):List Ent:=[qbz N,ql7 N,qq2,qmD N]
theorem qwh (N:Nat):qT Tryz.prog (qBg N):=⟨qb8 N,qx7 N,qBO,qvX N,trivial⟩
def qBk (z:List qa):TV×THp:=(.tv (.sl 19 qf) z,[])
def qgy (N:Nat) (a0:qb) (a1:qp):Tree (List qa):=
 .bind (Wm N a0) fun r1=>
 .cond (!r1) (
 .ret []) <|
 .bind (qdD N a1) fun r2=>
 .cond (!r2) (
 .ret []) <|
 .bind (qnx a0 a1) fun r3=>
 .bind (WU N a0 a1) fun r4=>
 .sum r4 (fun r5=>
 .ret []) fun r5=>
 .chk (r5.length=r5.length) <|
 .ret r5
def qfI (N:Nat) (a0:qb) (a1:qp):Option (List qa):=(qgy N a0 a1).run some
def qBc (N:Nat):List (Nat×qA):=[]
def qoR (N:Nat):Ent:=smF ⟨16,[],[.x qh,.x qH],[],[]⟩ [qh,qH] (List qa) (fun x=>qfI N x.1 x.2.1) cs1 fun _=>qBk
theorem qzG (N:Nat):zg Tryz.prog (qoR N):=
 zf (H:=qA3) (L:=qL (qBc N)) (ts:=[qh,qH]) (T:=fun x=>qgy N x.1 x.2.1) 0 qOy (qwh N) (qo (by kernel_rfl) trivial) (rgs (by kernel_rfl)) fun x=>by kernel_rfl
noncomputable def qut:Code:=Tryz.f13.body.getD .skip
theorem qOw:FnF Tryz.prog 13 Tryz.f13 qut:=⟨qj,by kernel_rfl,by kernel_rfl,by kernel_rfl⟩
def qkY:TH:={ live:=[(0,[2,3,4]),(1,[2,3,4,6]),(2,[2,3,4,6,39]),(3,[4,5]),(4,[2,4,47,48,49]),(5,[2,4,47,48,49,50]),(6,[2,4,8,47,48,49]),(7,[2,4,8,47,48,49,54]),(8,[2,4,9,10,47,48,49]),(9,[2,4,9,10,47,48,49,64]),(10,[4,5]),(11,[2,4,47,48,49]),(12,[2,4,47,48,49]),(13,[4,5])],dec:=[19,23,29,34],nil:=[(0,[⟨.ob 40 [0],43,(.sl 19 qf)⟩]),(3,[⟨.ob 40 [0],43,(.sl 19 qf)⟩]),(10,[⟨.ob 40 [0],43,(.sl 19 qf)⟩])] }
def qtQ (N:Nat):List Ent:=[qbz N,qdV,V0,qkC N,qlA N]
theorem qo2 (N:Nat):qT Tryz.prog (qtQ N):=⟨qb8 N,qgu,Xy,qnK N,qpV N,trivial⟩
abbrev qbm:=List qa×List qa×Int
abbrev V7:=(qb×Int×Bool)⊕Int
def Yl (f:qbm):V7→Ex×TSt
 | .inl y=>(.exit 0,⟨0,70,[],[(2,.p 20 [] 0),(4,.p 40 [] 0),(47,.tv (.sl 19 qf) f.2.1),(48,xi f.2.2),(49,xi y.2.1),(50,xb y.2.2)],[(20,.cell false (.tv qh (y.1:qb))),(40,.cell false (.ag [.v 43 f.1.length])),(43,.vec false 19 (.sl 19 qf) f.1)],false,[]⟩)
 | .inr y=>(.ret,⟨0,70,[],[(4,.p 40 [] 0),(5,xi y)],[(40,.cell false (.ag [.v 43 0])),(43,.vec false 19 (.sl 19 qf) ([]:List qa))],false,[]⟩)
def qyp (N:Nat):List (Nat×qA):=[]
abbrev WY:=qb×Int
def ql2:SP:=⟨0,70,[],[(2,.k (.p 20 [] 0)),(4,.k (.p 40 [] 0)),(47,.x (.sl 19 qf)),(48,.x (.i .i64)),(49,.x (.i .i64))],[(20,.cell false (.x qh)),(40,.cell false (.ag [.vs 43])),(43,.vec false 19)],false,[]⟩
def qyI (f:qbm) (v:WY):TSt:=zC ql2 [dv (.sl 19 qf) f.1,dv qh v.1,dv (.sl 19 qf) f.2.1,dv (.i .i64) f.2.2,dv (.i .i64) v.2]
def Yk (N:Nat) (o_5:List qa) (s47_5:List qa) (s48_5:Int) (v:WY):Tree (WY⊕V7):=
 .cond (decide (v.2 < s48_5)) (
 .bind (zk s47_5 v.2) fun e1=>
 .bind (ZW e1) fun r2=>
 .cond r2 (
 .chk (qt (v.2 + 1)) <|
 .ret (.inl (v.1,v.2 + 1))) <|
 .bind (X8 N v.1 (qb.mk [e1])) fun r3=>
 .cond (!decide (r3.2=0)) (
 .ret (.inr (.inr r3.2))) <|
 .chk (qt (v.2 + 1)) <|
 .ret (.inl (r3.1,v.2 + 1))) <|
 .ret (.inr (.inl (v.1,v.2,decide (v.2 < s48_5))))
def qmJ (N n:Nat) (f:qbm) (v:WY):Option V7:=qY (Yk N f.1 f.2.1 f.2.2) some n v
theorem qy6 (N:Nat) (f:qbm) (n:Nat) (v:WY) (y:V7) (h:qmJ N n f v=some y):LG Tryz.prog qkY 13 (qM qut 5) (qyI f v) (Yl f y):=
 zo qj (E:=qtQ N) (L:=qL (qyp N)) (st:=Yl f) (g:=some) (R:=Yl f) (qo2 N) (qo (by kernel_rfl) trivial) (rg0 (by kernel_rfl)) (fun v=>by kernel_rfl) (q0 (st:=Yl f) fun y=>by rcases y with _ | _<;>rfl) n v y h
def Yo (N:Nat) (o_5:List qa) (s47_5:List qa) (s48_5:Int) (o_5_2:qb) (s49_5:Int):Option V7:=qmJ N N (o_5,s47_5,s48_5) (o_5_2,s49_5)
def qmE (N:Nat):qA:=smL ql2 [(.sl 19 qf),qh,(.sl 19 qf),(.i .i64),(.i .i64)] V7 (fun x=>Yo N x.1 x.2.2.1 x.2.2.2.1 x.2.1 x.2.2.2.2.1) (csS cs1) fun x=>Yl (x.1,x.2.2.1,x.2.2.2.1)
theorem qwp (N:Nat):jq Tryz.prog qkY 13 (qM qut 5) (qmE N):=zA fun x z h=>qy6 N (x.1,x.2.2.1,x.2.2.2.1) N (x.2.1,x.2.2.2.2.1) z h
def qEV (z:qb×Int):TV×THp:=(.tup [.tv qh (z.1:qb),xi z.2],[])
def qlt (N:Nat) (a0:qb) (a1:qa):Tree (qb×Int):=
 .bind (Wm N a0) fun r1=>
 .cond (!r1) (
 .chk (0=0) <|
 .ret (qb.mk [],1)) <|
 .bind (ZW a1) fun r2=>
 .cond r2 (
 .chk (0=0) <|
 .ret (qb.mk [],1)) <|
 .bind (VZ (qa.qB a1)) fun r3=>
 .cond (!r3) (
 .chk (0=0) <|
 .ret (qb.mk [],1)) <|
 .cond (decide (((0:Int)) < (((qa.F a1).length:Nat):Int))) (
 .bind (qfm N (qa.mk (qa.ID a1) (qd.mk 0 0) (qa.F a1))) fun r4=>
 .cond (!r4) (
 .chk (0=0) <|
 .ret (qb.mk [],1)) <|
 .bind (zO [(([]:List qa).length,0)] (Yo N [] [qa.mk (qa.ID a1) (qa.qB a1) [],qa.mk (qa.ID a1) (qd.mk 0 0) (qa.F a1)] (((([qa.mk (qa.ID a1) (qa.qB a1) [],qa.mk (qa.ID a1) (qd.mk 0 0) (qa.F a1)]:List qa)).length:Nat):Int) a0 0)) fun z5=>
 .sum z5 (fun z6=>
 .ret (z6.1,0)) fun z6=>
 .chk (0=0) <|
 .ret (qb.mk [],z6)) <|
 .bind (zO [(([]:List qa).length,0)] (Yo N [] [qa.mk (qa.ID a1) (qa.qB a1) [],qa.mk (qa.ID a1) (qd.mk 0 0) (qa.F a1)] (((([qa.mk (qa.ID a1) (qa.qB a1) [],qa.mk (qa.ID a1) (qd.mk 0 0) (qa.F a1)]:List qa)).length:Nat):Int) a0 0)) fun z4=>
 .sum z4 (fun z5=>
 .ret (z5.1,0)) fun z5=>
 .chk (0=0) <|
 .ret (qb.mk [],z5)
def qkz (N:Nat) (a0:qb) (a1:qa):Option (qb×Int):=(qlt N a0 a1).run some
def qFU (N:Nat):List (Nat×qA):=[(5,qmE N)]
def qub (N:Nat):Ent:=smF ⟨13,[],[.x qh,.x qf],[],[]⟩ [qh,qf] (qb×Int) (fun x=>qkz N x.1 x.2.1) cs1 fun _=>qEV
theorem qDz (N:Nat):zg Tryz.prog (qub N):=
 zf (H:=qkY) (L:=qL (qFU N)) (ts:=[qh,qf]) (T:=fun x=>qlt N x.1 x.2.1) 0 qOw (qo2 N) (qo (by kernel_rfl) ⟨qwp N,trivial⟩) (rg0 (by kernel_rfl)) fun x=>by kernel_rfl
noncomputable def quQ:Code:=Tryz.f95.body.getD .skip
theorem qM9:FnF Tryz.prog 95 Tryz.f95 quQ:=⟨qj,by kernel_rfl,by kernel_rfl,by kernel_rfl⟩
def Yy:TH:={ live:=[(0,[0,1]),(1,[0,1,10]),(2,[4]),(3,[0,1,12,13]),(4,[0,1,12,13,14]),(5,[0,1,5,12,13]),(6,[0,1,12,13,24]),(7,[4]),(8,[0,1,12,13]),(9,[4])] }
def qdH (N:Nat):List Ent:=[]
theorem qcc (N:Nat):qT Tryz.prog (qdH N):=trivial
abbrev Jk:=List qc×List qc×Int
abbrev vB:=Unit⊕(Int×Bool)
def QD (f:Jk):vB→Ex×TSt
 | .inl y=>(.ret,⟨0,26,[],[(4,.bc false)],[],false,[]⟩)
 | .inr y=>(.exit 0,⟨0,26,[],[(0,.tv (.sl 4 qq) f.1),(1,.tv (.sl 4 qq) f.2.1),(12,xi f.2.2),(13,xi y.1),(14,xb y.2)],[],false,[]⟩)
def qjJ (N:Nat):List (Nat×qA):=[]
abbrev QI:=Int
def qbG:SP:=⟨0,26,[],[(0,.x (.sl 4 qq)),(1,.x (.sl 4 qq)),(12,.x (.i .i64)),(13,.x (.i .i64))],[],false,[]⟩
def qjs (f:Jk) (v:QI):TSt:=zC qbG [dv (.sl 4 qq) f.1,dv (.sl 4 qq) f.2.1,dv (.i .i64) f.2.2,dv (.i .i64) v]
def Jl (N:Nat) (s0_4:List qc) (s1_4:List qc) (s12_4:Int) (v:QI):Tree (QI⊕vB):=
 .cond (decide (v < s12_4)) (
 .bind (zk s0_4 v) fun e1=>
 .bind (zk s1_4 v) fun e2=>
 .cond (!(eqE qq e1 e2)) (
 .ret (.inr (.inl ()))) <|
 .chk (qt (v + 1)) <|
 .ret (.inl (v + 1))) <|
 .ret (.inr (.inr ((v,decide (v < s12_4)))))
def qbS (N n:Nat) (f:Jk) (v:QI):Option vB:=qY (Jl N f.1 f.2.1 f.2.2) some n v
theorem qjP (N:Nat) (f:Jk) (n:Nat) (v:QI) (y:vB) (h:qbS N n f v=some y):LG Tryz.prog Yy 95 (qM quQ 4) (qjs f v) (QD f y):=
 zo qj (E:=qdH N) (L:=qL (qjJ N)) (st:=QD f) (g:=some) (R:=QD f) (qcc N) (qo (by kernel_rfl) trivial) (rg0 (by kernel_rfl)) (fun v=>by kernel_rfl) (q0 (st:=QD f) fun y=>by rcases y with _ | _<;>rfl) n v y h
def qc6 (N:Nat) (s0_4:List qc) (s1_4:List qc) (s12_4:Int) (s13_4:Int):Option vB:=qbS N N (s0_4,s1_4,s12_4) s13_4
def qbC (N:Nat):qA:=smL qbG [(.sl 4 qq),(.sl 4 qq),(.i .i64),(.i .i64)] vB (fun x=>qc6 N x.1 x.2.1 x.2.2.1 x.2.2.2.1) (csS cs1) fun x=>QD (x.1,x.2.1,x.2.2.1)
theorem qio (N:Nat):jq Tryz.prog Yy 95 (qM quQ 4) (qbC N):=zA fun x z h=>qjP N (x.1,x.2.1,x.2.2.1) N x.2.2.2.1 z h
def qow (z:Bool):TV×THp:=(xb z,[])
def YE (N:Nat) (a0:List qc) (a1:List qc):Tree (Bool):=
 .cond (!decide (((a0.length:Nat):Int)=((a1.length:Nat):Int))) (
 .ret false) <|
 .bind (qc6 N a0 a1 ((a0.length:Nat):Int) 0) fun z1=>
 .sum z1 (fun z2=>
 .ret false) fun z2=>
 .ret true
def XW (N:Nat) (a0:List qc) (a1:List qc):Option (Bool):=(YE N a0 a1).run some
def qm_ (N:Nat):List (Nat×qA):=[(4,qbC N)]
def qdy (N:Nat):Ent:=smF ⟨95,[],[.x (.sl 4 qq),.x (.sl 4 qq)],[],[]⟩ [(.sl 4 qq),(.sl 4 qq)] (Bool) (fun x=>XW N x.1 x.2.1) cs1 fun _=>qow
theorem qmC (N:Nat):zg Tryz.prog (qdy N):=
 zf (H:=Yy) (L:=qL (qm_ N)) (ts:=[(.sl 4 qq),(.sl 4 qq)]) (T:=fun x=>YE N x.1 x.2.1) 0 qM9 (qcc N) (qo (by kernel_rfl) ⟨qio N,trivial⟩) (rg0 (by kernel_rfl)) fun x=>by kernel_rfl
noncomputable def qMk:Code:=Tryz.f59.body.getD .skip
theorem qMe:FnF Tryz.prog 59 Tryz.f59 qMk:=⟨qj,by kernel_rfl,by kernel_rfl,by kernel_rfl⟩
def qIo:TH:={ live:=[(0,[2,3]),(1,[4])],dec:=[10,17] }
def qIp (N:Nat):List Ent:=[qdy N]
theorem qEI (N:Nat):qT Tryz.prog (qIp N):=⟨qmC N,trivial⟩
def qHY (z:Bool):TV×THp:=(xb z,[])
def qnM (N:Nat) (a0:qa) (a1:qa):Tree (Bool):=
 .cond (eqE (.ba 16) (qa.ID a0) (qa.ID a1)) (
 .cond (eqE qi (qa.qB a0) (qa.qB a1)) (
 .bind (XW N (qa.F a0) (qa.F a1)) fun r1=>
 .ret r1) <|
 .ret false) <|
 .ret false
def qnk (N:Nat) (a0:qa) (a1:qa):Option (Bool):=(qnM N a0 a1).run some
def qJh (N:Nat):List (Nat×qA):=[]
def qwx (N:Nat):Ent:=smF ⟨59,[],[.x qf,.x qf],[],[]⟩ [qf,qf] (Bool) (fun x=>qnk N x.1 x.2.1) cs1 fun _=>qHY
theorem qE3 (N:Nat):zg Tryz.prog (qwx N):=
 zf (H:=qIo) (L:=qL (qJh N)) (ts:=[qf,qf]) (T:=fun x=>qnM N x.1 x.2.1) 0 qMe (qEI N) (qo (by kernel_rfl) trivial) (rg0 (by kernel_rfl)) fun x=>by kernel_rfl
noncomputable def qvh:Code:=Tryz.f58.body.getD .skip
theorem qL0:FnF Tryz.prog 58 Tryz.f58 qvh:=⟨qj,by kernel_rfl,by kernel_rfl,by kernel_rfl⟩
def Wi:TH:={ live:=[(0,[0,1,2]),(1,[0,1,2,14]),(2,[6]),(3,[1,2,15,16,17]),(4,[1,2,15,16,17,18]),(5,[1,2,7,8,15,16,17]),(6,[1,2,8,9,15,16,17]),(7,[1,2,15,16,17,30]),(8,[6]),(9,[1,2,15,16,17]),(10,[6])] }
def qcl (N:Nat):List Ent:=[qwx N]
theorem qaM (N:Nat):qT Tryz.prog (qcl N):=⟨qE3 N,trivial⟩
abbrev ZA:=List qa×List qa×Int
abbrev jP:=Unit⊕(Int×Bool)
def v5 (f:ZA):jP→Ex×TSt
 | .inl y=>(.ret,⟨0,32,[],[(6,.bc false)],[],false,[]⟩)
 | .inr y=>(.exit 0,⟨0,32,[],[(1,.tv (.sl 19 qf) f.1),(2,.fn (.func 59) [] []),(15,.tv (.sl 19 qf) f.2.1),(16,xi f.2.2),(17,xi y.1),(18,xb y.2)],[],false,[]⟩)
def qhB (N:Nat):List (Nat×qA):=[]
abbrev vZ:=Int
def K1:SP:=⟨0,32,[],[(1,.x (.sl 19 qf)),(2,.fn 59 [] []),(15,.x (.sl 19 qf)),(16,.x (.i .i64)),(17,.x (.i .i64))],[],false,[]⟩
def qhJ (f:ZA) (v:vZ):TSt:=zC K1 [dv (.sl 19 qf) f.1,dv (.sl 19 qf) f.2.1,dv (.i .i64) f.2.2,dv (.i .i64) v]
def Zz (N:Nat) (s1_4:List qa) (s15_4:List qa) (s16_4:Int) (v:vZ):Tree (vZ⊕jP):=
 .cond (decide (v < s16_4)) (
 .bind (zk s15_4 v) fun e1=>
 .bind (zk s1_4 v) fun e2=>
 .bind (qnk N e1 e2) fun r3=>
 .cond (!r3) (
 .ret (.inr (.inl ()))) <|
 .chk (qt (v + 1)) <|
 .ret (.inl (v + 1))) <|
 .ret (.inr (.inr ((v,decide (v < s16_4)))))
def K2 (N n:Nat) (f:ZA) (v:vZ):Option jP:=qY (Zz N f.1 f.2.1 f.2.2) some n v
theorem qhA (N:Nat) (f:ZA) (n:Nat) (v:vZ) (y:jP) (h:K2 N n f v=some y):LG Tryz.prog Wi 58 (qM qvh 4) (qhJ f v) (v5 f y):=
 zo qj (E:=qcl N) (L:=qL (qhB N)) (st:=v5 f) (g:=some) (R:=v5 f) (qaM N) (qo (by kernel_rfl) trivial) (rg0 (by kernel_rfl)) (fun v=>by kernel_rfl) (q0 (st:=v5 f) fun y=>by rcases y with _ | _<;>rfl) n v y h
def qbK (N:Nat) (s1_4:List qa) (s15_4:List qa) (s16_4:Int) (s17_4:Int):Option jP:=K2 N N (s1_4,s15_4,s16_4) s17_4
def KZ (N:Nat):qA:=smL K1 [(.sl 19 qf),(.sl 19 qf),(.i .i64),(.i .i64)] jP (fun x=>qbK N x.1 x.2.1 x.2.2.1 x.2.2.2.1) (csS cs1) fun x=>v5 (x.1,x.2.1,x.2.2.1)
theorem qgC (N:Nat):jq Tryz.prog Wi 58 (qM qvh 4) (KZ N):=zA fun x z h=>qhA N (x.1,x.2.1,x.2.2.1) N x.2.2.2.1 z h
def qlS (z:Bool):TV×THp:=(xb z,[])
def Wg (N:Nat) (a0:List qa) (a1:List qa):Tree (Bool):=
 .cond (!decide (((a0.length:Nat):Int)=((a1.length:Nat):Int))) (
 .ret false) <|
 .bind (qbK N a1 a0 ((a0.length:Nat):Int) 0) fun z1=>
 .sum z1 (fun z2=>
 .ret false) fun z2=>
 .ret true
def VU (N:Nat) (a0:List qa) (a1:List qa):Option (Bool):=(Wg N a0 a1).run some
def qk4 (N:Nat):List (Nat×qA):=[(4,KZ N)]
def qcs (N:Nat):Ent:=smF ⟨58,[],[.x (.sl 19 qf),.x (.sl 19 qf),.fn 59 [] []],[],[]⟩ [(.sl 19 qf),(.sl 19 qf)] (Bool) (fun x=>VU N x.1 x.2.1) cs1 fun _=>qlS
theorem qjx (N:Nat):zg Tryz.prog (qcs N):=
 zf (H:=Wi) (L:=qL (qk4 N)) (ts:=[(.sl 19 qf),(.sl 19 qf)]) (T:=fun x=>Wg N x.1 x.2.1) 0 qL0 (qaM N) (qo (by kernel_rfl) ⟨qgC N,trivial⟩) (rg0 (by kernel_rfl)) fun x=>by kernel_rfl
noncomputable def qN9:Code:=Tryz.f24.body.getD .skip
theorem qNg:FnF Tryz.prog 24 Tryz.f24 qN9:=⟨qj,by kernel_rfl,by kernel_rfl,by kernel_rfl⟩
def qFq:TH:={ live:=[(0,[2,3]),(1,[4])] }
def qFi (N:Nat):List Ent:=[qcs N]
theorem qAY (N:Nat):qT Tryz.prog (qFi N):=⟨qjx N,trivial⟩
def qFz (z:Bool):TV×THp:=(xb z,[])
def qkT (N:Nat) (a0:qb) (a1:qb):Tree (Bool):=
 .bind (VU N (qb.R a0) (qb.R a1)) fun r1=>
 .ret r1
def qf7 (N:Nat) (a0:qb) (a1:qb):Option (Bool):=(qkT N a0 a1).run some
def qFk (N:Nat):List (Nat×qA):=[]
def qtJ (N:Nat):Ent:=smF ⟨24,[],[.x qh,.x qh],[],[]⟩ [qh,qh] (Bool) (fun x=>qf7 N x.1 x.2.1) cs1 fun _=>qFz
theorem qCz (N:Nat):zg Tryz.prog (qtJ N):=
 zf (H:=qFq) (L:=qL (qFk N)) (ts:=[qh,qh]) (T:=fun x=>qkT N x.1 x.2.1) 0 qNg (qAY N) (qo (by kernel_rfl) trivial) (rg0 (by kernel_rfl)) fun x=>by kernel_rfl
noncomputable def qsl:Code:=Tryz.f4.body.getD .skip
theorem qPS:FnF Tryz.prog 4 Tryz.f4 qsl:=⟨qj,by kernel_rfl,by kernel_rfl,by kernel_rfl⟩
def VT:TH:={ live:=[(0,[2,3]),(1,[2,3,5]),(2,[2,3,5,6]),(3,[2,3,5,6,7]),(4,[2,3,5,6,7,8,9]),(5,[2,3,5,6,7,8,9,10,11]),(6,[2,3,5,6,7,8,9,10,11,12]),(7,[2,3,5,8,10,57]),(8,[4]),(9,[3,10,13]),(10,[3,10,13,14]),(11,[3,10,13,14,15]),(12,[3,10,13,14,15,66]),(13,[3,10,13,14,15]),(14,[3,10,13,14,15,16,17]),(15,[3,10,13,14,15,16,79]),(16,[4]),(17,[3,10,13,14,15]),(18,[4])],dec:=[39,43,47,51,55,84] }
def K6 (N:Nat):List Ent:=[qGT,qfW N,qpg N,qlA N,qer N,qoR N,qub N,qtJ N]
theorem Yv (N:Nat):qT Tryz.prog (K6 N):=⟨qL1,qpQ N,qzB N,qpV N,qmd N,qzG N,qDz N,qCz N,trivial⟩
abbrev Qf:=qb×qb×List qa
abbrev ju:=Unit⊕(qb×Int×Bool)
def jV (f:Qf):ju→Ex×TSt
 | .inl y=>(.ret,⟨0,93,[],[(4,.bc false)],[],false,[]⟩)
 | .inr y=>(.exit 0,⟨0,93,[],[(3,.p 30 [] 0),(10,.p 100 [] 0),(13,.tv (.sl 19 qf) f.2.2),(14,.p 140 [] 0),(15,xi y.2.1),(66,xb y.2.2)],[(30,.cell false (.tv qh f.1)),(100,.cell false (.tv qh f.2.1)),(140,.cell false (.tv qh (y.1:qb)))],false,[]⟩)
def qeH (N:Nat):List (Nat×qA):=[]
abbrev jW:=qb×Int
def Wx:SP:=⟨0,93,[],[(3,.k (.p 30 [] 0)),(10,.k (.p 100 [] 0)),(13,.x (.sl 19 qf)),(14,.k (.p 140 [] 0)),(15,.x (.i .i64))],[(30,.cell false (.x qh)),(100,.cell false (.x qh)),(140,.cell false (.x qh))],false,[]⟩
def qeJ (f:Qf) (v:jW):TSt:=zC Wx [dv qh f.1,dv qh f.2.1,dv qh v.1,dv (.sl 19 qf) f.2.2,dv (.i .i64) v.2]
def Qd (N:Nat) (o_12:qb) (o_12_2:qb) (s13_12:List qa) (v:jW):Tree (jW⊕ju):=
 .cond (decide (v.2 < ((s13_12.length:Nat):Int))) (
 .bind (zk s13_12 v.2) fun e1=>
 .bind (qkz N v.1 e1) fun r2=>
 .cond (!decide (r2.2=0)) (
 .ret (.inr (.inl ()))) <|
 .chk (qt (v.2 + 1)) <|
 .ret (.inl (r2.1,v.2 + 1))) <|
 .ret (.inr (.inr ((v.1,v.2,decide (v.2 < ((s13_12.length:Nat):Int))))))
def WB (N n:Nat) (f:Qf) (v:jW):Option ju:=qY (Qd N f.1 f.2.1 f.2.2) some n v
theorem qeF (N:Nat) (f:Qf) (n:Nat) (v:jW) (y:ju) (h:WB N n f v=some y):LG Tryz.prog VT 4 (qM qsl 12) (qeJ f v) (jV f y):=
 zo qj (E:=K6 N) (L:=qL (qeH N)) (st:=jV f) (g:=some) (R:=jV f) (Yv N) (qo (by kernel_rfl) trivial) (rg0 (by kernel_rfl)) (fun v=>by kernel_rfl) (q0 (st:=jV f) fun y=>by rcases y with _ | _<;>rfl) n v y h
def J3 (N:Nat) (o_12:qb) (o_12_2:qb) (s13_12:List qa) (o_12_3:qb) (s15_12:Int):Option ju:=WB N N (o_12,o_12_2,s13_12) (o_12_3,s15_12)
def Wz (N:Nat):qA:=smL Wx [qh,qh,qh,(.sl 19 qf),(.i .i64)] ju (fun x=>J3 N x.1 x.2.1 x.2.2.2.1 x.2.2.1 x.2.2.2.2.1) (csS cs1) fun x=>jV (x.1,x.2.1,x.2.2.2.1)
theorem qej (N:Nat):jq Tryz.prog VT 4 (qM qsl 12) (Wz N):=zA fun x z h=>qeF N (x.1,x.2.1,x.2.2.2.1) N (x.2.2.1,x.2.2.2.2.1) z h
def qhN (z:Bool):TV×THp:=(xb z,[])
def VR (N:Nat) (a0:qb) (a1:qb):Tree (Bool):=
 .bind (qIu) fun r1=>
 .bind (Xj N a0) fun r2=>
 .bind (Xj N a1) fun r3=>
 .bind (Wr N a1) fun r4=>
 .bind (X8 N a0 a1) fun r5=>
 .bind (X6 N a0 a1) fun r6=>
 .cond (!r1) (
 .ret r1) <|
 .cond (!r2) (
 .ret r1) <|
 .cond (!r3) (
 .ret r1) <|
 .cond (!r4.2) (
 .ret r1) <|
 .cond (!decide (r5.2=0)) (
 .ret r1) <|
 .cond r6 (
 .ret r1) <|
 .bind (qfI N a0 r4.1) fun r7=>
 .bind (J3 N a1 r5.1 r7 a1 0) fun z8=>
 .sum z8 (fun z9=>
 .ret false) fun z9=>
 .bind (qf7 N z9.1 r5.1) fun r10=>
 .cond r10 (
 .bind (qf7 N r5.1 a1) fun r11=>
 .ret (eqE .b (decide (((r7.length:Nat):Int)=((0:Int)))) r11)) <|
 .ret false
def vv (N:Nat) (a0:qb) (a1:qb):Option (Bool):=(VR N a0 a1).run some
def qhy (N:Nat):List (Nat×qA):=[(12,Wz N)]
theorem qf4 (N:Nat):YM Tryz.prog ⟨4,[],[.x qh,.x qh],[],[]⟩ [qh,qh] (fun x=>VR N x.1 x.2.1) (fun _=>qhN):=
 Xm (H:=VT) (L:=qL (qhy N)) 0 qPS (Yv N) (qo (by kernel_rfl) ⟨qej N,trivial⟩) (rg0 (by kernel_rfl)) fun x=>by kernel_rfl
end Go.Rx
end
set_option maxRecDepth 100000
noncomputable section
namespace Go.Rx
open Go.Proofs
abbrev vW (q:Nat→Bool) (n:Nat):Bool:=qEu q n 0
theorem JC {q:Nat→Bool} {n:Nat}:vW q n=true↔∀ j,j < n→q j=true:=by
 unfold vW; rw [qDh]
 exact ⟨fun h j hj=>h j (Nat.zero_le _) (by omega),fun h j _ hj=>h j (by omega)⟩
theorem qKM {p q:Nat→Bool} {n:Nat} (h:Qo p n 0=none) (hq:∀ j,j < n→p j=!q j):vW q n=true:=
 JC.2 fun j hj=>by
  have:=qtU h j (Nat.zero_le _) (by omega)
  rw [hq j hj] at this; simpa using this
theorem qJ4 {p q:Nat→Bool} {n i:Nat} (h:Qo p n 0=some i) (hq:∀ j,j < n→p j=!q j):vW q n=false:=by
 obtain ⟨h1,_,h2,_⟩:=qlk h
 cases e:vW q n with
 | false=>rfl
 | true=>
  have:=JC.1 e i (by omega)
  rw [hq i (by omega),this] at h1; simp at h1
theorem X4 {α Y : Type} {B : Int → Tree (Int ⊕ (α ⊕ (Int × Bool)))} {g : α ⊕ (Int × Bool) → Option Y} {q : Nat → Bool} {n : Nat} {hit : α}
    (h1:∀ k,k < n→(B (k:Int)).run some=some (if q k then .inl ((k + 1:Nat):Int) else .inr (.inl hit))) (h2:(B (n:Int)).run some=some (.inr (.inr (((n:Nat):Int),false)))) {N:Nat} (hN:n < N) :
    qY B g N ((0:Nat):Int)=g (if vW q n then .inr (((n:Nat):Int),false) else .inl hit):=by
 rw [qj4 (p:=fun k=>!q k) (hit:=fun _=>.inl hit) (fin:=.inr (((n:Nat):Int),false)) (n:=n) (fun k hk=>by rw [h1 k hk]; cases q k<;>rfl) h2 N 0 (Nat.zero_le _) (by omega),Nat.sub_zero]
 cases e:Qo (fun k=>!q k) n 0 with
 | none=>rw [qKM e fun _ _=>rfl]; rfl
 | some i=>rw [qJ4 e fun _ _=>rfl]; rfl
class JA (N:Nat):Prop where
 h:100000≤N
theorem JA.of {N:Nat} (h:100000≤N):JA N:=⟨h⟩
theorem big (N:Nat) [JA N]:100000≤N:=JA.h
abbrev zSt:qd:=((0:Int),(0:Int))
abbrev zE:qn:=qn.mk 0 zSt 0 (Vector.replicate 32 0) []
abbrev zL:ql:=ql.mk (Vector.replicate 16 0) zSt []
def qQK (x:ql):Bool:=decide (x.F.length≤12)&&vW (fun k=>decide ((x.F.getD k zE).B.length≤40)) x.F.length
def qDw (m:qp):Bool:=decide (m.L.length≤14)&&vW (fun k=>qQK (m.L.getD k zL)) m.L.length
theorem qsm {k:Nat} (h:k≤1000000):qt ((k + 1:Nat):Int):=by unfold qt; omega
theorem qMr {c n:Nat}:decide (((c:Nat):Int) < ((n:Nat):Int))=!decide (n≤c):=by
 by_cases h:n≤c
 ·rw [decide_eq_true h,decide_eq_false (by omega)]; rfl
 ·rw [decide_eq_false h,decide_eq_true (by omega)]; rfl
section n
variable {N:Nat} [JA N]
def stB (a:qd):Bool:=decide (a=zSt)||(decide (0 < a.1)&&decide (a.1≤1099511627776)&&decide (0≤a.2)&&decide (a.2 < 8))
def slB (a b:qd):Bool:=decide (a.1 < b.1∨(a.1=b.1∧a.2 < b.2))
theorem qiD (a b:qd):eqE qi a b=decide (a=b):=Bool.eq_iff_iff.2 ((Zm qi a b).trans (decide_eq_true_iff (p:=(a:Int×Int)=b)).symm)
theorem qM0 (a b:Vector UInt8 16):eqE (.ba 16) a b=decide (a=b):=Bool.eq_iff_iff.2 ((Zm (.ba 16) a b).trans (decide_eq_true_iff (p:=(a:Vector UInt8 16)=b)).symm)
theorem qc1 (a:qd):VZ a=some (stB a):=by
 unfold VZ qlO
 have e:=qiD a (qd.mk 0 0)
 simp only [Tree.run,e]
 show (bif decide (a=zSt) then _ else _)=some (decide (a=zSt)||_)
 cases decide (a=zSt) with
 | true=>rfl
 | false=>
  show (bif decide (0 < a.1) then _ else _)=_
  cases decide (0 < a.1) with
  | false=>rfl
  | true=>
   show (bif decide (a.1≤1099511627776) then _ else _)=_
   cases decide (a.1≤1099511627776) with
   | false=>rfl
   | true=>
    show (bif decide (0≤a.2) then _ else _)=_
    cases decide (0≤a.2)<;>rfl
def sgn (a b:Int):Int:=if a < b then -1 else if b < a then 1 else 0
theorem qP_ (a b:Int):X0 a b=some (sgn a b):=by
 unfold X0 qbX qcu qdG
 simp only [Tree.run,Option.bind_some,decide_true,Bool.not_true,cond_false,sgn]
 by_cases h:a < b
 ·simp [h]
 ·by_cases h2:b < a
  ·simp [h,h2]
  ·simp [h,h2]
theorem qI2 (a b:Int):qdK N [a,b]=some (if a=0 then b else a):=by
 obtain ⟨n,rfl⟩:∃ n,N=n + 3:=⟨N - 3,by have:=big N; omega⟩
 have e:qgI (n + 3) [a,b] ((([a,b]:List Int).length:Nat):Int) 0=qY (ZM (n + 3) [a,b] 2) some (n + 3) 0:=rfl
 have r0:(ZM (n + 3) [a,b] 2 0).run some=if a=0 then some (.inl 1) else some (.inr (.inl a)):=by
  unfold ZM
  have g:zk [a,b] 0=some a:=rfl
  have c:qt ((0:Int) + 1):=by unfold qt; omega
  rw [qF,show decide ((0:Int) < 2)=true from rfl,cond_true,run_bind,g,Option.bind_some,qF,qS,qg c]
  by_cases h:a=0
  ·rw [if_pos h,decide_eq_true h]; rfl
  ·rw [if_neg h,decide_eq_false h]; rfl
 have r1:(ZM (n + 3) [a,b] 2 1).run some=if b=0 then some (.inl 2) else some (.inr (.inl b)):=by
  unfold ZM
  have g:zk [a,b] 1=some b:=rfl
  have c:qt ((1:Int) + 1):=by unfold qt; omega
  rw [qF,show decide ((1:Int) < 2)=true from rfl,cond_true,run_bind,g,Option.bind_some,qF,qS,qg c]
  by_cases h:b=0
  ·rw [if_pos h,decide_eq_true h]; rfl
  ·rw [if_neg h,decide_eq_false h]; rfl
 have r2:(ZM (n + 3) [a,b] 2 2).run some=some (.inr (.inr (2,false))):=rfl
 unfold qdK qig
 rw [run_bind,e]
 by_cases h:a=0
 ·rw [if_pos h] at r0
  rw [J1 r0,if_pos h]
  by_cases h2:b=0
  ·rw [if_pos h2] at r1
   rw [J1 r1,zV r2,h2]; rfl
  ·rw [if_neg h2] at r1
   rw [zV r1]; rfl
 ·rw [if_neg h] at r0
  rw [zV r0,if_neg h]; rfl
theorem qRv (a b:Int):sgn a b=-1∨sgn a b=0∨sgn a b=1:=by
 unfold sgn; split
 ·exact .inl rfl
 ·split
  ·exact .inr (.inr rfl)
  ·exact .inr (.inl rfl)
theorem V4 (a b:qd):j9 N a b=some (slB a b):=by
 obtain ⟨a1,a2⟩:=a
 obtain ⟨b1,b2⟩:=b
 unfold j9 qin
 simp only [Tree.run,qiD,qP_,Option.bind_some]
 by_cases h:((a1,a2):qd)=(b1,b2)
 ·cases h
  have:slB ((a1,a2):qd) (a1,a2)=false:=decide_eq_false (by simp only; omega)
  rw [this,decide_eq_true rfl]; rfl
 ·rw [decide_eq_false h]
  simp only [Bool.not_false,cond_true]
  show ((qdK N [sgn a1 b1,sgn a2 b2]).bind _)=_
  have hs:=qRv a2 b2
  by_cases h1:a1 < b1
  ·rw [show sgn a1 b1=-1 from if_pos h1,qI2,show slB ((a1,a2):qd) (b1,b2)=true from decide_eq_true (.inl h1)]; rfl
  ·by_cases h2:b1 < a1
   ·rw [show sgn a1 b1=1 by unfold sgn; rw [if_neg h1,if_pos h2],qI2,show slB ((a1,a2):qd) (b1,b2)=false from decide_eq_false (by simp only; omega)]; rfl
   ·have he:a1=b1:=by omega
    rw [show sgn a1 b1=0 by unfold sgn; rw [if_neg h1,if_neg h2],qI2,if_pos rfl,Option.bind_some]
    congr 1
    show decide (sgn a2 b2 < 0)=decide (a1 < b1∨(a1=b1∧a2 < b2))
    rw [decide_eq_decide]
    simp only [he,Int.lt_irrefl,false_or,true_and]
    unfold sgn
    split
    ·rename_i h3; simp [h3]
    ·rename_i h3
     split
     ·simp; omega
     ·simp; omega
end n
theorem qr_ {m:qp}:qDw m=true↔m.L.length≤14∧∀ k,k < m.L.length→(m.L.getD k zL).F.length≤12∧∀ j,j < (m.L.getD k zL).F.length→((m.L.getD k zL).F.getD j zE).B.length≤40:=by
 unfold qDw
 rw [Bool.and_eq_true,decide_eq_true_iff,JC]
 refine and_congr Iff.rfl (forall_congr' fun k=>imp_congr_right fun _=>?_)
 unfold qQK
 rw [Bool.and_eq_true,decide_eq_true_iff,JC]
 exact and_congr Iff.rfl (forall_congr' fun j=>imp_congr_right fun _=>decide_eq_true_iff)
end Go.Rx
end
set_option maxRecDepth 100000
noncomputable section
namespace Go.Rx
open Go.Proofs
def blk (n:Int):Int:=if n < 24 then 0 else n.tdiv 8
def qEx (e:qn) (dead:qd):Bool:=
 decide (0≤e.No)&&(decide (e.No < 8)&&(decide (0≤e.Len)&&(decide (e.Len≤200)&&(decide (((e.B.length:Nat):Int)=blk e.Len)&&(stB e.S&&slB dead e.S)))))
def qu_ (l:List qn) (dead:qd) (k:Nat):Bool:=qEx (l.getD k zE) dead&&(decide (k=0)||!decide ((l.getD k zE).No≤(l.getD (k - 1) zE).No))
def qhw (x:ql):Bool:=vW (qu_ x.F x.qB) x.F.length&&(stB x.qB&&(decide (0 < x.F.length)||!decide (x.qB=zSt)))
def lbB (a b:Vector UInt8 16):Bool:=!decide (a=b)&&decide (Go.Lib.compareBytes a.toList b.toList < 0)
def qw6 (l:List ql) (k:Nat):Bool:=qhw (l.getD k zL)&&(decide (k=0)||lbB (l.getD (k - 1) zL).ID (l.getD k zL).ID)
def qyK (m:qp):Bool:=vW (qw6 m.L) m.L.length&&decide (m.L.length≤10)
theorem qPY {a b:Bool}:(bif a then some b else some false)=some (a&&b):=by cases a<;>rfl
theorem qJC {n:Int} (h:n≤200) (h0:0≤n):K5 n=some (blk n):=by
 unfold K5 qbZ blk
 by_cases h1:n < 24
 ·simp only [Tree.run,decide_eq_true h1,cond_true,if_pos h1]
 ·have e:n.tdiv 8≤n:=by rw [Int.tdiv_eq_ediv_of_nonneg h0]; omega
  have e0:0≤n.tdiv 8:=by rw [Int.tdiv_eq_ediv_of_nonneg h0]; omega
  have h64:qt (n.tdiv 8):=by unfold qt; omega
  simp only [Tree.run,decide_eq_false h1,cond_false,if_neg h1,qg h64]
  exact qg (by decide)
section n
variable {N:Nat} [JA N]
theorem qOg (e:qn) (dead:qd):qbc N e dead=some (qEx e dead):=by
 unfold qbc qcP qEx
 simp only [Tree.run]
 by_cases h1:0≤e.No
 ·rw [decide_eq_true h1]
  by_cases h2:e.No < 8
  ·rw [decide_eq_true h2]
   by_cases h3:0≤e.Len
   ·rw [decide_eq_true h3]
    by_cases h4:e.Len≤200
    ·rw [decide_eq_true h4,qJC h4 h3]
     simp only [cond_true,Option.bind_some,qc1,V4,Bool.true_and]
     cases decide (((e.B.length:Nat):Int)=blk e.Len) with
     | false=>rfl
     | true=>exact qPY
    ·rw [decide_eq_false h4]; rfl
   ·rw [decide_eq_false h3]; rfl
  ·rw [decide_eq_false h2]; rfl
 ·rw [decide_eq_false h1]; rfl
theorem qns {k:Nat} (h:0 < k):(k:Int) - 1=((k - 1:Nat):Int):=by omega
theorem qsj {k:Nat}:decide ((0:Int) < (k:Int))=!decide (k=0):=by
 by_cases h:k=0
 ·subst h; rfl
 ·rw [decide_eq_false h,decide_eq_true (by omega)]; rfl
theorem qPT {x : ql} (h : x.F.length ≤ 600) :
    qcR N x x.F ((x.F.length:Nat):Int) 0=some (if vW (qu_ x.F x.qB) x.F.length then .inr (((x.F.length:Nat):Int),false) else .inl ()):=by
 refine X4 (B:=XX N x x.F ((x.F.length:Nat):Int)) (g:=some) (q:=qu_ x.F x.qB) (fun k hk=>?_) ?_ (by have:=big N; omega)
 ·unfold XX
  have h64:qt ((k + 1:Nat):Int):=qsm (by omega)
  simp only [Tree.run,dec_lt hk,cond_true,zY (d:=zE) hk,Option.bind_some,zd,qg h64,qOg,qsj]
  unfold qu_
  cases qEx (x.F.getD k zE) x.qB with
  | false=>rfl
  | true=>
   by_cases h0:k=0
   ·subst h0; rfl
   ·have hp:qt ((k - 1:Nat):Int):=by unfold qt; omega
    have hk1:k - 1 < x.F.length:=by omega
    simp only [decide_eq_false h0,Bool.not_true,Bool.not_false,cond_true,cond_false,qg hp,qns (Nat.pos_of_ne_zero h0),zY (d:=zE) hk1,Option.bind_some,Bool.false_or,Bool.true_and]
    cases decide ((x.F.getD k zE).No≤(x.F.getD (k - 1) zE).No)<;>rfl
 ·unfold XX
  simp only [Tree.run,zp (Nat.lt_irrefl _),cond_false]
theorem qPb {x:ql} (h:x.F.length≤600):qcM N x=some (qhw x):=by
 unfold qcM qew qhw
 simp only [Tree.run,qPT h,Option.bind_some]
 cases vW (qu_ x.F x.qB) x.F.length with
 | false=>rfl
 | true=>
  simp only [reduceIte,Tree.run,qc1,Option.bind_some,qsj,qiD,Bool.true_and]
  have e:eqE qi x.qB (qd.mk 0 0)=decide (x.qB=zSt):=qiD x.qB (qd.mk 0 0)
  have e2:decide (0 < x.F.length)=!decide (x.F.length=0):=by
   by_cases h:x.F.length=0
   ·rw [decide_eq_true h,decide_eq_false (by omega)]; rfl
   ·rw [decide_eq_false h,decide_eq_true (by omega)]; rfl
  cases stB x.qB with
  | false=>rfl
  | true=>
   rw [e2]
   cases decide (x.F.length=0)<;>rfl
theorem qES (a b:Vector UInt8 16):qfQ a b=some (lbB a b):=by
 unfold qfQ qlG Kr qdE qMz lbB
 simp only [Tree.run,Option.bind_some,qM0]
 cases decide (a=b)<;>rfl
theorem qQt {m : qp} (h : m.L.length ≤ 600) (hF : ∀ k, k < m.L.length → (m.L.getD k zL).F.length ≤ 600) :
    qdT N m m.L ((m.L.length:Nat):Int) 0=some (if vW (qw6 m.L) m.L.length then .inr (((m.L.length:Nat):Int),false) else .inl ()):=by
 refine X4 (B:=WI N m m.L ((m.L.length:Nat):Int)) (g:=some) (q:=qw6 m.L) (fun k hk=>?_) ?_ (by have:=big N; omega)
 ·unfold WI
  have h64:qt ((k + 1:Nat):Int):=qsm (by omega)
  simp only [Tree.run,dec_lt hk,cond_true,zY (d:=zL) hk,Option.bind_some,zd,qg h64,qPb (hF k hk),qsj]
  unfold qw6
  cases qhw (m.L.getD k zL) with
  | false=>rfl
  | true=>
   by_cases h0:k=0
   ·subst h0; rfl
   ·have hp:qt ((k - 1:Nat):Int):=by unfold qt; omega
    have hk1:k - 1 < m.L.length:=by omega
    simp only [decide_eq_false h0,Bool.not_true,Bool.not_false,cond_true,cond_false,qg hp,qns (Nat.pos_of_ne_zero h0),zY (d:=zL) hk1,Option.bind_some,Bool.false_or,Bool.true_and,qES]
    cases lbB (m.L.getD (k - 1) zL).ID (m.L.getD k zL).ID<;>rfl
 ·unfold WI
  simp only [Tree.run,zp (Nat.lt_irrefl _),cond_false]
theorem qQa {m:qp} (h:m.L.length≤600) (hF:∀ k,k < m.L.length→(m.L.getD k zL).F.length≤600):qdD N m=some (qyK m):=by
 unfold qdD qeZ qyK
 simp only [Tree.run,qQt h hF,Option.bind_some]
 cases vW (qw6 m.L) m.L.length with
 | false=>rfl
 | true=>
  simp only [reduceIte,Tree.run,Bool.true_and]
  congr 1
  rw [decide_eq_decide]; omega
end n
theorem qOA {m:qp}:qyK m=true↔(∀ k,k < m.L.length→qhw (m.L.getD k zL)=true∧(k=0∨lbB (m.L.getD (k - 1) zL).ID (m.L.getD k zL).ID=true))∧m.L.length≤10:=by
 unfold qyK
 rw [Bool.and_eq_true,decide_eq_true_iff,JC]
 refine and_congr (forall_congr' fun k=>imp_congr_right fun _=>?_) Iff.rfl
 show (qhw (m.L.getD k zL)&&(decide (k=0)||lbB (m.L.getD (k - 1) zL).ID (m.L.getD k zL).ID))=true↔_
 rw [Bool.and_eq_true,Bool.or_eq_true,decide_eq_true_iff]
theorem qcS (a:Vector UInt8 16):lbB a a=false:=by unfold lbB; rw [decide_eq_true rfl]; rfl
theorem qJV {x:ql}:qhw x=true↔(∀ k,k < x.F.length→qu_ x.F x.qB k=true)∧stB x.qB=true∧(0 < x.F.length∨x.qB≠zSt):=by
 unfold qhw
 rw [Bool.and_eq_true,Bool.and_eq_true,Bool.or_eq_true,JC,decide_eq_true_iff,Bool.not_eq_true',decide_eq_false_iff_not]
end Go.Rx
end
set_option maxRecDepth 100000
noncomputable section
namespace Go.Rx
abbrev c32 (x:UInt32):Int:=((x.toNat:Nat):Int)
theorem qOl (x:UInt32):x.toNat < 4294967296:=x.toNat_lt
theorem qoj (n:Nat):IntKind.u32.wrap ((n:Nat):Int)=((n % 4294967296:Nat):Int):=by rw [IntKind.wrap_u32']; omega
theorem qdo (x:UInt32):BitVec.ofInt 32 (c32 x)=x.toBitVec:=by
 apply BitVec.eq_of_toNat_eq
 rw [ofInt_u32 _ (qOl x)]
 rfl
theorem quD (x:UInt32):IntKind.u32.wrap ((x.toNat:Nat):Int)=c32 x:=by rw [qoj,Nat.mod_eq_of_lt (qOl x)]
theorem qIj (x y:UInt32):Wv .u32 (c32 x) (c32 y)=c32 (x + y):=by
 unfold Wv
 show IntKind.u32.wrap (((x.toNat:Nat):Int) + ((y.toNat:Nat):Int))=_
 rw [← Int.natCast_add,qoj,c32,UInt32.toNat_add]
theorem qHU (x y:UInt32):qc2 .u32 (c32 x) (c32 y)=c32 (x ^^^ y):=by
 unfold qc2
 rw [show IntKind.u32.bits=32 from rfl,qdo,qdo]
 exact quD (x ^^^ y)
theorem qQ6 (x y:UInt32):qiF .u32 (c32 x) (c32 y)=c32 (x &&& y):=by
 unfold qiF
 rw [show IntKind.u32.bits=32 from rfl,qdo,qdo]
 exact quD (x &&& y)
theorem qQA (x y:UInt32):uOr .u32 (c32 x) (c32 y)=c32 (x ||| y):=by
 unfold uOr
 rw [show IntKind.u32.bits=32 from rfl,qdo,qdo]
 exact quD (x ||| y)
theorem qRd (x:UInt32):qc2 .u32 4294967295 (c32 x)=c32 (~~~x):=by
 have h:(4294967295:Int)=c32 4294967295:=rfl
 rw [h,qHU]
 congr 2
theorem qB6 (x:UInt32) (n:Nat) (h:n < 32):qes .u32 (c32 x) n=c32 (x <<< UInt32.ofNat n):=by
 unfold qes
 rw [show c32 x * 2 ^ n=((x.toNat * 2 ^ n:Nat):Int) by push_cast; rfl,qoj,c32,UInt32.toNat_shiftLeft,UInt32.toNat_ofNat_of_lt' (show n < UInt32.size by unfold UInt32.size; omega),Nat.mod_eq_of_lt h,Nat.shiftLeft_eq]
theorem qB3 (x:UInt32) (n:Nat) (h:n < 32):Q1 (c32 x) n=c32 (x >>> UInt32.ofNat n):=by
 unfold Q1
 rw [show ((2:Int) ^ n)=((2 ^ n:Nat):Int) by push_cast; rfl,Int.fdiv_eq_ediv_of_nonneg _ (Int.natCast_nonneg _),c32,← Int.natCast_ediv,c32,UInt32.toNat_shiftRight,UInt32.toNat_ofNat_of_lt' (show n < UInt32.size by unfold UInt32.size; omega),Nat.mod_eq_of_lt h,Nat.shiftRight_eq_div_pow]
theorem qBV (x:UInt32):inW (c32 x):=⟨Int.natCast_nonneg _,by have:=qOl x; show ((x.toNat:Nat):Int) < _; omega⟩
def rot (x:UInt32) (n:Nat):UInt32:=(x <<< UInt32.ofNat (32 - n)) ||| (x >>> UInt32.ofNat n)
end Go.Rx
end
