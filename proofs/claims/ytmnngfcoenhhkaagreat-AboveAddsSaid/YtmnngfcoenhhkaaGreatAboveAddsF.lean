/- A part of the proof of AboveAdds: the law returns true for every input, and its arguments read as before. No condition. -/
import Derived.Test.YtmnngfcoenhhkaaGreatProg
import Derived.Laws.BitsAllLaws
import Derived.Test.YtmnngfcoenhhkaaGreatComE
set_option linter.unusedSimpArgs false
set_option linter.unusedVariables false
set_option linter.unusedSectionVars false
noncomputable section
namespace Go.Rx
theorem XF {α R:Type} (n:α→Option R):∀ t:Tree α,t.run n=(t.run some).bind n
 | .ret a=>rfl
 | .no=>rfl
 | .cond b s t=>by
  simp only [Tree.run]
  cases b
  ·exact XF n t
  ·exact XF n s
 | @Tree.chk _ p d t=>by
  simp only [Tree.run,chk]
  split
  ·exact XF n t
  ·rfl
 | .bind o k=>by
  simp only [Tree.run]
  cases o with
  | none=>rfl
  | some x=>exact XF n (k x)
 | .opt o s k=>by
  simp only [Tree.run]
  cases o with
  | none=>exact XF n s
  | some x=>exact XF n (k x)
 | .sum x f g=>by
  cases x with
  | inl a=>exact XF n (f a)
  | inr b=>exact XF n (g b)
section r
variable {α R:Type} {n:α→Option R}
theorem qP {a:α}:(Tree.ret a).run n=n a:=rfl
theorem qE {b:Bool} {s t:Tree α}:(Tree.cond b s t).run n=bif b then s.run n else t.run n:=rfl
theorem zr {p:Prop} [Decidable p] {t:Tree α}:(Tree.chk p t).run n=chk p (t.run n):=rfl
theorem run_bind {β:Type} {o:Option β} {k:β→Tree α}:(Tree.bind o k).run n=o.bind fun x=>(k x).run n:=rfl
theorem qCt {β γ:Type} {x:γ} {f:β→Tree α} {g:γ→Tree α}:(Tree.sum (.inr x) f g).run n=(g x).run n:=rfl
end r
theorem JF {V W Y:Type} {B:V→Tree (V⊕W)} {g:W→Option Y} {v v':V} (h:(B v).run some=some (.inl v')) (N:Nat):qY B g (N + 1) v=qY B g N v':=by
 simp only [qY]
 rw [XF,h]; rfl
theorem zK {V W Y:Type} {B:V→Tree (V⊕W)} {g:W→Option Y} {v:V} {x:W} (h:(B v).run some=some (.inr x)) (N:Nat):qY B g (N + 1) v=g x:=by
 simp only [qY]
 rw [XF,h]; rfl
theorem qgF {V W Y : Type} {B : V → Tree (V ⊕ W)} {g : W → Option Y} {I : V → Prop} {Q : Y → Prop} (m : V → Nat)
    (h:∀ v,I v→(∃ v',(B v).run some=some (.inl v')∧I v'∧m v' < m v)∨∃ x y,(B v).run some=some (.inr x)∧g x=some y∧Q y) :
    ∀ (N:Nat) (v:V),I v→m v < N→∃ y,qY B g N v=some y∧Q y
 | 0,v,_,hm=>by omega
 | N + 1,v,hi,hm=>by
  rcases h v hi with ⟨v',h1,h2,h3⟩ | ⟨x,y,h1,h2,h3⟩
  ·rw [JF h1]
   exact qgF m h N v' h2 (by omega)
  ·rw [zK h1]
   exact ⟨y,h2,h3⟩
theorem qjB {W Y : Type} {B : Int → Tree (Int ⊕ W)} {g : W → Option Y} {p : Nat → Bool} {n : Nat} {hit : Nat → W} {fin : W}
    (h1:∀ k,k < n→(B (k:Int)).run some=some (if p k then .inr (hit k) else .inl ((k + 1:Nat):Int))) (h2:(B (n:Int)).run some=some (.inr fin)) :
    ∀ (N k:Nat),k≤n→n < N + k→qY B g N (k:Int)=g (match ZM p (n - k) k with | some j=>hit j | none=>fin)
 | 0,k,hk,hN=>by omega
 | N + 1,k,hk,hN=>by
  by_cases e:k=n
  ·subst e
   rw [zK h2,Nat.sub_self]; rfl
  ·obtain ⟨m,hm⟩:∃ m,n - k=m + 1:=⟨n - k - 1,by omega⟩
   have h3:=h1 k (by omega)
   rw [hm]
   unfold ZM
   cases hp:p k with
   | true=>
    rw [hp,if_pos rfl] at h3
    rw [zK h3,if_pos rfl]
   | false=>
    rw [hp,if_neg (by simp)] at h3
    rw [JF h3,qjB h1 h2 N (k + 1) (by omega) (by omega),if_neg (by simp),show n - (k + 1)=m by omega]
def JG {σ:Type} (f:Nat→σ→σ):Nat→Nat→σ→σ
 | 0,_,s=>s
 | m + 1,k,s=>JG f m (k + 1) (f k s)
theorem Zi {σ W Y : Type} {V : Type} {B : V → Tree (V ⊕ W)} {g : W → Option Y} {at_ : Nat → σ → V} {I : Nat → σ → Prop} {f : Nat → σ → σ} {n : Nat} {fin : σ → W}
    (h1:∀ k s,k < n→I k s→(B (at_ k s)).run some=some (.inl (at_ (k + 1) (f k s)))∧I (k + 1) (f k s)) (h2:∀ s,I n s→(B (at_ n s)).run some=some (.inr (fin s))) :
    ∀ (N k:Nat) (s:σ),I k s→k≤n→n < N + k→qY B g N (at_ k s)=g (fin (JG f (n - k) k s))
 | 0,k,s,_,hk,hN=>by omega
 | N + 1,k,s,hi,hk,hN=>by
  by_cases e:k=n
  ·subst e
   rw [zK (h2 s hi),Nat.sub_self]; rfl
  ·obtain ⟨m,hm⟩:∃ m,n - k=m + 1:=⟨n - k - 1,by omega⟩
   obtain ⟨h3,h4⟩:=h1 k s (by omega) hi
   rw [JF h3,Zi h1 h2 N (k + 1) _ h4 (by omega) (by omega),hm,show n - (k + 1)=m by omega]
   rfl
theorem qEl {α:Type} {l:List α} {k n:Nat} {d:α} (hn:l.length=n) (h:k < l.length):Yl l n k=some (l.getD k d):=by
 unfold Yl; rw [if_pos hn,List.getElem?_eq_getElem h]; simp [List.getD,List.getElem?_eq_getElem h]
theorem qj {α:Type} {p:Prop} [Decidable p] {x:Option α} (h:p):chk p x=x:=if_pos h
theorem qyc {Z:Type} (o:Option Z):jF [] o=o:=rfl
theorem jo {Z:Type} {a b:Nat} {ps:List (Nat×Nat)} {o:Option Z} (h:a=b):jF ((a,b)::ps) o=jF ps o:=if_pos h
end Go.Rx
end
noncomputable section
namespace Go.Rx
def ql:Ty:=.ag [.i .i64,.i .i64]
abbrev qd:=Int×Int
def qd.N (x:qd):Int:=x.1
def qd.Rep (x:qd):Int:=x.2
def qd.mk (x0:Int) (x1:Int):qd:=(x0,x1)
instance qd.dec:DecidableEq qd:=JX ql
def qm:Ty:=.ag [ql,.s]
abbrev qc:=qd×List UInt8
def qc.S (x:qc):qd:=x.1
def qc.V (x:qc):List UInt8:=x.2
def qc.mk (x0:qd) (x1:List UInt8):qc:=(x0,x1)
instance qc.dec:DecidableEq qc:=JX qm
def qq:Ty:=.ag [.i .i64,qm]
abbrev qb:=Int×qc
def qb.No (x:qb):Int:=x.1
def qb.C (x:qb):qc:=x.2
def qb.mk (x0:Int) (x1:qc):qb:=(x0,x1)
instance qb.dec:DecidableEq qb:=JX qq
def qf:Ty:=.ag [.ba 16,ql,.sl 4 qq]
abbrev qa:=Vector UInt8 16×qd×List qb
def qa.ID (x:qa):Vector UInt8 16:=x.1
def qa.qQ (x:qa):qd:=x.2.1
def qa.F (x:qa):List qb:=x.2.2
def qa.mk (x0:Vector UInt8 16) (x1:qd) (x2:List qb):qa:=(x0,x1,x2)
instance qa.dec:DecidableEq qa:=JX qf
def qL:Ty:=.ag [.sl 19 qf]
abbrev qe:=List qa
def qe.R (x:qe):List qa:=x
def qe.mk (x0:List qa):qe:=(x0)
instance qe.dec:DecidableEq qe:=JX qL
end Go.Rx
end
set_option maxRecDepth 100000
noncomputable section
namespace Go.Rx
open Go.Proofs
theorem qo:Tryz.prog.follows .mixedOrders=true:=by kernel_rfl
noncomputable instance qE8:CT:=⟨ctF Tryz.prog⟩
def qzB:Ent:=qD8 128
theorem qCN:zl Tryz.prog qzB:=qDz (fn:=Tryz.f128) (by kernel_rfl) (by kernel_rfl) (by kernel_rfl) (by kernel_rfl) (by kernel_rfl)
noncomputable def qyN:Code:=Tryz.f111.body.getD .skip
theorem qjq:FnF Tryz.prog 111 Tryz.f111 qyN:=⟨qo,by kernel_rfl,by kernel_rfl,by kernel_rfl⟩
def qqE:TH:={ live:=[(0,[0]),(1,[0,4]),(2,[2]),(3,[2])],vecs:=[5],esc:=true }
def qrg (N:Nat):List Ent:=[]
theorem qnd (N:Nat):qU Tryz.prog (qrg N):=trivial
def qhF (a0:List UInt8) (z:Unit):TV×THp:=(.v 100050 (((([]:List UInt8))++a0).length),[(100050,.vec false 1 .bl ((([]:List UInt8))++a0:List UInt8))])
def qbZ (a0:List UInt8):Tree (Unit):=
 .chk (List.isEmpty a0=false) <|
 .chk (JV ((([]:List UInt8)).length) 0 (((([]:List UInt8))++a0).length) 1) <|
 .ret ()
def qeS (a0:List UInt8):Option (Unit):=(qbZ a0).run some
def qrf:List (Nat×qM):=[]
theorem qm4:qcv Tryz.prog ⟨111,[],[.x .bl],[],[]⟩ [.bl] (fun x=>qbZ x.1) (fun x=>qhF x.1):=
 qal (H:=qqE) (L:=qR (qrf)) 0 qjq (qnd 0) (qy (by kernel_rfl) trivial) (rg0 (by kernel_rfl)) fun x=>by kernel_rfl
def qof:TH:={ live:=[(0,[0]),(1,[0,4]),(2,[2]),(3,[2])],vecs:=[5],esc:=true }
def qnt (N:Nat):List Ent:=[]
theorem qkB (N:Nat):qU Tryz.prog (qnt N):=trivial
def qmR (z:Unit):TV×THp:=(.v 100050 0,[(100050,.vec false 1 .bl ([]:List UInt8))])
def qd0:Tree (Unit):=
 .chk (0=0) <|
 .ret ()
def qq7:Option (Unit):=(qd0).run some
def qm2:List (Nat×qM):=[]
theorem qkF:qcv Tryz.prog ⟨111,[],[.k (.es 0)],[],[]⟩ [] (fun x=>qd0) (fun _=>qmR):=
 qal (H:=qof) (L:=qR (qm2)) 0 qjq (qkB 0) (qy (by kernel_rfl) trivial) (rg0 (by kernel_rfl)) fun x=>by kernel_rfl
def qoi:TH:={ live:=[(0,[0]),(1,[0,4]),(2,[2]),(3,[2])],vecs:=[5],esc:=true }
def qm7 (N:Nat):List Ent:=[]
theorem qkK (N:Nat):qU Tryz.prog (qm7 N):=trivial
def qnE (z:Unit):TV×THp:=(.nils,[])
def qd8:Tree (Unit):=
 .ret ()
def qq6:Option (Unit):=(qd8).run some
def qmV:List (Nat×qM):=[]
theorem qkw:qcv Tryz.prog ⟨111,[],[.k (.es 1)],[],[]⟩ [] (fun x=>qd8) (fun _=>qnE):=
 qal (H:=qoi) (L:=qR (qmV)) 0 qjq (qkK 0) (qy (by kernel_rfl) trivial) (rg0 (by kernel_rfl)) fun x=>by kernel_rfl
def qej (z:Unit):Unit:=()
def qn9 (z:Unit):Unit:=()
def Vy (a0:List UInt8):Option (Unit):=
 bif a0.isEmpty then
  (qq7).bind fun z0=>(qq6).bind fun z1=>chk (qej z0=qn9 z1) (some (qej z0))
 else qeS a0
def qfC:Ent:=smF ⟨111,[],[.x .bl],[],[]⟩ [.bl] (Unit) (fun x=>Vy x.1) cs1 fun x=>qhF x.1
theorem qnA:zl Tryz.prog (qfC):=qfv fun x z h l=>by
 obtain ⟨a0,_⟩:=x
 replace h:Vy a0=some z:=h
 unfold Vy at h
 rcases qiy h with ⟨e,h2⟩ | ⟨_,h2⟩<;>clear h
 ·have e:=List.isEmpty_iff.1 e
  subst e
  obtain ⟨z0,c0,h2⟩:=bind_some h2
  obtain ⟨z1,c1,h2⟩:=bind_some h2
  obtain ⟨hE,h2⟩:=qhf h2
  obtain rfl:=Option.some.inj h2
  refine qi6 (t:=.bl) (x:=[]) rfl (TV.ers []) (TV.ers []) (by exact qkF (()) _ c0 l) ?_
  rw [hE]
  exact (qC0 (n:=100050) (sz:=1) (x:=qv .bl ([]:List UInt8)) rfl (by kernel_rfl) (by kernel_rfl) (qkw (()) _ c1 l))
 ·exact qm4 (a0,()) z h2 l
noncomputable def qyY:Code:=Tryz.f112.body.getD .skip
theorem qzg:FnF Tryz.prog 112 Tryz.f112 qyY:=⟨qo,by kernel_rfl,by kernel_rfl,by kernel_rfl⟩
def quO:TH:={ live:=[(0,[0]),(1,[0])] }
def quh (N:Nat):List Ent:=[]
theorem qrr (N:Nat):qU Tryz.prog (quh N):=trivial
def qup (z:Unit):TV×THp:=(.tv (.wa 8) ((((((((((Vector.replicate 8 0)).setIfInBounds 0 ((UInt32.ofNat 1779033703))).setIfInBounds 1 ((UInt32.ofNat 3144134277))).setIfInBounds 2 ((UInt32.ofNat 1013904242))).setIfInBounds 3 ((UInt32.ofNat 2773480762))).setIfInBounds 4 ((UInt32.ofNat 1359893119))).setIfInBounds 5 ((UInt32.ofNat 2600822924))).setIfInBounds 6 ((UInt32.ofNat 528734635))).setIfInBounds 7 ((UInt32.ofNat 1541459225)):Vector UInt32 8),[])
def qk9:Tree (Unit):=
 .chk (0 < 8) <|
 .chk (1 < 8) <|
 .chk (2 < 8) <|
 .chk (3 < 8) <|
 .chk (4 < 8) <|
 .chk (5 < 8) <|
 .chk (6 < 8) <|
 .chk (7 < 8) <|
 .ret ()
def qjk:Option (Unit):=(qk9).run some
def quE:List (Nat×qM):=[]
def qk5:Ent:=smF ⟨112,[],[],[],[]⟩ [] (Unit) (fun x=>qjk) cs1 fun _=>qup
theorem qte:zl Tryz.prog (qk5):=
 zo (H:=quO) (L:=qR (quE)) (ts:=[]) (T:=fun x=>qk9) 0 qzg (qrr 0) (qy (by kernel_rfl) trivial) (rg0 (by kernel_rfl)) fun x=>by kernel_rfl
noncomputable def qyv:Code:=Tryz.f113.body.getD .skip
theorem qzn:FnF Tryz.prog 113 Tryz.f113 qyv:=⟨qo,by kernel_rfl,by kernel_rfl,by kernel_rfl⟩
def qu_:TH:={ live:=[(0,[0]),(1,[0])] }
def quJ (N:Nat):List Ent:=[]
theorem qqT (N:Nat):qU Tryz.prog (quJ N):=trivial
def qvh (z:Unit):TV×THp:=(.tv (.wa 64) ((((((((((((((((((((((((((((((((((((((((((((((((((((((((((((((((((Vector.replicate 64 0)).setIfInBounds 0 ((UInt32.ofNat 1116352408))).setIfInBounds 1 ((UInt32.ofNat 1899447441))).setIfInBounds 2 ((UInt32.ofNat 3049323471))).setIfInBounds 3 ((UInt32.ofNat 3921009573))).setIfInBounds 4 ((UInt32.ofNat 961987163))).setIfInBounds 5 ((UInt32.ofNat 1508970993))).setIfInBounds 6 ((UInt32.ofNat 2453635748))).setIfInBounds 7 ((UInt32.ofNat 2870763221))).setIfInBounds 8 ((UInt32.ofNat 3624381080))).setIfInBounds 9 ((UInt32.ofNat 310598401))).setIfInBounds 10 ((UInt32.ofNat 607225278))).setIfInBounds 11 ((UInt32.ofNat 1426881987))).setIfInBounds 12 ((UInt32.ofNat 1925078388))).setIfInBounds 13 ((UInt32.ofNat 2162078206))).setIfInBounds 14 ((UInt32.ofNat 2614888103))).setIfInBounds 15 ((UInt32.ofNat 3248222580))).setIfInBounds 16 ((UInt32.ofNat 3835390401))).setIfInBounds 17 ((UInt32.ofNat 4022224774))).setIfInBounds 18 ((UInt32.ofNat 264347078))).setIfInBounds 19 ((UInt32.ofNat 604807628))).setIfInBounds 20 ((UInt32.ofNat 770255983))).setIfInBounds 21 ((UInt32.ofNat 1249150122))).setIfInBounds 22 ((UInt32.ofNat 1555081692))).setIfInBounds 23 ((UInt32.ofNat 1996064986))).setIfInBounds 24 ((UInt32.ofNat 2554220882))).setIfInBounds 25 ((UInt32.ofNat 2821834349))).setIfInBounds 26 ((UInt32.ofNat 2952996808))).setIfInBounds 27 ((UInt32.ofNat 3210313671))).setIfInBounds 28 ((UInt32.ofNat 3336571891))).setIfInBounds 29 ((UInt32.ofNat 3584528711))).setIfInBounds 30 ((UInt32.ofNat 113926993))).setIfInBounds 31 ((UInt32.ofNat 338241895))).setIfInBounds 32 ((UInt32.ofNat 666307205))).setIfInBounds 33 ((UInt32.ofNat 773529912))).setIfInBounds 34 ((UInt32.ofNat 1294757372))).setIfInBounds 35 ((UInt32.ofNat 1396182291))).setIfInBounds 36 ((UInt32.ofNat 1695183700))).setIfInBounds 37 ((UInt32.ofNat 1986661051))).setIfInBounds 38 ((UInt32.ofNat 2177026350))).setIfInBounds 39 ((UInt32.ofNat 2456956037))).setIfInBounds 40 ((UInt32.ofNat 2730485921))).setIfInBounds 41 ((UInt32.ofNat 2820302411))).setIfInBounds 42 ((UInt32.ofNat 3259730800))).setIfInBounds 43 ((UInt32.ofNat 3345764771))).setIfInBounds 44 ((UInt32.ofNat 3516065817))).setIfInBounds 45 ((UInt32.ofNat 3600352804))).setIfInBounds 46 ((UInt32.ofNat 4094571909))).setIfInBounds 47 ((UInt32.ofNat 275423344))).setIfInBounds 48 ((UInt32.ofNat 430227734))).setIfInBounds 49 ((UInt32.ofNat 506948616))).setIfInBounds 50 ((UInt32.ofNat 659060556))).setIfInBounds 51 ((UInt32.ofNat 883997877))).setIfInBounds 52 ((UInt32.ofNat 958139571))).setIfInBounds 53 ((UInt32.ofNat 1322822218))).setIfInBounds 54 ((UInt32.ofNat 1537002063))).setIfInBounds 55 ((UInt32.ofNat 1747873779))).setIfInBounds 56 ((UInt32.ofNat 1955562222))).setIfInBounds 57 ((UInt32.ofNat 2024104815))).setIfInBounds 58 ((UInt32.ofNat 2227730452))).setIfInBounds 59 ((UInt32.ofNat 2361852424))).setIfInBounds 60 ((UInt32.ofNat 2428436474))).setIfInBounds 61 ((UInt32.ofNat 2756734187))).setIfInBounds 62 ((UInt32.ofNat 3204031479))).setIfInBounds 63 ((UInt32.ofNat 3329325298)):Vector UInt32 64),[])
def qlv:Tree (Unit):=
 .chk (0 < 64) <|
 .chk (1 < 64) <|
 .chk (2 < 64) <|
 .chk (3 < 64) <|
 .chk (4 < 64) <|
 .chk (5 < 64) <|
 .chk (6 < 64) <|
 .chk (7 < 64) <|
 .chk (8 < 64) <|
 .chk (9 < 64) <|
 .chk (10 < 64) <|
 .chk (11 < 64) <|
 .chk (12 < 64) <|
 .chk (13 < 64) <|
 .chk (14 < 64) <|
 .chk (15 < 64) <|
 .chk (16 < 64) <|
 .chk (17 < 64) <|
 .chk (18 < 64) <|
 .chk (19 < 64) <|
 .chk (20 < 64) <|
 .chk (21 < 64) <|
 .chk (22 < 64) <|
 .chk (23 < 64) <|
 .chk (24 < 64) <|
 .chk (25 < 64) <|
 .chk (26 < 64) <|
 .chk (27 < 64) <|
 .chk (28 < 64) <|
 .chk (29 < 64) <|
 .chk (30 < 64) <|
 .chk (31 < 64) <|
 .chk (32 < 64) <|
 .chk (33 < 64) <|
 .chk (34 < 64) <|
 .chk (35 < 64) <|
 .chk (36 < 64) <|
 .chk (37 < 64) <|
 .chk (38 < 64) <|
 .chk (39 < 64) <|
 .chk (40 < 64) <|
 .chk (41 < 64) <|
 .chk (42 < 64) <|
 .chk (43 < 64) <|
 .chk (44 < 64) <|
 .chk (45 < 64) <|
 .chk (46 < 64) <|
 .chk (47 < 64) <|
 .chk (48 < 64) <|
 .chk (49 < 64) <|
 .chk (50 < 64) <|
 .chk (51 < 64) <|
 .chk (52 < 64) <|
 .chk (53 < 64) <|
 .chk (54 < 64) <|
 .chk (55 < 64) <|
 .chk (56 < 64) <|
 .chk (57 < 64) <|
 .chk (58 < 64) <|
 .chk (59 < 64) <|
 .chk (60 < 64) <|
 .chk (61 < 64) <|
 .chk (62 < 64) <|
 .chk (63 < 64) <|
 .ret ()
def qjI:Option (Unit):=(qlv).run some
def qu1:List (Nat×qM):=[]
def qk8:Ent:=smF ⟨113,[],[],[],[]⟩ [] (Unit) (fun x=>qjI) cs1 fun _=>qvh
theorem qrM:zl Tryz.prog (qk8):=
 zo (H:=qu_) (L:=qR (qu1)) (ts:=[]) (T:=fun x=>qlv) 0 qzn (qqT 0) (qy (by kernel_rfl) trivial) (rg0 (by kernel_rfl)) fun x=>by kernel_rfl
noncomputable def qzd:Code:=Tryz.f145.body.getD .skip
theorem qyD:FnF Tryz.prog 145 Tryz.f145 qzd:=⟨qo,by kernel_rfl,by kernel_rfl,by kernel_rfl⟩
def qc1:TH:={ live:=[(0,[0,1]),(1,[0,5]),(2,[4])] }
def qda (N:Nat):List Ent:=[]
theorem qbX (N:Nat):qU Tryz.prog (qda N):=trivial
def qdl (z:Int):TV×THp:=(.tv (.i .u32) z,[])
def Jc (a0:Int) (a1:Int):Tree (Int):=
 .chk (0≤(qcV .u64 (IntKind.u64.wrap a1) 31)) <|
 let w1:Int:=qpD .u32 a0 (min (qcV .u64 (IntKind.u64.wrap a1) 31).toNat 32)
 let w2:Int:=qEy .u64 ((32:Int)) (qcV .u64 (IntKind.u64.wrap a1) 31)
 .chk (0≤w2) <|
 .ret (uOr .u32 w1 (Zh a0 (min w2.toNat 32)))
def J3 (a0:Int) (a1:Int):Option (Int):=(Jc a0 a1).run some
def qdk:List (Nat×qM):=[]
def Wv:Ent:=smF ⟨145,[],[.x (.i .u32),.x (.i .i64)],[],[]⟩ [(.i .u32),(.i .i64)] (Int) (fun x=>J3 x.1 x.2.1) cs1 fun _=>qdl
theorem qcn:zl Tryz.prog (Wv):=
 zo (H:=qc1) (L:=qR (qdk)) (ts:=[(.i .u32),(.i .i64)]) (T:=fun x=>Jc x.1 x.2.1) 0 qyD (qbX 0) (qy (by kernel_rfl) trivial) (rg0 (by kernel_rfl)) fun x=>by kernel_rfl
noncomputable def qzi:Code:=Tryz.f136.body.getD .skip
theorem qza:FnF Tryz.prog 136 Tryz.f136 qzi:=⟨qo,by kernel_rfl,by kernel_rfl,by kernel_rfl⟩
def quH:TH:={ live:=[(0,[0,1]),(1,[4])] }
def qvd (N:Nat):List Ent:=[Wv]
theorem qqV (N:Nat):qU Tryz.prog (qvd N):=⟨qcn,trivial⟩
def quX (z:Int):TV×THp:=(.tv (.i .u32) z,[])
def qe2 (a0:Int) (a1:Int):Tree (Int):=
 .chk (qx (0 - a1)) <|
 .bind (J3 a0 (0 - a1)) fun r1=>
 .ret r1
def zL (a0:Int) (a1:Int):Option (Int):=(qe2 a0 a1).run some
def quI:List (Nat×qM):=[]
def qeu:Ent:=smF ⟨136,[],[.x (.i .u32),.x (.i .i64)],[],[]⟩ [(.i .u32),(.i .i64)] (Int) (fun x=>zL x.1 x.2.1) cs1 fun _=>quX
theorem qjf:zl Tryz.prog (qeu):=
 zo (H:=quH) (L:=qR (quI)) (ts:=[(.i .u32),(.i .i64)]) (T:=fun x=>qe2 x.1 x.2.1) 0 qza (qqV 0) (qy (by kernel_rfl) trivial) (rg0 (by kernel_rfl)) fun x=>by kernel_rfl
noncomputable def qil:Code:=Tryz.f135.body.getD .skip
theorem qyh:FnF Tryz.prog 135 Tryz.f135 qil:=⟨qo,by kernel_rfl,by kernel_rfl,by kernel_rfl⟩
def qaK:TH:={ live:=[(0,[0,2]),(1,[0,2,3]),(2,[0,2,3,7]),(3,[0,2,3,7,8]),(4,[0,2,3,4,7]),(5,[0,2,3,4,7,11]),(6,[0,2,3,7]),(7,[0,2,3,4,5,6,7]),(8,[0,2,3,7]),(9,[0,2,3,7]),(10,[2])] }
def qf6 (N:Nat):List Ent:=[qeu]
theorem qdm (N:Nat):qU Tryz.prog (qf6 N):=⟨qjf,trivial⟩
abbrev Ve:=Vector UInt32 64×List UInt8
abbrev QI:=Vector UInt32 64×Int×Bool
def ZO (f:Ve) (y:QI):Ex×TSt:=(.exit 0,⟨0,86,[],[(0,.tv .bl f.2),(2,.p 20 [] 0),(3,.p 30 [] 0),(7,xi y.2.1),(8,xb y.2.2)],[(20,.cell false (.tv (.wa 64) f.1)),(30,.cell false (.tv (.wa 64) (y.1:Vector UInt32 64)))],false,[]⟩)
def qkP (N:Nat):List (Nat×qM):=[]
abbrev ZN:=Vector UInt32 64×Int
def qcd:SP:=⟨0,86,[],[(0,.x .bl),(2,.k (.p 20 [] 0)),(3,.k (.p 30 [] 0)),(7,.x (.i .i64))],[(20,.cell false (.x (.wa 64))),(30,.cell false (.x (.wa 64)))],false,[]⟩
def qkJ (f:Ve) (v:ZN):TSt:=jq qcd [dv (.wa 64) f.1,dv (.wa 64) v.1,dv .bl f.2,dv (.i .i64) v.2]
def vB (N:Nat) (o_3:Vector UInt32 64) (s0_3:List UInt8) (v:ZN):Tree (ZN⊕QI):=
 .cond (decide (v.2 < ((64:Int)))) (
 .cond (decide (v.2 < ((16:Int)))) (
 .chk (qx (((4:Int)) * v.2)) <|
 .bind (zp s0_3 (((4:Int)) * v.2)) fun e1=>
 let w2:Int:=IntKind.u32.wrap ((e1.toNat:Nat):Int)
 .chk (0≤(24:Int)) <|
 .chk (qx (((4:Int)) * v.2)) <|
 .chk (qx ((((4:Int)) * v.2) + 1)) <|
 .bind (zp s0_3 ((((4:Int)) * v.2) + 1)) fun e3=>
 let w4:Int:=IntKind.u32.wrap ((e3.toNat:Nat):Int)
 .chk (0≤(16:Int)) <|
 let w5:Int:=uOr .u32 (qpD .u32 w2 24) (qpD .u32 w4 16)
 .chk (qx (((4:Int)) * v.2)) <|
 .chk (qx ((((4:Int)) * v.2) + 2)) <|
 .bind (zp s0_3 ((((4:Int)) * v.2) + 2)) fun e6=>
 let w7:Int:=IntKind.u32.wrap ((e6.toNat:Nat):Int)
 .chk (0≤(8:Int)) <|
 .chk (qx (((4:Int)) * v.2)) <|
 .chk (qx ((((4:Int)) * v.2) + 3)) <|
 .bind (zp s0_3 ((((4:Int)) * v.2) + 3)) fun e8=>
 let w9:Int:=IntKind.u32.wrap ((e8.toNat:Nat):Int)
 let w10:Int:=uOr .u32 (uOr .u32 w5 (qpD .u32 w7 8)) w9
 .chk (0≤v.2∧v.2 < ((64:Nat):Int)) <|
 .chk (inW w10) <|
 .chk (v.2.toNat < 64) <|
 .chk (qx (v.2 + 1)) <|
 .ret (.inl (v.1.setIfInBounds v.2.toNat (UInt32.ofNat w10.toNat),v.2 + 1))) <|
 .chk (qx (v.2 - 15)) <|
 .chk (0≤(v.2 - 15)∧(v.2 - 15) < ((64:Nat):Int)) <|
 .chk ((v.2 - 15).toNat < 64) <|
 .chk (qx (v.2 - 2)) <|
 .chk (0≤(v.2 - 2)∧(v.2 - 2) < ((64:Nat):Int)) <|
 .chk ((v.2 - 2).toNat < 64) <|
 .chk (qx (v.2 - 16)) <|
 .chk (0≤(v.2 - 16)∧(v.2 - 16) < ((64:Nat):Int)) <|
 .chk ((v.2 - 16).toNat < 64) <|
 .chk (qx (v.2 - 7)) <|
 .chk (0≤(v.2 - 7)∧(v.2 - 7) < ((64:Nat):Int)) <|
 .chk ((v.2 - 7).toNat < 64) <|
 let w1:Int:=Y9 .u32 (((v.1.toList.getD ((v.2 - 16).toNat) 0).toNat:Nat):Int) (((v.1.toList.getD ((v.2 - 7).toNat) 0).toNat:Nat):Int)
 .bind (zL (((v.1.toList.getD ((v.2 - 15).toNat) 0).toNat:Nat):Int) 7) fun r2=>
 .bind (zL (((v.1.toList.getD ((v.2 - 15).toNat) 0).toNat:Nat):Int) 18) fun r3=>
 .chk (0≤(3:Int)) <|
 let w4:Int:=Zh (((v.1.toList.getD ((v.2 - 15).toNat) 0).toNat:Nat):Int) 3
 let w5:Int:=Y9 .u32 w1 (Y3 .u32 (Y3 .u32 r2 r3) w4)
 .bind (zL (((v.1.toList.getD ((v.2 - 2).toNat) 0).toNat:Nat):Int) 17) fun r6=>
 .bind (zL (((v.1.toList.getD ((v.2 - 2).toNat) 0).toNat:Nat):Int) 19) fun r7=>
 .chk (0≤(10:Int)) <|
 let w8:Int:=Zh (((v.1.toList.getD ((v.2 - 2).toNat) 0).toNat:Nat):Int) 10
 let w9:Int:=Y9 .u32 w5 (Y3 .u32 (Y3 .u32 r6 r7) w8)
 .chk (0≤v.2∧v.2 < ((64:Nat):Int)) <|
 .chk (inW w9) <|
 .chk (v.2.toNat < 64) <|
 .chk (qx (v.2 + 1)) <|
 .ret (.inl (v.1.setIfInBounds v.2.toNat (UInt32.ofNat w9.toNat),v.2 + 1))) <|
 .ret (.inr (v.1,v.2,decide (v.2 < ((64:Int)))))
def qcb (N n:Nat) (f:Ve) (v:ZN):Option QI:=qY (vB N f.1 f.2) some n v
theorem qk0 (N:Nat) (f:Ve) (n:Nat) (v:ZN) (y:QI) (h:qcb N n f v=some y):LG Tryz.prog qaK 135 (q_ qil 3) (qkJ f v) (ZO f y):=
 z9 qo (E:=qf6 N) (L:=qR (qkP N)) (st:=ZO f) (g:=some) (R:=ZO f) (qdm N) (qy (by kernel_rfl) trivial) (rg0 (by kernel_rfl)) (fun v=>by kernel_rfl) (zn (st:=ZO f) fun y=>by rfl) n v y h
def K1 (N:Nat) (o_3:Vector UInt32 64) (s0_3:List UInt8) (o_3_2:Vector UInt32 64) (s7_3:Int):Option QI:=qcb N N (o_3,s0_3) (o_3_2,s7_3)
def qcf (N:Nat):qM:=smL qcd [(.wa 64),(.wa 64),.bl,(.i .i64)] QI (fun x=>K1 N x.1 x.2.2.1 x.2.1 x.2.2.2.1) cs1 fun x=>ZO (x.1,x.2.2.1)
theorem qi3 (N:Nat):Qt Tryz.prog qaK 135 (q_ qil 3) (qcf N):=jv fun x z h=>qk0 N (x.1,x.2.2.1) N (x.2.1,x.2.2.2.1) z h
def qpA (z:Vector UInt32 64):TV×THp:=(.tv (.wa 64) z,[])
def qaN (N:Nat) (a0:List UInt8):Tree (Vector UInt32 64):=
 .bind (K1 N ((Vector.replicate 64 0)) a0 ((Vector.replicate 64 0)) 0) fun z1=>
 .ret z1.1
def K9 (N:Nat) (a0:List UInt8):Option (Vector UInt32 64):=(qaN N a0).run some
def qoJ (N:Nat):List (Nat×qM):=[(3,qcf N)]
def qfr (N:Nat):Ent:=smF ⟨135,[],[.x .bl],[],[]⟩ [.bl] (Vector UInt32 64) (fun x=>K9 N x.1) cs1 fun _=>qpA
theorem qnb (N:Nat):zl Tryz.prog (qfr N):=
 zo (H:=qaK) (L:=qR (qoJ N)) (ts:=[.bl]) (T:=fun x=>qaN N x.1) 0 qyh (qdm N) (qy (by kernel_rfl) ⟨qi3 N,trivial⟩) (rg0 (by kernel_rfl)) fun x=>by kernel_rfl
noncomputable def qbe:Code:=Tryz.f114.body.getD .skip
theorem qzJ:FnF Tryz.prog 114 Tryz.f114 qbe:=⟨qo,by kernel_rfl,by kernel_rfl,by kernel_rfl⟩
def Jf:TH:={ live:=[(0,[0,2,6]),(1,[0,2,6,7]),(2,[0,2,6,7,19]),(3,[0,2,6,7,19,20]),(4,[0,2,6,7,8,19]),(5,[0,2,6,7,8,9,10,19]),(6,[0,2,6,7,9,11,19]),(7,[0,2,6,7,11,12,19]),(8,[0,2,6,7,11,12,19]),(9,[0,2,6,7,11,19]),(10,[0,2,6,7,19]),(11,[0,2,6,7,19]),(12,[0,7,95]),(13,[0,7,95,96]),(14,[0,7,13,95]),(15,[0,7,95]),(16,[0,7,95])] }
def Y6 (N:Nat):List Ent:=[qfr N,qeu]
theorem Wl (N:Nat):qU Tryz.prog (Y6 N):=⟨qnb N,qjf,trivial⟩
abbrev Jl:=Vector UInt32 8×Vector UInt32 64×Vector UInt32 64
abbrev vI:=Vector UInt32 8×Int×Bool
def QT (f:Jl) (y:vI):Ex×TSt:=(.exit 0,⟨1,110,[50,60],[(0,.p 50 [] 0),(2,.p 60 [] 0),(6,.p 100060 [] 0),(7,.p 100070 [] 0),(19,xi y.2.1),(20,xb y.2.2)],[(50,.cell false (.tv (.wa 8) f.1)),(60,.cell false (.tv (.wa 64) f.2.1)),(100060,.cell false (.tv (.wa 64) f.2.2)),(100070,.cell false (.tv (.wa 8) (y.1:Vector UInt32 8)))],false,[]⟩)
def qh6 (N:Nat):List (Nat×qM):=[]
abbrev QW:=Vector UInt32 8×Int
def qaC:SP:=⟨1,110,[50,60],[(0,.k (.p 50 [] 0)),(2,.k (.p 60 [] 0)),(6,.k (.p 100060 [] 0)),(7,.k (.p 100070 [] 0)),(19,.x (.i .i64))],[(50,.cell false (.x (.wa 8))),(60,.cell false (.x (.wa 64))),(100060,.cell false (.x (.wa 64))),(100070,.cell false (.x (.wa 8)))],false,[]⟩
def qh4 (f:Jl) (v:QW):TSt:=jq qaC [dv (.wa 8) f.1,dv (.wa 64) f.2.1,dv (.wa 64) f.2.2,dv (.wa 8) v.1,dv (.i .i64) v.2]
def QV (N:Nat) (o_3:Vector UInt32 8) (o_3_2:Vector UInt32 64) (o_3_3:Vector UInt32 64) (v:QW):Tree (QW⊕vI):=
 .cond (decide (v.2 < ((64:Int)))) (
 .chk (0≤(0:Int)∧(0:Int) < ((8:Nat):Int)) <|
 .chk (0 < 8) <|
 .chk (0≤(4:Int)∧(4:Int) < ((8:Nat):Int)) <|
 .chk (4 < 8) <|
 .chk (0≤(7:Int)∧(7:Int) < ((8:Nat):Int)) <|
 .chk (7 < 8) <|
 .bind (zL (((v.1.toList.getD 4 0).toNat:Nat):Int) 6) fun r1=>
 .bind (zL (((v.1.toList.getD 4 0).toNat:Nat):Int) 11) fun r2=>
 .bind (zL (((v.1.toList.getD 4 0).toNat:Nat):Int) 25) fun r3=>
 let w4:Int:=Y9 .u32 (((v.1.toList.getD 7 0).toNat:Nat):Int) (Y3 .u32 (Y3 .u32 r1 r2) r3)
 .chk (0≤(5:Int)∧(5:Int) < ((8:Nat):Int)) <|
 .chk (5 < 8) <|
 let w5:Int:=qcV .u32 (((v.1.toList.getD 4 0).toNat:Nat):Int) (((v.1.toList.getD 5 0).toNat:Nat):Int)
 let w6:Int:=Y3 .u32 (4294967295) (((v.1.toList.getD 4 0).toNat:Nat):Int)
 .chk (0≤(6:Int)∧(6:Int) < ((8:Nat):Int)) <|
 .chk (6 < 8) <|
 let w7:Int:=qcV .u32 w6 (((v.1.toList.getD 6 0).toNat:Nat):Int)
 .chk (0≤v.2∧v.2 < ((64:Nat):Int)) <|
 .chk (v.2.toNat < 64) <|
 let w8:Int:=Y9 .u32 (Y9 .u32 w4 (Y3 .u32 w5 w7)) (((o_3_2.toList.getD v.2.toNat 0).toNat:Nat):Int)
 .chk (0≤v.2∧v.2 < ((64:Nat):Int)) <|
 .chk (v.2.toNat < 64) <|
 let w9:Int:=Y9 .u32 w8 (((o_3_3.toList.getD v.2.toNat 0).toNat:Nat):Int)
 .bind (zL (((v.1.toList.getD 0 0).toNat:Nat):Int) 2) fun r10=>
 .bind (zL (((v.1.toList.getD 0 0).toNat:Nat):Int) 13) fun r11=>
 .bind (zL (((v.1.toList.getD 0 0).toNat:Nat):Int) 22) fun r12=>
 .chk (0≤(1:Int)∧(1:Int) < ((8:Nat):Int)) <|
 .chk (1 < 8) <|
 let w13:Int:=qcV .u32 (((v.1.toList.getD 0 0).toNat:Nat):Int) (((v.1.toList.getD 1 0).toNat:Nat):Int)
 .chk (0≤(2:Int)∧(2:Int) < ((8:Nat):Int)) <|
 .chk (2 < 8) <|
 let w14:Int:=qcV .u32 (((v.1.toList.getD 0 0).toNat:Nat):Int) (((v.1.toList.getD 2 0).toNat:Nat):Int)
 .chk (0≤(1:Int)∧(1:Int) < ((8:Nat):Int)) <|
 .chk (1 < 8) <|
 .chk (0≤(2:Int)∧(2:Int) < ((8:Nat):Int)) <|
 .chk (2 < 8) <|
 let w15:Int:=qcV .u32 (((v.1.toList.getD 1 0).toNat:Nat):Int) (((v.1.toList.getD 2 0).toNat:Nat):Int)
 let w16:Int:=Y9 .u32 (Y3 .u32 (Y3 .u32 r10 r11) r12) (Y3 .u32 (Y3 .u32 w13 w14) w15)
 .chk (0≤(0:Int)∧(0:Int) < ((8:Nat):Int)) <|
 .chk (inW (Y9 .u32 w9 w16)) <|
 .chk (0 < 8) <|
 .chk (0≤(4:Int)∧(4:Int) < ((8:Nat):Int)) <|
 .chk (4 < 8) <|
 let w17:Int:=Y9 .u32 (((((Xv v.1 1 7).setIfInBounds 0 (UInt32.ofNat (Y9 .u32 w9 w16).toNat)).toList.getD 4 0).toNat:Nat):Int) w9
 .chk (0≤(4:Int)∧(4:Int) < ((8:Nat):Int)) <|
 .chk (inW w17) <|
 .chk (4 < 8) <|
 .chk (qx (v.2 + 1)) <|
 .ret (.inl (((Xv v.1 1 7).setIfInBounds 0 (UInt32.ofNat (Y9 .u32 w9 w16).toNat)).setIfInBounds 4 (UInt32.ofNat w17.toNat),v.2 + 1))) <|
 .ret (.inr (v.1,v.2,decide (v.2 < ((64:Int)))))
def qaA (N n:Nat) (f:Jl) (v:QW):Option vI:=qY (QV N f.1 f.2.1 f.2.2) some n v
theorem qh9 (N:Nat) (f:Jl) (n:Nat) (v:QW) (y:vI) (h:qaA N n f v=some y):LG Tryz.prog Jf 114 (q_ qbe 3) (qh4 f v) (QT f y):=
 z9 qo (E:=Y6 N) (L:=qR (qh6 N)) (st:=QT f) (g:=some) (R:=QT f) (Wl N) (qy (by kernel_rfl) trivial) (rg0 (by kernel_rfl)) (fun v=>by kernel_rfl) (zn (st:=QT f) fun y=>by rfl) n v y h
def Yj (N:Nat) (o_3:Vector UInt32 8) (o_3_2:Vector UInt32 64) (o_3_3:Vector UInt32 64) (o_3_4:Vector UInt32 8) (s19_3:Int):Option vI:=qaA N N (o_3,o_3_2,o_3_3) (o_3_4,s19_3)
def qaD (N:Nat):qM:=smL qaC [(.wa 8),(.wa 64),(.wa 64),(.wa 8),(.i .i64)] vI (fun x=>Yj N x.1 x.2.1 x.2.2.1 x.2.2.2.1 x.2.2.2.2.1) cs1 fun x=>QT (x.1,x.2.1,x.2.2.1)
theorem qgC (N:Nat):Qt Tryz.prog Jf 114 (q_ qbe 3) (qaD N):=jv fun x z h=>qh9 N (x.1,x.2.1,x.2.2.1) N (x.2.2.2.1,x.2.2.2.2.1) z h
abbrev ZY:=Vector UInt32 64×Vector UInt32 8
abbrev vr:=Vector UInt32 8×Int×Bool
def Qp (f:ZY) (y:vr):Ex×TSt:=(.exit 2,⟨1,110,[50,60],[(0,.p 50 [] 0),(7,.p 100070 [] 0),(95,xi y.2.1),(96,xb y.2.2)],[(50,.cell false (.tv (.wa 8) (y.1:Vector UInt32 8))),(60,.cell false (.tv (.wa 64) f.1)),(100070,.cell false (.tv (.wa 8) f.2))],false,[]⟩)
def qhq (N:Nat):List (Nat×qM):=[]
abbrev Qy:=Vector UInt32 8×Int
def qai:SP:=⟨1,110,[50,60],[(0,.k (.p 50 [] 0)),(7,.k (.p 100070 [] 0)),(95,.x (.i .i64))],[(50,.cell false (.x (.wa 8))),(60,.cell false (.x (.wa 64))),(100070,.cell false (.x (.wa 8)))],false,[]⟩
def qg6 (f:ZY) (v:Qy):TSt:=jq qai [dv (.wa 8) v.1,dv (.wa 64) f.1,dv (.wa 8) f.2,dv (.i .i64) v.2]
def ZS (N:Nat) (o_13_2:Vector UInt32 64) (o_13_3:Vector UInt32 8) (v:Qy):Tree (Qy⊕vr):=
 .cond (decide (v.2 < ((8:Int)))) (
 .chk (0≤v.2∧v.2 < ((8:Nat):Int)) <|
 .chk (v.2.toNat < 8) <|
 .chk (0≤v.2∧v.2 < ((8:Nat):Int)) <|
 .chk (v.2.toNat < 8) <|
 let w1:Int:=Y9 .u32 (((v.1.toList.getD v.2.toNat 0).toNat:Nat):Int) (((o_13_3.toList.getD v.2.toNat 0).toNat:Nat):Int)
 .chk (0≤v.2∧v.2 < ((8:Nat):Int)) <|
 .chk (inW w1) <|
 .chk (v.2.toNat < 8) <|
 .chk (qx (v.2 + 1)) <|
 .ret (.inl (v.1.setIfInBounds v.2.toNat (UInt32.ofNat w1.toNat),v.2 + 1))) <|
 .ret (.inr (v.1,v.2,decide (v.2 < ((8:Int)))))
def KT (N n:Nat) (f:ZY) (v:Qy):Option vr:=qY (ZS N f.1 f.2) some n v
theorem qgD (N:Nat) (f:ZY) (n:Nat) (v:Qy) (y:vr) (h:KT N n f v=some y):LG Tryz.prog Jf 114 (q_ qbe 13) (qg6 f v) (Qp f y):=
 z9 qo (E:=Y6 N) (L:=qR (qhq N)) (st:=Qp f) (g:=some) (R:=Qp f) (Wl N) (qy (by kernel_rfl) trivial) (rg0 (by kernel_rfl)) (fun v=>by kernel_rfl) (zn (st:=Qp f) fun y=>by rfl) n v y h
def X6 (N:Nat) (o_13_2:Vector UInt32 64) (o_13_3:Vector UInt32 8) (o_13:Vector UInt32 8) (s95_13:Int):Option vr:=KT N N (o_13_2,o_13_3) (o_13,s95_13)
def qau (N:Nat):qM:=smL qai [(.wa 8),(.wa 64),(.wa 8),(.i .i64)] vr (fun x=>X6 N x.2.1 x.2.2.1 x.1 x.2.2.2.1) cs1 fun x=>Qp (x.2.1,x.2.2.1)
theorem qgd (N:Nat):Qt Tryz.prog Jf 114 (q_ qbe 13) (qau N):=jv fun x z h=>qgD N (x.2.1,x.2.2.1) N (x.1,x.2.2.2.1) z h
def ql1 (a1:Vector UInt32 64) (z:Vector UInt32 8):TV×THp:=(.tup [],[(50,.cell false (.tv (.wa 8) z)),(60,.cell false (.tv (.wa 64) a1))])
def Y5 (N:Nat) (a0:Vector UInt32 8) (a1:Vector UInt32 64) (a2:List UInt8):Tree (Vector UInt32 8):=
 .bind (K9 N a2) fun r1=>
 .bind (Yj N a0 a1 r1 a0 0) fun z2=>
 .bind (X6 N a1 z2.1 a0 0) fun z3=>
 .ret z3.1
def Vs (N:Nat) (a0:Vector UInt32 8) (a1:Vector UInt32 64) (a2:List UInt8):Option (Vector UInt32 8):=(Y5 N a0 a1 a2).run some
def qlN (N:Nat):List (Nat×qM):=[(3,qaD N),(13,qau N)]
def qdC (N:Nat):Ent:=smF ⟨114,[],[.k (.p 50 [] 0),.x .bl,.k (.p 60 [] 0)],[],[(50,.cell false (.x (.wa 8))),(60,.cell false (.x (.wa 64)))]⟩ [(.wa 8),(.wa 64),.bl] (Vector UInt32 8) (fun x=>Vs N x.1 x.2.1 x.2.2.1) cs1 fun x=>ql1 x.2.1
theorem qkW (N:Nat):zl Tryz.prog (qdC N):=
 zo (H:=Jf) (L:=qR (qlN N)) (ts:=[(.wa 8),(.wa 64),.bl]) (T:=fun x=>Y5 N x.1 x.2.1 x.2.2.1) 0 qzJ (Wl N) (qy (by kernel_rfl) ⟨qgC N,qgd N,trivial⟩) (rg0 (by kernel_rfl)) fun x=>by kernel_rfl
noncomputable def J4:Code:=Tryz.f85.body.getD .skip
theorem qAx:FnF Tryz.prog 85 Tryz.f85 J4:=⟨qo,by kernel_rfl,by kernel_rfl,by kernel_rfl⟩
def Z3:TH:={ live:=[(0,[0,2]),(1,[0,2,3]),(2,[0,2,3,16]),(3,[0,2,3]),(4,[0,2,3,20]),(5,[0,2,3,20,21]),(6,[0,2,3,4,20]),(7,[0,2,3,20]),(8,[0,2,3,20]),(9,[2,3,5,6]),(10,[2,3,5,6,40]),(11,[2,3,5,6]),(12,[2,3,5,6]),(13,[2,5,7]),(14,[2,5,7,46]),(15,[2,5,7,46,47]),(16,[2,5,7,8,46]),(17,[2,5,7,46]),(18,[2,5,7,46]),(19,[2])],fresh:=[10] }
def Kr (N:Nat):List Ent:=[qfC,qk5,qk8,qdC N]
theorem Xy (N:Nat):qU Tryz.prog (Kr N):=⟨qnA,qte,qrM,qkW N,trivial⟩
abbrev KM:=Vector UInt8 32×List UInt8
abbrev Vu:=List UInt8×Bool
def WH (f:KM) (y:Vu):Ex×TSt:=(.exit 0,⟨0,63,[],[(0,.tv .bl f.2),(2,.p 20 [] 0),(3,.v 100050 y.1.length),(16,xb y.2)],[(20,.cell false (.tv (.ba 32) f.1)),(100050,.vec false 1 .bl (y.1:List UInt8))],false,[]⟩)
def qtN (N:Nat):List (Nat×qM):=[]
abbrev Wj:=List UInt8
def qjL:SP:=⟨0,63,[],[(0,.x .bl),(2,.k (.p 20 [] 0)),(3,.vs 100050)],[(20,.cell false (.x (.ba 32))),(100050,.vec false 1)],false,[]⟩
def qtr (f:KM) (v:Wj):TSt:=jq qjL [dv .bl v,dv (.ba 32) f.1,dv .bl f.2]
def Wc (N:Nat) (o_2_2:Vector UInt8 32) (s0_2:List UInt8) (v:Wj):Tree (Wj⊕Vu):=
 .chk ((64:Int)≠0) <|
 .cond (!decide ((((v.length:Nat):Int).tmod 64)=56)) (
 .chk (JV v.length v.length ((v++[(UInt8.ofNat 0)]).length) 1) <|
 .ret (.inl (v++[(UInt8.ofNat 0)]))) <|
 .ret (.inr (v,!decide ((((v.length:Nat):Int).tmod 64)=56)))
def qip (N n:Nat) (f:KM) (v:Wj):Option Vu:=qY (Wc N f.1 f.2) some n v
theorem qrN (N:Nat) (f:KM) (n:Nat) (v:Wj) (y:Vu) (h:qip N n f v=some y):LG Tryz.prog Z3 85 (q_ J4 2) (qtr f v) (WH f y):=
 z9 qo (E:=Kr N) (L:=qR (qtN N)) (st:=WH f) (g:=some) (R:=WH f) (Xy N) (qy (by kernel_rfl) trivial) (rg0 (by kernel_rfl)) (fun v=>by kernel_rfl) (zn (st:=WH f) fun y=>by rfl) n v y h
def qcl (N:Nat) (o_2_2:Vector UInt8 32) (s0_2:List UInt8) (o_2:List UInt8):Option Vu:=qip N N (o_2_2,s0_2) o_2
def qiW (N:Nat):qM:=smL qjL [.bl,(.ba 32),.bl] Vu (fun x=>qcl N x.2.1 x.2.2.1 x.1) cs1 fun x=>WH (x.2.1,x.2.2.1)
theorem qq_ (N:Nat):Qt Tryz.prog Z3 85 (q_ J4 2) (qiW N):=jv fun x z h=>qrN N (x.2.1,x.2.2.1) N x.1 z h
abbrev KN:=Vector UInt8 32×List UInt8
abbrev Vl:=List UInt8×Int×Bool
def We (f:KN) (y:Vl):Ex×TSt:=(.exit 2,⟨0,63,[],[(0,.tv .bl f.2),(2,.p 20 [] 0),(3,.v 100050 y.1.length),(20,xi y.2.1),(21,xb y.2.2)],[(20,.cell false (.tv (.ba 32) f.1)),(100050,.vec false 1 .bl (y.1:List UInt8))],false,[]⟩)
def qs_ (N:Nat):List (Nat×qM):=[]
abbrev X_:=List UInt8×Int
def qjW:SP:=⟨0,63,[],[(0,.x .bl),(2,.k (.p 20 [] 0)),(3,.vs 100050),(20,.x (.i .i64))],[(20,.cell false (.x (.ba 32))),(100050,.vec false 1)],false,[]⟩
def qtx (f:KN) (v:X_):TSt:=jq qjW [dv .bl v.1,dv (.ba 32) f.1,dv .bl f.2,dv (.i .i64) v.2]
def KR (N:Nat) (o_5_2:Vector UInt8 32) (s0_5:List UInt8) (v:X_):Tree (X_⊕Vl):=
 .cond (decide (v.2 < ((8:Int)))) (
 let w1:Int:=IntKind.u64.wrap ((s0_5.length:Nat):Int)
 .chk (qx (((7:Int)) - v.2)) <|
 .chk (qx (((8:Int)) * (((7:Int)) - v.2))) <|
 .chk (0≤(((8:Int)) * (((7:Int)) - v.2))) <|
 let w2:Int:=Zh (qEs .u64 w1 8) (min (((8:Int)) * (((7:Int)) - v.2)).toNat 64)
 .chk (inB (IntKind.u8.wrap w2)) <|
 .chk (JV v.1.length v.1.length ((v.1++[UInt8.ofNat (IntKind.u8.wrap w2).toNat]).length) 1) <|
 .chk (qx (v.2 + 1)) <|
 .ret (.inl (v.1++[UInt8.ofNat (IntKind.u8.wrap w2).toNat],v.2 + 1))) <|
 .ret (.inr (v.1,v.2,decide (v.2 < ((8:Int)))))
def qjK (N n:Nat) (f:KN) (v:X_):Option Vl:=qY (KR N f.1 f.2) some n v
theorem qsd (N:Nat) (f:KN) (n:Nat) (v:X_) (y:Vl) (h:qjK N n f v=some y):LG Tryz.prog Z3 85 (q_ J4 5) (qtx f v) (We f y):=
 z9 qo (E:=Kr N) (L:=qR (qs_ N)) (st:=We f) (g:=some) (R:=We f) (Xy N) (qy (by kernel_rfl) trivial) (rg0 (by kernel_rfl)) (fun v=>by kernel_rfl) (zn (st:=We f) fun y=>by rfl) n v y h
def qgO (N:Nat) (o_5_2:Vector UInt8 32) (s0_5:List UInt8) (o_5:List UInt8) (s20_5:Int):Option Vl:=qjK N N (o_5_2,s0_5) (o_5,s20_5)
def qjO (N:Nat):qM:=smL qjW [.bl,(.ba 32),.bl,(.i .i64)] Vl (fun x=>qgO N x.2.1 x.2.2.1 x.1 x.2.2.2.1) cs1 fun x=>We (x.2.1,x.2.2.1)
theorem qqY (N:Nat):Qt Tryz.prog Z3 85 (q_ J4 5) (qjO N):=jv fun x z h=>qsd N (x.2.1,x.2.2.1) N (x.1,x.2.2.2.1) z h
abbrev vV:=List UInt8×Vector UInt8 32×Vector UInt32 8×Vector UInt32 64
abbrev vn:=Unit⊕(Vector UInt32 8×List UInt8×Bool)
def vR (f:vV):vn→Ex×TSt
 | .inl y=>(.exit 4,⟨0,63,[],[(2,.p 20 [] 0),(3,.v 100050 f.1.length),(5,.p 50 [] 0),(6,.p 60 [] 0),(40,xb (decide (((0:Int)) < ((f.1.length:Nat):Int))))],[(20,.cell false (.tv (.ba 32) f.2.1)),(50,.cell false (.tv (.wa 8) f.2.2.1)),(60,.cell false (.tv (.wa 64) f.2.2.2)),(100050,.vec false 1 .bl f.1)],false,[]⟩)
 | .inr y=>(.exit 4,⟨0,63,[],[(2,.p 20 [] 0),(3,.tv .bl (y.2.1:List UInt8)),(5,.p 50 [] 0),(6,.p 60 [] 0),(40,xb y.2.2)],[(20,.cell false (.tv (.ba 32) f.2.1)),(50,.cell false (.tv (.wa 8) (y.1:Vector UInt32 8))),(60,.cell false (.tv (.wa 64) f.2.2.2))],false,[]⟩)
def qhI (N:Nat):List (Nat×qM):=[]
abbrev Q2:=Vector UInt32 8×List UInt8
def qlF:SP:=⟨0,63,[],[(2,.k (.p 20 [] 0)),(3,.x .bl),(5,.k (.p 50 [] 0)),(6,.k (.p 60 [] 0))],[(20,.cell false (.x (.ba 32))),(50,.cell false (.x (.wa 8))),(60,.cell false (.x (.wa 64)))],false,[]⟩
def qdv (f:vV) (v:Q2):TSt:=jq qlF [dv (.ba 32) f.2.1,dv (.wa 8) v.1,dv (.wa 64) f.2.2.2,dv .bl v.2]
def V2 (N:Nat) (o_10:List UInt8) (o_10_2:Vector UInt8 32) (o_10_3:Vector UInt32 8) (o_10_4:Vector UInt32 64) (v:Q2):Tree (Q2⊕vn):=
 .cond (decide (((0:Int)) < ((v.2.length:Nat):Int))) (
 .chk (0≤(0:Int)∧(0:Int)≤(64:Int)∧(64:Int)≤((v.2.length:Nat):Int)) <|
 .bind (Vs N v.1 o_10_4 ((v.2.take 64).drop 0)) fun r1=>
 .chk (0≤(64:Int)∧(64:Int)≤((v.2.length:Nat):Int)) <|
 .ret (.inl (r1,v.2.drop 64))) <|
 .ret (.inr (.inr ((v.1,v.2,decide (((0:Int)) < ((v.2.length:Nat):Int))))))
def qc7 (N n:Nat) (f:vV) (v:Q2):Option vn:=qY (V2 N f.1 f.2.1 f.2.2.1 f.2.2.2) some n v
theorem ql_ (N:Nat) (f:vV) (n:Nat) (v:Q2) (y:vn) (h:qc7 N n f v=some y):LG Tryz.prog Z3 85 (q_ J4 10) (qdv f v) (vR f y):=
 z9 qo (E:=Kr N) (L:=qR (qhI N)) (st:=vR f) (g:=some) (R:=vR f) (Xy N) (qy (by kernel_rfl) trivial) (rg0 (by kernel_rfl)) (fun v=>by kernel_rfl) (zn (st:=vR f) fun y=>by rcases y with _ | _<;>rfl) n v y h
abbrev Xg:=Unit
def qhQ:SP:=⟨0,63,[],[(2,.k (.p 20 [] 0)),(3,.vs 100050),(5,.k (.p 50 [] 0)),(6,.k (.p 60 [] 0))],[(20,.cell false (.x (.ba 32))),(50,.cell false (.x (.wa 8))),(60,.cell false (.x (.wa 64))),(100050,.vec false 1)],false,[]⟩
def qre (f:vV) (v:Xg):TSt:=jq qhQ [dv .bl f.1,dv (.ba 32) f.2.1,dv (.wa 8) f.2.2.1,dv (.wa 64) f.2.2.2]
abbrev qbF:=Q2⊕vn
def Y1 (N:Nat) (o_10:List UInt8) (o_10_2:Vector UInt8 32) (o_10_3:Vector UInt32 8) (o_10_4:Vector UInt32 64) (v:Xg):Tree (Xg⊕qbF):=
 .cond (decide (((0:Int)) < ((o_10.length:Nat):Int))) (
 .chk (0≤(0:Int)∧(0:Int)≤(64:Int)∧(64:Int)≤((o_10.length:Nat):Int)) <|
 .chk (o_10.length=o_10.length) <|
 .bind (Vs N o_10_3 o_10_4 ((o_10.take 64).drop 0)) fun r1=>
 .chk (0≤(64:Int)∧(64:Int)≤((o_10.length:Nat):Int)) <|
 .chk (o_10.length=o_10.length) <|
 .ret (.inr (.inl (r1,o_10.drop 64)))) <|
 .ret (.inr (.inr ((.inl ()))))
def qbV (N n:Nat) (f:vV):qbF→Option vn
 | .inl w=>qc7 N n f w
 | .inr w=>some w
def qqH (f:vV):qbF→Ex×TSt
 | .inl w=>(.normal,qdv f w)
 | .inr w=>vR f w
def qhB (N n:Nat) (f:vV) (v:Xg):Option vn:=qY (Y1 N f.1 f.2.1 f.2.2.1 f.2.2.2) (qbV N n f) n v
theorem qqF (N:Nat) (f:vV) (n:Nat) (v:Xg) (y:vn) (h:qhB N n f v=some y):LG Tryz.prog Z3 85 (q_ J4 10) (qre f v) (vR f y):=
 z9 qo (E:=Kr N) (L:=qR (qhI N)) (st:=qqH f) (g:=(qbV N n f)) (R:=vR f) (Xy N) (qy (by kernel_rfl) trivial) (rg0 (by kernel_rfl)) (fun v=>by kernel_rfl) (fun w y h=>by
 rcases w with w | w
 ·exact ql_ N f n w y h
 ·exact zn (st:=vR f) (fun y=>by rcases y with _ | _<;>rfl) w y h
) n v y h
def Ys (N:Nat) (o_10:List UInt8) (o_10_2:Vector UInt8 32) (o_10_3:Vector UInt32 8) (o_10_4:Vector UInt32 64):Option vn:=qhB N N (o_10,o_10_2,o_10_3,o_10_4) ()
def qhz (N:Nat):qM:=smL qhQ [.bl,(.ba 32),(.wa 8),(.wa 64)] vn (fun x=>Ys N x.1 x.2.1 x.2.2.1 x.2.2.2.1) (csS cs1) fun x=>vR (x.1,x.2.1,x.2.2.1,x.2.2.2.1)
theorem qpC (N:Nat):Qt Tryz.prog Z3 85 (q_ J4 10) (qhz N):=jv fun x z h=>qqF N (x.1,x.2.1,x.2.2.1,x.2.2.2.1) N () z h
abbrev YU:=Vector UInt8 32×Vector UInt32 8
abbrev Js:=Vector UInt8 32×Int×Bool
def Xm (f:YU) (y:Js):Ex×TSt:=(.exit 6,⟨0,63,[],[(2,.p 20 [] 0),(5,.p 50 [] 0),(7,.p 70 [] 0),(46,xi y.2.1),(47,xb y.2.2)],[(20,.cell false (.tv (.ba 32) f.1)),(50,.cell false (.tv (.wa 8) f.2)),(70,.cell false (.tv (.ba 32) (y.1:Vector UInt8 32)))],false,[]⟩)
def qqK (N:Nat):List (Nat×qM):=[]
abbrev Xx:=Vector UInt8 32×Int
def qhK:SP:=⟨0,63,[],[(2,.k (.p 20 [] 0)),(5,.k (.p 50 [] 0)),(7,.k (.p 70 [] 0)),(46,.x (.i .i64))],[(20,.cell false (.x (.ba 32))),(50,.cell false (.x (.wa 8))),(70,.cell false (.x (.ba 32)))],false,[]⟩
def qq0 (f:YU) (v:Xx):TSt:=jq qhK [dv (.ba 32) f.1,dv (.wa 8) f.2,dv (.ba 32) v.1,dv (.i .i64) v.2]
def YN (N:Nat) (o_15:Vector UInt8 32) (o_15_2:Vector UInt32 8) (v:Xx):Tree (Xx⊕Js):=
 .cond (decide (v.2 < ((32:Int)))) (
 .chk ((4:Int)≠0) <|
 .chk (qx (v.2.tdiv 4)) <|
 .chk (0≤(v.2.tdiv 4)∧(v.2.tdiv 4) < ((8:Nat):Int)) <|
 .chk ((v.2.tdiv 4).toNat < 8) <|
 .chk ((4:Int)≠0) <|
 .chk (qx (((8:Int)) * (v.2.tmod 4))) <|
 .chk (qx (((24:Int)) - (((8:Int)) * (v.2.tmod 4)))) <|
 .chk (0≤(((24:Int)) - (((8:Int)) * (v.2.tmod 4)))) <|
 let w1:Int:=Zh (((o_15_2.toList.getD ((v.2.tdiv 4).toNat) 0).toNat:Nat):Int) (min (((24:Int)) - (((8:Int)) * (v.2.tmod 4))).toNat 32)
 .chk (0≤v.2∧v.2 < ((32:Nat):Int)) <|
 .chk (inB (IntKind.u8.wrap w1)) <|
 .chk (v.2.toNat < 32) <|
 .chk (qx (v.2 + 1)) <|
 .ret (.inl (v.1.setIfInBounds v.2.toNat (UInt8.ofNat (IntKind.u8.wrap w1).toNat),v.2 + 1))) <|
 .ret (.inr (v.1,v.2,decide (v.2 < ((32:Int)))))
def qhL (N n:Nat) (f:YU) (v:Xx):Option Js:=qY (YN N f.1 f.2) some n v
theorem qq5 (N:Nat) (f:YU) (n:Nat) (v:Xx) (y:Js) (h:qhL N n f v=some y):LG Tryz.prog Z3 85 (q_ J4 15) (qq0 f v) (Xm f y):=
 z9 qo (E:=Kr N) (L:=qR (qqK N)) (st:=Xm f) (g:=some) (R:=Xm f) (Xy N) (qy (by kernel_rfl) trivial) (rg0 (by kernel_rfl)) (fun v=>by kernel_rfl) (zn (st:=Xm f) fun y=>by rfl) n v y h
def qa_ (N:Nat) (o_15:Vector UInt8 32) (o_15_2:Vector UInt32 8) (o_15_3:Vector UInt8 32) (s46_15:Int):Option Js:=qhL N N (o_15,o_15_2) (o_15_3,s46_15)
def qhE (N:Nat):qM:=smL qhK [(.ba 32),(.wa 8),(.ba 32),(.i .i64)] Js (fun x=>qa_ N x.1 x.2.1 x.2.2.1 x.2.2.2.1) cs1 fun x=>Xm (x.1,x.2.1)
theorem qo5 (N:Nat):Qt Tryz.prog Z3 85 (q_ J4 15) (qhE N):=jv fun x z h=>qq5 N (x.1,x.2.1) N (x.2.2.1,x.2.2.2.1) z h
def qjF (z:Vector UInt8 32):TV×THp:=(.tv (.ba 32) z,[])
def qiD (N:Nat) (a0:List UInt8):Tree (Vector UInt8 32):=
 .bind (Vy a0) fun r1=>
 .chk (JV (((([]:List UInt8))++a0).length) (((([]:List UInt8))++a0).length) ((((([]:List UInt8))++a0)++[(UInt8.ofNat 128)]).length) 1) <|
 .bind (jF [((((([]:List UInt8))++a0)++[(UInt8.ofNat 128)]).length,(((([]:List UInt8))++a0)++[(UInt8.ofNat 128)]).length)] (qcl N ((Vector.replicate 32 0)) a0 (((([]:List UInt8))++a0)++[(UInt8.ofNat 128)]))) fun z2=>
 .bind (jF [(z2.1.length,z2.1.length)] (qgO N ((Vector.replicate 32 0)) a0 z2.1 0)) fun z3=>
 .bind (qjk) fun r4=>
 .bind (qjI) fun r5=>
 .bind (jF [(z3.1.length,z3.1.length)] (Ys N z3.1 ((Vector.replicate 32 0)) ((((((((((Vector.replicate 8 0)).setIfInBounds 0 ((UInt32.ofNat 1779033703))).setIfInBounds 1 ((UInt32.ofNat 3144134277))).setIfInBounds 2 ((UInt32.ofNat 1013904242))).setIfInBounds 3 ((UInt32.ofNat 2773480762))).setIfInBounds 4 ((UInt32.ofNat 1359893119))).setIfInBounds 5 ((UInt32.ofNat 2600822924))).setIfInBounds 6 ((UInt32.ofNat 528734635))).setIfInBounds 7 ((UInt32.ofNat 1541459225))) ((((((((((((((((((((((((((((((((((((((((((((((((((((((((((((((((((Vector.replicate 64 0)).setIfInBounds 0 ((UInt32.ofNat 1116352408))).setIfInBounds 1 ((UInt32.ofNat 1899447441))).setIfInBounds 2 ((UInt32.ofNat 3049323471))).setIfInBounds 3 ((UInt32.ofNat 3921009573))).setIfInBounds 4 ((UInt32.ofNat 961987163))).setIfInBounds 5 ((UInt32.ofNat 1508970993))).setIfInBounds 6 ((UInt32.ofNat 2453635748))).setIfInBounds 7 ((UInt32.ofNat 2870763221))).setIfInBounds 8 ((UInt32.ofNat 3624381080))).setIfInBounds 9 ((UInt32.ofNat 310598401))).setIfInBounds 10 ((UInt32.ofNat 607225278))).setIfInBounds 11 ((UInt32.ofNat 1426881987))).setIfInBounds 12 ((UInt32.ofNat 1925078388))).setIfInBounds 13 ((UInt32.ofNat 2162078206))).setIfInBounds 14 ((UInt32.ofNat 2614888103))).setIfInBounds 15 ((UInt32.ofNat 3248222580))).setIfInBounds 16 ((UInt32.ofNat 3835390401))).setIfInBounds 17 ((UInt32.ofNat 4022224774))).setIfInBounds 18 ((UInt32.ofNat 264347078))).setIfInBounds 19 ((UInt32.ofNat 604807628))).setIfInBounds 20 ((UInt32.ofNat 770255983))).setIfInBounds 21 ((UInt32.ofNat 1249150122))).setIfInBounds 22 ((UInt32.ofNat 1555081692))).setIfInBounds 23 ((UInt32.ofNat 1996064986))).setIfInBounds 24 ((UInt32.ofNat 2554220882))).setIfInBounds 25 ((UInt32.ofNat 2821834349))).setIfInBounds 26 ((UInt32.ofNat 2952996808))).setIfInBounds 27 ((UInt32.ofNat 3210313671))).setIfInBounds 28 ((UInt32.ofNat 3336571891))).setIfInBounds 29 ((UInt32.ofNat 3584528711))).setIfInBounds 30 ((UInt32.ofNat 113926993))).setIfInBounds 31 ((UInt32.ofNat 338241895))).setIfInBounds 32 ((UInt32.ofNat 666307205))).setIfInBounds 33 ((UInt32.ofNat 773529912))).setIfInBounds 34 ((UInt32.ofNat 1294757372))).setIfInBounds 35 ((UInt32.ofNat 1396182291))).setIfInBounds 36 ((UInt32.ofNat 1695183700))).setIfInBounds 37 ((UInt32.ofNat 1986661051))).setIfInBounds 38 ((UInt32.ofNat 2177026350))).setIfInBounds 39 ((UInt32.ofNat 2456956037))).setIfInBounds 40 ((UInt32.ofNat 2730485921))).setIfInBounds 41 ((UInt32.ofNat 2820302411))).setIfInBounds 42 ((UInt32.ofNat 3259730800))).setIfInBounds 43 ((UInt32.ofNat 3345764771))).setIfInBounds 44 ((UInt32.ofNat 3516065817))).setIfInBounds 45 ((UInt32.ofNat 3600352804))).setIfInBounds 46 ((UInt32.ofNat 4094571909))).setIfInBounds 47 ((UInt32.ofNat 275423344))).setIfInBounds 48 ((UInt32.ofNat 430227734))).setIfInBounds 49 ((UInt32.ofNat 506948616))).setIfInBounds 50 ((UInt32.ofNat 659060556))).setIfInBounds 51 ((UInt32.ofNat 883997877))).setIfInBounds 52 ((UInt32.ofNat 958139571))).setIfInBounds 53 ((UInt32.ofNat 1322822218))).setIfInBounds 54 ((UInt32.ofNat 1537002063))).setIfInBounds 55 ((UInt32.ofNat 1747873779))).setIfInBounds 56 ((UInt32.ofNat 1955562222))).setIfInBounds 57 ((UInt32.ofNat 2024104815))).setIfInBounds 58 ((UInt32.ofNat 2227730452))).setIfInBounds 59 ((UInt32.ofNat 2361852424))).setIfInBounds 60 ((UInt32.ofNat 2428436474))).setIfInBounds 61 ((UInt32.ofNat 2756734187))).setIfInBounds 62 ((UInt32.ofNat 3204031479))).setIfInBounds 63 ((UInt32.ofNat 3329325298))))) fun z6=>
 .sum z6 (fun z7=>
 .bind (qa_ N ((Vector.replicate 32 0)) ((((((((((Vector.replicate 8 0)).setIfInBounds 0 ((UInt32.ofNat 1779033703))).setIfInBounds 1 ((UInt32.ofNat 3144134277))).setIfInBounds 2 ((UInt32.ofNat 1013904242))).setIfInBounds 3 ((UInt32.ofNat 2773480762))).setIfInBounds 4 ((UInt32.ofNat 1359893119))).setIfInBounds 5 ((UInt32.ofNat 2600822924))).setIfInBounds 6 ((UInt32.ofNat 528734635))).setIfInBounds 7 ((UInt32.ofNat 1541459225))) ((Vector.replicate 32 0)) 0) fun z8=>
 .ret z8.1) fun z7=>
 .bind (qa_ N ((Vector.replicate 32 0)) z7.1 ((Vector.replicate 32 0)) 0) fun z8=>
 .ret z8.1
def KD (N:Nat) (a0:List UInt8):Option (Vector UInt8 32):=(qiD N a0).run some
def qy2 (N:Nat):List (Nat×qM):=[(2,qiW N),(5,qjO N),(10,qhz N),(15,qhE N)]
def qqs (N:Nat):Ent:=smF ⟨85,[],[.x .bl],[],[]⟩ [.bl] (Vector UInt8 32) (fun x=>KD N x.1) cs1 fun _=>qjF
theorem qui (N:Nat):qcv Tryz.prog ⟨85,[],[.x .bl],[],[]⟩ [.bl] (fun x=>qiD N x.1) (fun _=>qjF):=
 qal (H:=Z3) (L:=qR (qy2 N)) 0 qAx (Xy N) (qy (by kernel_rfl) ⟨qq_ N,qqY N,qpC N,qo5 N,trivial⟩) (rg0 (by kernel_rfl)) fun x=>by kernel_rfl
theorem qoh (N:Nat):zl Tryz.prog (qqs N):=qfv (qui N)
end Go.Rx
end
set_option maxRecDepth 100000
noncomputable section
namespace Go.Rx
open Go.Proofs
def dg0:Vector UInt8 32:=#v[110,52,11,156,255,179,122,152,156,165,68,230,187,120,10,44,120,144,29,63,179,55,56,118,133,17,163,6,23,175,160,29]
theorem qEW:KD 300 [0]=some dg0:=by kernel_rfl
def dg1:Vector UInt8 32:=#v[45,113,22,66,183,38,176,68,1,98,124,169,251,172,50,245,200,83,15,177,144,60,196,219,2,37,135,23,146,26,72,129]
theorem qER:KD 300 [120]=some dg1:=by kernel_rfl
def dg2:Vector UInt8 32:=#v[217,234,19,0,182,245,117,92,168,138,178,15,28,158,218,100,105,227,235,245,218,173,131,66,21,81,99,85,79,134,92,199]
theorem qEV:KD 300 [1,7,0,0,0,0,0,0,0,0,0,0,0,0,0,0,0,0,1,2,9,1,120]=some dg2:=by kernel_rfl
def qEf:List (List UInt8×Vector UInt8 32):=[([0],dg0),([120],dg1),([1,7,0,0,0,0,0,0,0,0,0,0,0,0,0,0,0,0,1,2,9,1,120],dg2)]
theorem qC_:qxi (KD 300) qEf:=⟨qEW,qER,qEV,trivial⟩
def qsk:Ent:=smF ⟨85,[],[.x .bl],[],[]⟩ [.bl] (Vector UInt8 32) (fun x=>qrJ qEf x.1) cs1 fun _=>qjF
theorem qDy:zl Tryz.prog qsk:=qEw (qoh 300) fun x z h=>qvz qC_ x.1 z h
end Go.Rx
end
set_option maxRecDepth 100000
noncomputable section
namespace Go.Rx
open Go.Proofs
def qDE:List (Nat×TH):=[(9,{ live:=[(1,[1]),(2,[1,3]),(3,[1,3,5]),(4,[1,3,5,7]),(5,[1,3,5,7,46]),(6,[0]),(7,[1,3,5,7,8,9]),(8,[0])],dec:=[34,39,57,62,74],rd:=[(1,[1]),(2,[3]),(3,[5]),(7,[8])] }),
 (13,{ live:=[(0,[2,3,4]),(1,[2,3,4,6]),(2,[2,3,4,6,39]),(3,[4,5]),(4,[2,4,47,48,49]),(5,[2,4,47,48,49,50]),(6,[2,4,8,47,48,49]),(7,[2,4,8,47,48,49,54]),(8,[2,4,9,10,47,48,49]),(9,[2,4,9,10,47,48,49,64]),(10,[4,5]),(11,[2,4,47,48,49]),(12,[2,4,47,48,49]),(13,[4,5])],dec:=[19,23,29,34],rd:=[(1,[6]),(6,[8]),(8,[9])] }),
 (16,{ live:=[(0,[2,3]),(1,[2,3,14]),(2,[4]),(3,[2,3,5]),(4,[5,17]),(5,[5,6]),(6,[5,6,21]),(8,[4])],dec:=[10],fresh:=[17],rd:=[(5,[6])] }),
 (20,{ live:=[(0,[3,4,5,6]),(1,[3,4,9]),(2,[8])],rd:=[(1,[9])] }),
 (21,{ live:=[(0,[1,2]),(1,[1,2,13]),(2,[2,3]),(3,[1,2,4]),(4,[2,4,19,20,21]),(5,[2,4,19,20,21,22]),(6,[2,4,6,19,20,21]),(7,[2,4,6,7,19,20,21]),(8,[2,4,7,19,20,21,31,32,33]),(9,[2,4,7,19,20,21,31,32,33,34]),(10,[2,4,7,9,19,20,21,31,32,33]),(11,[2,4,7,9,10,19,20,21,31,32,33]),(12,[2,4,7,19,20,21,31,32,33]),(13,[2,4,7,19,20,21,31,32,33]),(14,[2,4,19,20,21]),(15,[2,4,19,20,21]),(16,[2,3])],rd:=[(6,[6]),(10,[9])] }),
 (22,{ live:=[(0,[2,3,4]),(1,[2,3,4,22]),(2,[4,5]),(3,[2,3,4,6]),(4,[2,3,4,6,7]),(5,[4,6,7,30,31,32]),(6,[4,6,7,30,31,32,33]),(7,[4,6,7,9,30,31,32]),(8,[4,6,7,9,10,11,30,31,32]),(9,[4,6,7,9,10,30,31,32,44]),(10,[4,6,7,9,30,31,32]),(11,[4,6,7,30,31,32]),(12,[4,6,7,30,31,32]),(13,[4,6,7,30,31,32]),(14,[4,6,7,67]),(15,[4,5]),(16,[4,6,7]),(17,[4,6,7,12]),(18,[4,6,12,71,72,73]),(19,[4,6,12,71,72,73,74]),(20,[4,6,12,14,71,72,73]),(21,[4,6,12,71,72,73]),(22,[4,6,12,71,72,73]),(23,[4,5])],dec:=[18],rd:=[(7,[9]),(8,[10]),(20,[14])] }),
 (24,{ live:=[(0,[2,3]),(1,[4])] }),
 (25,{ live:=[(0,[1]),(1,[1,6,7,8]),(2,[1,6,7,8,9]),(3,[1,3,4,6,7,8]),(4,[1,6,7,8,32]),(5,[2]),(6,[1,6,7,8]),(7,[2])],dec:=[16,19],rd:=[(3,[4])] }),
 (26,{ live:=[(0,[2,3,4]),(1,[2,4,6]),(2,[2,4,6,12]),(3,[4,5]),(4,[4,5])] }),
 (28,{ live:=[(0,[2,3]),(1,[4])],dec:=[8] }),
 (32,{ live:=[(0,[3,5,6,7,9,10]),(1,[3,5,6,7,9,10,27]),(2,[10,11]),(3,[10,11])],dec:=[15,19,23] }),
 (33,{ live:=[(0,[1]),(1,[2])],dec:=[7] }),
 (34,{ live:=[(0,[1]),(1,[2])],dec:=[6,10,15,20] }),
 (35,{ live:=[(0,[1]),(1,[1,21]),(2,[2]),(3,[1,23,24,25]),(4,[1,23,24,25,26]),(5,[1,3,4,23,24,25]),(6,[1,4,5,23,24,25]),(7,[1,23,24,25,74]),(8,[2]),(9,[1,23,24,25]),(10,[2])],dec:=[10,15,32,37,40,55,60,66],rd:=[(5,[4])] }),
 (40,{ live:=[(0,[1]),(1,[1,6,7,8]),(2,[1,6,7,8,9]),(3,[1,3,4,6,7,8]),(4,[1,6,7,8,32]),(5,[2]),(6,[1,6,7,8]),(7,[2])],dec:=[16,19],rd:=[(3,[4])] }),
 (41,{ live:=[(0,[2,3]),(1,[4])],esc:=true }),
 (49,{ live:=[(0,[3,4,5]),(1,[3,4,7]),(2,[3,4,7,12]),(3,[6]),(4,[3,4,7,19]),(5,[6]),(6,[3,4,7,22]),(7,[6]),(8,[6])] }),
 (50,{ live:=[(0,[1,2]),(1,[2,3]),(2,[2])] }),
 (51,{ live:=[(0,[0,2]),(1,[2])] }),
 (52,{ live:=[(0,[0]),(1,[0,6]),(2,[2]),(3,[0,3]),(4,[0,3,9]),(5,[0,3]),(6,[0,3]),(7,[2])] }),
 (53,{ live:=[(0,[0]),(1,[0,3]),(2,[0,3,9,10,11]),(3,[0,3,9,10,11,12]),(4,[0,3,5,9,10,11]),(5,[0,3,9,10,11]),(6,[0,3,9,10,11,20]),(7,[0,3,9,10,11]),(8,[0,3,9,10,11]),(9,[0,6]),(10,[6,25,26,27]),(11,[6,25,26,27,28]),(12,[6,8,25,26,27]),(13,[6,25,26,27]),(14,[6,25,26,27]),(15,[2])],raw:=[87],fresh:=[24] }),
 (54,{ live:=[(0,[1,2]),(1,[1,2]),(2,[2])] }),
 (55,{ live:=[(0,[2,3,4]),(1,[2,3,4,23]),(2,[4,5]),(3,[2,3,4,6]),(4,[2,3,4,6]),(5,[2,3,4,6]),(6,[4,6,7]),(7,[4,7,43]),(8,[7,8]),(10,[4,5])],dec:=[12,17],fresh:=[43],rd:=[(8,[8])] }),
 (56,{ live:=[(0,[0,1,4])] }),
 (57,{ live:=[(0,[2,3]),(1,[4])] }),
 (58,{ live:=[(0,[0,1,2]),(1,[0,1,2,14]),(2,[6]),(3,[1,2,15,16,17]),(4,[1,2,15,16,17,18]),(5,[1,2,7,8,15,16,17]),(6,[1,2,8,9,15,16,17]),(7,[1,2,15,16,17,30]),(8,[6]),(9,[1,2,15,16,17]),(10,[6])],rd:=[(5,[8]),(6,[9])] }),
 (59,{ live:=[(0,[2,3]),(1,[4])],dec:=[10,17] }),
 (60,{ live:=[(0,[2,3]),(1,[4])],dec:=[8] }),
 (61,{ live:=[(0,[0,1]),(1,[0,1,7,8]),(2,[0,1,7,8,9]),(3,[0,1,5,7,8]),(4,[0,1,5,7,8,16]),(5,[4]),(6,[0,1,7,8]),(7,[4])] }),
 (62,{ live:=[(0,[1,2]),(1,[3])] }),
 (63,{ live:=[(0,[1,2]),(1,[1,2]),(2,[1,2,10,11]),(3,[1,2,10,11,12]),(4,[1,2,3,10,11]),(5,[1,2,10,11]),(6,[1,2,10,11]),(7,[2])],fresh:=[6] }),
 (64,{ live:=[(0,[0,1]),(1,[0,1,7,8]),(2,[0,1,7,8,9]),(3,[0,1,5,7,8]),(4,[0,1,5,7,8,16]),(5,[4]),(6,[0,1,7,8]),(7,[4])] }),
 (66,{ live:=[(0,[0]),(1,[0,3]),(2,[3,6,7,8]),(3,[3,6,7,8,9]),(4,[3,5,6,7,8]),(5,[3,5,6,7,8,14]),(6,[2]),(7,[3,6,7,8]),(8,[2])] }),
 (67,{ live:=[(0,[0,1]),(1,[0,1,5]),(2,[0,1,5,6]),(3,[0,1,6,11]),(4,[12]),(5,[4]),(6,[4]),(7,[0,1,13]),(8,[4]),(9,[0,1,16]),(10,[4]),(11,[19]),(12,[4]),(13,[4])] }),
 (72,{ live:=[(0,[1,2,3,6]),(1,[2,3,6,8,9]),(2,[2,3,6,8,9,18]),(3,[6,7]),(4,[6,7])],rd:=[(1,[8])] }),
 (73,{ live:=[(0,[1,2,3,4,5]),(1,[5])] }),
 (74,{ live:=[(0,[1]),(1,[2])],dec:=[7,12] }),
 (78,{ live:=[(0,[1]),(1,[1,6,7,8]),(2,[1,6,7,8,9]),(3,[1,3,4,6,7,8]),(4,[1,6,7,8,33]),(5,[2]),(6,[1,6,7,8]),(7,[2])],dec:=[18,21,38,43],rd:=[(3,[4])] }),
 (79,{ live:=[(0,[0,2,12,13,14]),(1,[0,2,12,13,14,15]),(2,[0,2,5,12,13,14]),(3,[0,2,5,6,12,13,14]),(4,[0,2,5,6,8,12,13,14]),(5,[0,2,5,6,8,12,13,14,32]),(6,[0,2,5,6,8,12,13,14]),(7,[0,2,6,8,12,13,14,37,38,39]),(8,[0,2,6,8,12,13,14,37,38,39,40]),(9,[0,2,6,8,10,12,13,14,37,38,39]),(10,[0,2,6,8,10,12,13,14,37,38,39,48]),(11,[0,2,6,8,12,13,14,37,38,39]),(12,[0,2,6,8,12,13,14,37,38,39]),(13,[0,2,12,13,14,59]),(14,[0,2,12,13,14])],fresh:=[58],rd:=[(2,[5]),(3,[6]),(9,[10])] }),
 (82,{ live:=[(0,[1,2]),(1,[3])] }),
 (83,{ live:=[(0,[2,3]),(1,[4])],dec:=[8] }),
 (84,{ live:=[(0,[1]),(1,[1,15]),(2,[2,3]),(3,[1,4]),(4,[4,22,23,24]),(5,[4,22,23,24,25]),(6,[4,6,22,23,24]),(7,[4,6,7,22,23,24]),(8,[4,6,22,23,24]),(9,[4,22,23,24,47,48,49]),(10,[4,22,23,24,47,48,49,50]),(11,[4,10,22,23,24,47,48,49]),(12,[4,10,11,22,23,24,47,48,49]),(13,[4,22,23,24,47,48,49]),(14,[4,22,23,24,47,48,49]),(15,[4,22,23,24]),(16,[2,3])],fresh:=[20],esc:=true,rd:=[(6,[6]),(11,[10])] }),
 (85,{ live:=[(0,[0,2]),(1,[0,2,3]),(2,[0,2,3,16]),(3,[0,2,3]),(4,[0,2,3,20]),(5,[0,2,3,20,21]),(6,[0,2,3,4,20]),(7,[0,2,3,20]),(8,[0,2,3,20]),(9,[2,3,5,6]),(10,[2,3,5,6,40]),(11,[2,3,5,6]),(12,[2,3,5,6]),(13,[2,5,7]),(14,[2,5,7,46]),(15,[2,5,7,46,47]),(16,[2,5,7,8,46]),(17,[2,5,7,46]),(18,[2,5,7,46]),(19,[2])],fresh:=[10] }),
 (86,{ live:=[(0,[0,2]),(1,[2])] }),
 (87,{ live:=[(0,[0,1]),(1,[0,1,6]),(2,[0,1]),(3,[0,1]),(4,[0,1,16]),(5,[0]),(6,[4])],esc:=true,nil:=[(5,[⟨.sl 0,900000870,(.sl 19 (.ag [(.ba 16),(.ag [(.i .i64),(.i .i64)]),(.sl 4 (.ag [(.i .i64),(.ag [(.ag [(.i .i64),(.i .i64)]),.s])]))]))⟩])] }),
 (88,{ live:=[(0,[0]),(1,[0,4]),(2,[2]),(3,[2])],vecs:=[5],esc:=true }),
 (89,{ live:=[(0,[0,3]),(1,[0,9,10,11]),(2,[0,9,10,11,12]),(3,[0,5,9,10,11]),(4,[0,5,6,7,9,10,11]),(5,[0,5,6,9,10,11,22]),(6,[0,9,10,11]),(7,[0,9,10,11]),(8,[0,9,10,11])],rd:=[(3,[5]),(4,[6])] }),
 (90,{ live:=[(0,[2,3,4]),(1,[2,3,4,7]),(2,[4]),(3,[4])] }),
 (91,{ live:=[(0,[2,3]),(1,[4])],esc:=true }),
 (92,{ live:=[(0,[0,1,2,3,4,10]),(1,[0,1,2,3,4,10,11]),(2,[0,1,2,3,4,10,11,12]),(3,[0,1,2,3,4,10,11,12,25]),(5,[0,1,2,3,4,10,11,12,32]),(7,[0,1,2,3,4,10,11,12,39]),(8,[0,1,2,3,4,10,11,12]),(9,[0,1,2,3,4,10,11,12]),(10,[0,1,2,3,4,10,11,12,13,14]),(11,[0,1,2,3,4,10,11,12,13,14,56]),(12,[0,1,2,3,4,10,11,12,13]),(13,[0,1,2,3,4,10,11,12,13]),(14,[0,1,2,3,4,10,11,12,13,14]),(15,[0,1,2,3,4,10,11,12,13,75]),(16,[0,1,2,3,4,10,11,12,13,80]),(17,[0,1,2,3,4,10,11,12,13,97]),(18,[0,2,3,4,10,11,15]),(19,[0,1,2,3,4,10,11]),(20,[0,1,2,3,4,12,16,17]),(21,[0,1,2,3,4,11,12,16]),(22,[0,1,2,3,4,11,12,16,18,19]),(23,[0,1,2,3,4,11,16,18,19,20]),(24,[0,1,2,3,4,11,16,18,19,20,125]),(25,[0,1,2,3,4,10,11,16]),(26,[0,2,3,4,10,11,16]),(27,[0,1,2,3,4,10,11]),(28,[0,1,2,3,4,10,11,16]),(29,[0,1,3,4,10,11,16]),(30,[0,1,2,3,4,10,11])],dec:=[69,72,83] }),
 (93,{ live:=[(0,[0]),(1,[2]),(2,[2])] }),
 (94,{ live:=[(0,[0,1]),(1,[4])] }),
 (95,{ live:=[(0,[0,1]),(1,[0,1,10]),(2,[4]),(3,[0,1,12,13]),(4,[0,1,12,13,14]),(5,[0,1,5,12,13]),(6,[0,1,12,13,24]),(7,[4]),(8,[0,1,12,13]),(9,[4])] }),
 (96,{ live:=[(0,[0]),(1,[0,4]),(2,[2]),(3,[2])],vecs:=[5],esc:=true }),
 (97,{ live:=[(0,[0]),(1,[0,4]),(2,[2]),(3,[2])],vecs:=[5],esc:=true }),
 (98,{ live:=[(0,[0]),(1,[2])] }),
 (99,{ live:=[(0,[1,2,4]),(1,[1,2,4,6]),(2,[1,4,6,12]),(3,[1,4,6,12]),(4,[4,6,12]),(5,[4,5]),(6,[4,6,21]),(7,[4,5]),(8,[4,5])],rd:=[(1,[6])] }),
 (100,{ live:=[(0,[1,2]),(1,[1,2,3]),(2,[2,3,9,10,11]),(3,[2,3,9,10,11,12]),(4,[2,3,5,9,10,11]),(5,[2,3,5,9,10,11]),(6,[2,3,9,10,11,20,21,22]),(7,[2,3,9,10,11,20,21,22,23]),(8,[2,3,7,9,10,11,20,21,22]),(9,[2,3,9,10,11,20,21,22]),(10,[2,3,9,10,11,20,21,22]),(11,[2,3,9,10,11]),(12,[2])],rd:=[(4,[5]),(8,[7])] }),
 (103,{ live:=[(0,[2,3]),(1,[4])],dec:=[8,13,18,23,32,37] }),
 (108,{ live:=[(0,[0]),(1,[0,3]),(2,[0,3,4]),(3,[0,3,4,10,11]),(4,[0,3,4,10,11,12]),(5,[0,3,4,5,10,11]),(6,[0,3,4,10,11]),(7,[0,3,4,10,11]),(8,[4]),(9,[2])],esc:=true }),
 (109,{ live:=[(0,[1]),(1,[1,6]),(2,[2,3]),(3,[2,3])],fresh:=[15],esc:=true }),
 (110,{ live:=[(0,[1]),(1,[1,8]),(2,[2,3]),(3,[1,4]),(4,[2,3])],fresh:=[12],esc:=true }),
 (111,{ live:=[(0,[0]),(1,[0,4]),(2,[2]),(3,[2])],vecs:=[5],esc:=true }),
 (112,{ live:=[(0,[0]),(1,[0])] }),
 (113,{ live:=[(0,[0]),(1,[0])] }),
 (114,{ live:=[(0,[0,2,6]),(1,[0,2,6,7]),(2,[0,2,6,7,19]),(3,[0,2,6,7,19,20]),(4,[0,2,6,7,8,19]),(5,[0,2,6,7,8,9,10,19]),(6,[0,2,6,7,9,11,19]),(7,[0,2,6,7,11,12,19]),(8,[0,2,6,7,11,12,19]),(9,[0,2,6,7,11,19]),(10,[0,2,6,7,19]),(11,[0,2,6,7,19]),(12,[0,7,95]),(13,[0,7,95,96]),(14,[0,7,13,95]),(15,[0,7,95]),(16,[0,7,95])],rd:=[(0,[6])] }),
 (115,{ live:=[(0,[0]),(1,[0,3,4]),(2,[0,3,4,7,8]),(3,[0,3,4,7,8,9]),(4,[0,3,4,5,7,8]),(5,[0,3,4,7,8]),(6,[0,3,4,7,8]),(7,[0,3,4,7,8]),(8,[2])] }),
 (116,{ live:=[(0,[2,3,4]),(1,[2,3,4,7]),(2,[4]),(3,[4])] }),
 (117,{ live:=[(0,[0,1,2,7]),(1,[0,1,2,7,8]),(2,[0,1,2,4,7]),(3,[0,1,2,4,5,6,7]),(4,[0,1,2,7,30]),(5,[0,1,2,7])],dec:=[17,23],rd:=[(3,[5])] }),
 (118,{ live:=[(0,[0,1,2,3,8]),(1,[0,1,2,3,8,14]),(2,[0,1,2,3,8]),(3,[0,1,2,3,8,9]),(4,[0,1,2,3,8,9,34]),(5,[0,1,2,3,8,9]),(6,[0,1,2,3,8,9])],dec:=[21] }),
 (119,{ live:=[(0,[0,1,2,3,8]),(1,[0,1,2,3,8,9]),(2,[0,3,8,9,10]),(3,[0,3,8,9,10,11]),(4,[0,3,8,9,10,11,21]),(5,[0,3,8,9,10,11]),(6,[0,3,8,9,10,11]),(7,[0,3,8,9,12]),(8,[0,3,8,9,12,33]),(9,[0,3,8,9,12]),(10,[0,3,8,9,12]),(11,[0,3,8,9,12])] }),
 (120,{ live:=[(0,[0,1,8]),(1,[0,1,8,17]),(2,[0,1,8,9]),(3,[0,1,8,9,10]),(4,[0,1,8,9,10,11]),(5,[0,1,8,9,10,11,35]),(6,[0,1,8,9,10,11]),(7,[0,1,8,9,10,11,12]),(8,[0,1,8,9,10,11,12,45]),(9,[0,1,8,9,10,11,12]),(10,[0,1,8,9,10,11])] }),
 (121,{ live:=[(0,[0,1,2,3]),(1,[0,1,3,10]),(2,[0,1,3,10,11]),(3,[0,1,3,10,11,12]),(4,[0,1,3,10,11,12,13]),(5,[0,3,10,11,12,13,14]),(6,[0,3,10,11,12,13,14,34]),(7,[0,3,11,12,13,14,36]),(8,[0,3,11,12,13,14]),(9,[0,3,11,12,13,14]),(10,[0,3,11,12,13,14]),(11,[11,13]),(12,[13,55]),(13,[8,9]),(14,[13,55,57]),(15,[8,9]),(16,[13,60]),(17,[8,9])] }),
 (122,{ live:=[(0,[0,2,8]),(1,[0,8,9]),(2,[0,8,9,15]),(3,[0,8,9]),(4,[0,8,9]),(5,[0,8,9])] }),
 (123,{ live:=[(0,[0,1,2,3]),(1,[0,1,2,3,9]),(2,[0,1,2,3,9,10]),(3,[0,1,2,3,9,10,16]),(4,[0,1,2,3,9,10]),(5,[0,1,2,3,9,10,36]),(6,[0,1,2,3,9,10]),(7,[0,1,2,3,9,10,41]),(8,[8]),(9,[0,1,2,3,9,10,45]),(10,[8]),(11,[0,1,2,3,9,10]),(12,[0,1,2,3,9,10,65]),(13,[0,1,2,3,9,10,11]),(14,[0,1,2,3,9,10,11,69]),(15,[0,1,2,3,9,10,11]),(16,[0,1,2,3,9,10,11,84]),(17,[0,1,2,3,9,10,11]),(18,[0,1,2,3,9,10,104]),(19,[0,1,2,3,9,10,12]),(20,[0,1,2,3,9,10,12,109]),(21,[0,1,2,3,9,10,12]),(22,[0,1,2,3,9,10,12,124]),(23,[0,1,2,3,9,10,12]),(24,[8])],dec:=[22] }),
 (124,{ live:=[(0,[0,1,2,3,4]),(1,[0,1,2,4]),(2,[0,1,4,11,12]),(3,[0,1,4,11,12,47]),(4,[0,1,4,11,12]),(5,[0,1,4,11,12,65]),(6,[0,1,4,11,12]),(7,[0,1,4,11,12,70]),(8,[0,1,4,11,12]),(9,[0,1,4,11,12]),(10,[0,1,4,11,12]),(11,[10])],dec:=[34,53] }),
 (125,{ live:=[(0,[0,1,2,3,4]),(1,[0,1,2,4]),(2,[0,1,4,12,13]),(3,[0,1,4,12,13,47]),(4,[0,1,4,12,13]),(5,[0,1,4,12,13,66]),(6,[0,1,4,12,13]),(7,[0,1,4,12,13,71]),(8,[13]),(9,[10,11]),(10,[0,1,4,12,13]),(11,[0,1,4,12,13]),(12,[0,1,4,12,13]),(13,[0,1,4,12,13,120]),(14,[0,1,4,12,13]),(15,[0,1,4,12,13,139]),(16,[0,1,4,12,13]),(17,[0,1,4,12,13,144]),(18,[0,1,4,12,13]),(19,[0,1,4,12,13]),(20,[0,1,4,12,13]),(21,[13]),(22,[10,11])],dec:=[35,53,108,126] }),
 (126,{ live:=[(0,[0,2]),(1,[0,2,4]),(2,[0]),(3,[0,2]),(4,[0,2,8]),(5,[0,2]),(6,[0,2]),(7,[2])] }),
 (127,{ live:=[(0,[0,2]),(1,[0,2,4]),(2,[0]),(3,[0,2]),(4,[0,2,8]),(5,[0,2]),(6,[0,2]),(7,[0,2,14]),(8,[0,2]),(9,[0,2]),(10,[2])] }),
 (132,{ live:=[(0,[0]),(1,[0,4]),(2,[2]),(3,[2])] }),
 (133,{ live:=[(0,[0]),(1,[0,3]),(2,[0,3]),(3,[0,3,7]),(4,[0,3]),(5,[0,3]),(6,[2])] }),
 (134,{ live:=[(0,[0]),(1,[2])],fresh:=[6],esc:=true }),
 (135,{ live:=[(0,[0,2]),(1,[0,2,3]),(2,[0,2,3,7]),(3,[0,2,3,7,8]),(4,[0,2,3,4,7]),(5,[0,2,3,4,7,11]),(6,[0,2,3,7]),(7,[0,2,3,4,5,6,7]),(8,[0,2,3,7]),(9,[0,2,3,7]),(10,[2])] }),
 (136,{ live:=[(0,[0,1]),(1,[4])] }),
 (137,{ live:=[(0,[0,1]),(1,[4])] }),
 (138,{ live:=[(0,[2,3]),(1,[5]),(2,[13,14]),(3,[13,14,15]),(4,[7,13,14]),(5,[8,13,14]),(6,[8,13,14,20]),(7,[4]),(8,[13,14]),(9,[4])],rd:=[(1,[5])] }),
 (139,{ live:=[(0,[0,2,3,4,10]),(1,[0,2,3,4,10,11]),(2,[0,2,3,4,10,11,18]),(3,[0,2,3,4,10,11,40]),(4,[0,2,3,4,10,11]),(5,[0,2,3,4,10,11,58]),(6,[0,2,3,4,11]),(7,[0,2,3,4,10])],dec:=[23] }),
 (140,{ live:=[(0,[0]),(1,[2])] }),
 (141,{ live:=[(0,[0]),(1,[0]),(2,[0]),(3,[0]),(4,[2])] }),
 (142,{ live:=[(0,[0,1,2,3]),(1,[8])] }),
 (143,{ live:=[(0,[0,1,2,3,4,5]),(1,[0,1,2,3,4,5]),(2,[0,1,2,4,5]),(3,[2]),(4,[12])] }),
 (145,{ live:=[(0,[0,1]),(1,[0,5]),(2,[4])] }),
 (146,{ live:=[(0,[0,1]),(1,[2])] }),
 (147,{ live:=[(0,[2,3,4]),(1,[2,3,4,7]),(2,[6]),(3,[12]),(4,[6]),(5,[6])] }),
 (148,{ live:=[(0,[0,1]),(1,[2])] }),
 (149,{ live:=[(0,[2,3,4]),(1,[2,3,4,7]),(2,[6]),(3,[12]),(4,[6]),(5,[6])] }),
 (150,{ live:=[(0,[0,1]),(1,[2])] }),
 (151,{ live:=[(0,[0,1]),(1,[0,1,5]),(2,[0,1,5,6]),(3,[0,1,6,11]),(4,[12]),(5,[4]),(6,[4]),(7,[0,1,13]),(8,[4]),(9,[0,1,16]),(10,[4]),(11,[19]),(12,[4]),(13,[4])] }),
 (152,{ live:=[(0,[0,1,2,3,4]),(1,[1,2,3,22]),(2,[1,2]),(3,[10,11]),(4,[10,11])] }),
 (153,{ live:=[(0,[0]),(1,[2])] })]
def qDf (k:FuncId):TH:=(get qDE k).getD {}
theorem qDh:qjC Tryz.prog [16,55]:=⟨qsj (fn:=Tryz.f16) (c:=Tryz.f16.body.getD .skip) (by kernel_rfl) (by kernel_rfl) (by kernel_rfl),qsj (fn:=Tryz.f55) (c:=Tryz.f55.body.getD .skip) (by kernel_rfl) (by kernel_rfl) (by kernel_rfl),trivial⟩
def qxb:Option Bool:=some true
theorem qyt:qwT Tryz.prog qDf [16,55] [qsk] 400 30 9=some (.pv (.b true),[]):=by kernel_rfl
def qv4:Ent:=smF ⟨9,[],[],[],[]⟩ [] Bool (fun _=>qxb) cs1 fun _ z=>(xb z,[])
theorem qCm:zl Tryz.prog qv4:=qC4 Tryz.prog (fun _=>rfl) qo (base:=[qsk]) ⟨qDy,trivial⟩ qDh qyt
end Go.Rx
end
set_option maxRecDepth 100000
noncomputable section
namespace Go.Rx
open Go.Proofs
def qiU:List UInt8:=[0,1,2,2,3,3,3,3,4,4,4,4,4,4,4,4,5,5,5,5,5,5,5,5,5,5,5,5,5,5,5,5,6,6,6,6,6,6,6,6,6,6,6,6,6,6,6,6,6,6,6,6,6,6,6,6,6,6,6,6,6,6,6,6,7,7,7,7,7,7,7,7,7,7,7,7,7,7,7,7,7,7,7,7,7,7,7,7,7,7,7,7,7,7,7,7,7,7,7,7,7,7,7,7,7,7,7,7,7,7,7,7,7,7,7,7,7,7,7,7,7,7,7,7,7,7,7,7,8,8,8,8,8,8,8,8,8,8,8,8,8,8,8,8,8,8,8,8,8,8,8,8,8,8,8,8,8,8,8,8,8,8,8,8,8,8,8,8,8,8,8,8,8,8,8,8,8,8,8,8,8,8,8,8,8,8,8,8,8,8,8,8,8,8,8,8,8,8,8,8,8,8,8,8,8,8,8,8,8,8,8,8,8,8,8,8,8,8,8,8,8,8,8,8,8,8,8,8,8,8,8,8,8,8,8,8,8,8,8,8,8,8,8,8,8,8,8,8,8,8,8,8,8,8,8,8]
noncomputable def qlT:Code:=Tryz.f12.body.getD .skip
theorem qAk:FnF Tryz.prog 12 Tryz.f12 qlT:=⟨qo,by kernel_rfl,by kernel_rfl,by kernel_rfl⟩
def Wr:TH:={ live:=[(0,[1]),(1,[1,7]),(2,[2]),(3,[1,3]),(4,[1,3,12]),(5,[1,3]),(6,[1,3,23]),(7,[2]),(8,[2])] }
def qbw (N:Nat):List Ent:=[]
theorem KW (N:Nat):qU Tryz.prog (qbw N):=trivial
abbrev Zu:=qa
abbrev j8:=Unit⊕(Int×Bool)
def vY (f:Zu):j8→Ex×TSt
 | .inl y=>(.ret,⟨0,24,[],[(2,.bc false)],[],false,[]⟩)
 | .inr y=>(.exit 0,⟨0,24,[],[(1,.p 10 [] 0),(3,xi y.1),(12,xb y.2)],[(10,.cell false (.tv qf f))],false,[]⟩)
def qge (N:Nat):List (Nat×qM):=[]
abbrev vZ:=Int
def Kp:SP:=⟨0,24,[],[(1,.k (.p 10 [] 0)),(3,.x (.i .i64))],[(10,.cell false (.x qf))],false,[]⟩
def qfY (f:Zu) (v:vZ):TSt:=jq Kp [dv qf f,dv (.i .i64) v]
def ZC (N:Nat) (o_4:qa) (v:vZ):Tree (vZ⊕j8):=
 .cond (decide (v < (((qa.F o_4).length:Nat):Int))) (
 .bind (zp (qa.F o_4) v) fun e1=>
 .cond (decide (((300:Int)) < (((qc.V (qb.C e1)).length:Nat):Int))) (
 .ret (.inr (.inl ()))) <|
 .chk (qx (v + 1)) <|
 .ret (.inl (v + 1))) <|
 .ret (.inr (.inr ((v,decide (v < (((qa.F o_4).length:Nat):Int))))))
def Kq (N n:Nat) (f:Zu) (v:vZ):Option j8:=qY (ZC N f) some n v
theorem qfM (N:Nat) (f:Zu) (n:Nat) (v:vZ) (y:j8) (h:Kq N n f v=some y):LG Tryz.prog Wr 12 (q_ qlT 4) (qfY f v) (vY f y):=
 z9 qo (E:=qbw N) (L:=qR (qge N)) (st:=vY f) (g:=some) (R:=vY f) (KW N) (qy (by kernel_rfl) trivial) (rg0 (by kernel_rfl)) (fun v=>by kernel_rfl) (zn (st:=vY f) fun y=>by rcases y with _ | _<;>rfl) n v y h
def XG (N:Nat) (o_4:qa) (s3_4:Int):Option j8:=Kq N N o_4 s3_4
def Kf (N:Nat):qM:=smL Kp [qf,(.i .i64)] j8 (fun x=>XG N x.1 x.2.1) (csS cs1) fun x=>vY x.1
theorem qeO (N:Nat):Qt Tryz.prog Wr 12 (q_ qlT 4) (Kf N):=jv fun x z h=>qfM N x.1 N x.2.1 z h
def qie (z:Bool):TV×THp:=(xb z,[])
def Wm (N:Nat) (a0:qa):Tree (Bool):=
 .cond (decide (((12:Int)) < (((qa.F a0).length:Nat):Int))) (
 .ret false) <|
 .bind (XG N a0 0) fun z1=>
 .sum z1 (fun z2=>
 .ret false) fun z2=>
 .ret true
def vg (N:Nat) (a0:qa):Option (Bool):=(Wm N a0).run some
def qjJ (N:Nat):List (Nat×qM):=[(4,Kf N)]
def X9 (N:Nat):Ent:=smF ⟨12,[],[.x qf],[],[]⟩ [qf] (Bool) (fun x=>vg N x.1) cs1 fun _=>qie
theorem qay (N:Nat):zl Tryz.prog (X9 N):=
 zo (H:=Wr) (L:=qR (qjJ N)) (ts:=[qf]) (T:=fun x=>Wm N x.1) 0 qAk (KW N) (qy (by kernel_rfl) ⟨qeO N,trivial⟩) (rg0 (by kernel_rfl)) fun x=>by kernel_rfl
noncomputable def ql5:Code:=Tryz.f10.body.getD .skip
theorem qAV:FnF Tryz.prog 10 Tryz.f10 ql5:=⟨qo,by kernel_rfl,by kernel_rfl,by kernel_rfl⟩
def Wx:TH:={ live:=[(0,[1]),(1,[1,8]),(2,[2]),(3,[1,3]),(4,[1,3,13]),(5,[1,3]),(6,[1,3,4]),(7,[1,3,23]),(8,[2]),(9,[2])] }
def qbk (N:Nat):List Ent:=[X9 N]
theorem qab (N:Nat):qU Tryz.prog (qbk N):=⟨qay N,trivial⟩
abbrev Zz:=qe
abbrev jY:=Unit⊕(Int×Bool)
def Qc (f:Zz):jY→Ex×TSt
 | .inl y=>(.ret,⟨0,24,[],[(2,.bc false)],[],false,[]⟩)
 | .inr y=>(.exit 0,⟨0,24,[],[(1,.p 10 [] 0),(3,xi y.1),(13,xb y.2)],[(10,.cell false (.tv qL f))],false,[]⟩)
def qfq (N:Nat):List (Nat×qM):=[]
abbrev Qb:=Int
def Ks:SP:=⟨0,24,[],[(1,.k (.p 10 [] 0)),(3,.x (.i .i64))],[(10,.cell false (.x qL))],false,[]⟩
def qf9 (f:Zz) (v:Qb):TSt:=jq Ks [dv qL f,dv (.i .i64) v]
def Zv (N:Nat) (o_4:qe) (v:Qb):Tree (Qb⊕jY):=
 .cond (decide (v < (((qe.R o_4).length:Nat):Int))) (
 .bind (zp (qe.R o_4) v) fun e1=>
 .bind (vg N e1) fun r2=>
 .cond (!r2) (
 .ret (.inr (.inl ()))) <|
 .chk (qx (v + 1)) <|
 .ret (.inl (v + 1))) <|
 .ret (.inr (.inr ((v,decide (v < (((qe.R o_4).length:Nat):Int))))))
def Ki (N n:Nat) (f:Zz) (v:Qb):Option jY:=qY (Zv N f) some n v
theorem qfO (N:Nat) (f:Zz) (n:Nat) (v:Qb) (y:jY) (h:Ki N n f v=some y):LG Tryz.prog Wx 10 (q_ ql5 4) (qf9 f v) (Qc f y):=
 z9 qo (E:=qbk N) (L:=qR (qfq N)) (st:=Qc f) (g:=some) (R:=Qc f) (qab N) (qy (by kernel_rfl) trivial) (rg0 (by kernel_rfl)) (fun v=>by kernel_rfl) (zn (st:=Qc f) fun y=>by rcases y with _ | _<;>rfl) n v y h
def XI (N:Nat) (o_4:qe) (s3_4:Int):Option jY:=Ki N N o_4 s3_4
def KG (N:Nat):qM:=smL Ks [qL,(.i .i64)] jY (fun x=>XI N x.1 x.2.1) (csS cs1) fun x=>Qc x.1
theorem qeJ (N:Nat):Qt Tryz.prog Wx 10 (q_ ql5 4) (KG N):=jv fun x z h=>qfO N x.1 N x.2.1 z h
def qjT (z:Bool):TV×THp:=(xb z,[])
def WC (N:Nat) (a0:qe):Tree (Bool):=
 .cond (decide (((14:Int)) < (((qe.R a0).length:Nat):Int))) (
 .ret false) <|
 .bind (XI N a0 0) fun z1=>
 .sum z1 (fun z2=>
 .ret false) fun z2=>
 .ret true
def VN (N:Nat) (a0:qe):Option (Bool):=(WC N a0).run some
def qjl (N:Nat):List (Nat×qM):=[(4,KG N)]
def qbB (N:Nat):Ent:=smF ⟨10,[],[.x qL],[],[]⟩ [qL] (Bool) (fun x=>VN N x.1) cs1 fun _=>qjT
theorem qib (N:Nat):zl Tryz.prog (qbB N):=
 zo (H:=Wx) (L:=qR (qjl N)) (ts:=[qL]) (T:=fun x=>WC N x.1) 0 qAV (qab N) (qy (by kernel_rfl) ⟨qeJ N,trivial⟩) (rg0 (by kernel_rfl)) fun x=>by kernel_rfl
noncomputable def qBl:Code:=Tryz.f34.body.getD .skip
theorem qBO:FnF Tryz.prog 34 Tryz.f34 qBl:=⟨qo,by kernel_rfl,by kernel_rfl,by kernel_rfl⟩
def qus:TH:={ live:=[(0,[1]),(1,[2])],dec:=[6,10,15,20] }
def quL (N:Nat):List Ent:=[]
theorem qqx (N:Nat):qU Tryz.prog (quL N):=trivial
def qu8 (z:Bool):TV×THp:=(xb z,[])
def qes (a0:qd):Tree (Bool):=
 .cond (eqE ql a0 (qd.mk 0 0)) (
 .ret true) <|
 .cond (decide (((0:Int)) < (qd.N a0))) (
 .cond (decide ((qd.N a0)≤((1099511627776:Int)))) (
 .cond (decide (((0:Int))≤(qd.Rep a0))) (
 .ret (decide ((qd.Rep a0) < ((8:Int))))) <|
 .ret false) <|
 .ret false) <|
 .ret false
def Kj (a0:qd):Option (Bool):=(qes a0).run some
def quA:List (Nat×qM):=[]
def qba:Ent:=smF ⟨34,[],[.x ql],[],[]⟩ [ql] (Bool) (fun x=>Kj x.1) cs1 fun _=>qu8
theorem qc_:zl Tryz.prog (qba):=
 zo (H:=qus) (L:=qR (quA)) (ts:=[ql]) (T:=fun x=>qes x.1) 0 qBO (qqx 0) (qy (by kernel_rfl) trivial) (rg0 (by kernel_rfl)) fun x=>by kernel_rfl
noncomputable def qBW:Code:=Tryz.f74.body.getD .skip
theorem qAf:FnF Tryz.prog 74 Tryz.f74 qBW:=⟨qo,by kernel_rfl,by kernel_rfl,by kernel_rfl⟩
def qwu:TH:={ live:=[(0,[1]),(1,[2])],dec:=[7,12] }
def qxS (N:Nat):List Ent:=[qba]
theorem qsz (N:Nat):qU Tryz.prog (qxS N):=⟨qc_,trivial⟩
def qya (z:Bool):TV×THp:=(xb z,[])
def qgG (a0:qc):Tree (Bool):=
 .cond (!(eqE ql (qc.S a0) (qd.mk 0 0))) (
 .bind (Kj (qc.S a0)) fun r1=>
 .cond r1 (
 .ret (decide ((((qc.V a0).length:Nat):Int)≤((200:Int))))) <|
 .ret false) <|
 .ret false
def Y4 (a0:qc):Option (Bool):=(qgG a0).run some
def qxu:List (Nat×qM):=[]
def qnc:Ent:=smF ⟨74,[],[.x qm],[],[]⟩ [qm] (Bool) (fun x=>Y4 x.1) cs1 fun _=>qya
theorem qvi:zl Tryz.prog (qnc):=
 zo (H:=qwu) (L:=qR (qxu)) (ts:=[qm]) (T:=fun x=>qgG x.1) 0 qAf (qsz 0) (qy (by kernel_rfl) trivial) (rg0 (by kernel_rfl)) fun x=>by kernel_rfl
noncomputable def qCn:Code:=Tryz.f98.body.getD .skip
theorem qAu:FnF Tryz.prog 98 Tryz.f98 qCn:=⟨qo,by kernel_rfl,by kernel_rfl,by kernel_rfl⟩
def qnN:TH:={ live:=[(0,[0]),(1,[2])] }
def qmQ (N:Nat):List Ent:=[]
theorem qkT (N:Nat):qU Tryz.prog (qmQ N):=trivial
def qmM (a0:Int) (z:Unit):TV×THp:=(xb (!decide (a0=a0)),[])
def K3 (a0:Int):Tree (Unit):=
 .ret ()
def YY (a0:Int):Option (Unit):=(K3 a0).run some
def qm8:List (Nat×qM):=[]
def qeh:Ent:=smF ⟨98,[],[.x (.i .i64)],[],[]⟩ [(.i .i64)] (Unit) (fun x=>YY x.1) cs1 fun x=>qmM x.1
theorem qlD:zl Tryz.prog (qeh):=
 zo (H:=qnN) (L:=qR (qm8)) (ts:=[(.i .i64)]) (T:=fun x=>K3 x.1) 0 qAu (qkT 0) (qy (by kernel_rfl) trivial) (rg0 (by kernel_rfl)) fun x=>by kernel_rfl
noncomputable def qAo:Code:=Tryz.f67.body.getD .skip
theorem qB2:FnF Tryz.prog 67 Tryz.f67 qAo:=⟨qo,by kernel_rfl,by kernel_rfl,by kernel_rfl⟩
def qkN:TH:={ live:=[(0,[0,1]),(1,[0,1,5]),(2,[0,1,5,6]),(3,[0,1,6,11]),(4,[12]),(5,[4]),(6,[4]),(7,[0,1,13]),(8,[4]),(9,[0,1,16]),(10,[4]),(11,[19]),(12,[4]),(13,[4])] }
def qkS (N:Nat):List Ent:=[qeh]
theorem qh5 (N:Nat):qU Tryz.prog (qkS N):=⟨qlD,trivial⟩
def qkV (z:Int):TV×THp:=(xi z,[])
def Ym (a0:Int) (a1:Int):Tree (Int):=
 .bind (YY a0) fun r1=>
 .bind (YY a1) fun r2=>
 .cond (!decide (a0=a0)) (
 .cond (!decide (a1=a1)) (
 .ret 0) <|
 .ret (-1)) <|
 .cond (!decide (a1=a1)) (
 .ret 1) <|
 .cond (decide (a0 < a1)) (
 .ret (-1)) <|
 .cond (decide (a1 < a0)) (
 .ret 1) <|
 .ret 0
def JQ (a0:Int) (a1:Int):Option (Int):=(Ym a0 a1).run some
def qkU:List (Nat×qM):=[]
def qcc:Ent:=smF ⟨67,[],[.x (.i .i64),.x (.i .i64)],[],[]⟩ [(.i .i64),(.i .i64)] (Int) (fun x=>JQ x.1 x.2.1) cs1 fun _=>qkV
theorem qjw:zl Tryz.prog (qcc):=
 zo (H:=qkN) (L:=qR (qkU)) (ts:=[(.i .i64),(.i .i64)]) (T:=fun x=>Ym x.1 x.2.1) 0 qB2 (qh5 0) (qy (by kernel_rfl) trivial) (rg0 (by kernel_rfl)) fun x=>by kernel_rfl
noncomputable def qlS:Code:=Tryz.f66.body.getD .skip
theorem qAv:FnF Tryz.prog 66 Tryz.f66 qlS:=⟨qo,by kernel_rfl,by kernel_rfl,by kernel_rfl⟩
def qdf:TH:={ live:=[(0,[0]),(1,[0,3]),(2,[3,6,7,8]),(3,[3,6,7,8,9]),(4,[3,5,6,7,8]),(5,[3,5,6,7,8,14]),(6,[2]),(7,[3,6,7,8]),(8,[2])] }
def qjy (N:Nat):List Ent:=[]
theorem qfz (N:Nat):qU Tryz.prog (qjy N):=trivial
abbrev XO:=List Int×Int
abbrev Zo:=Int⊕(Int×Bool)
def Jz (f:XO):Zo→Ex×TSt
 | .inl y=>(.ret,⟨0,18,[],[(2,xi y)],[],false,[]⟩)
 | .inr y=>(.exit 0,⟨0,18,[],[(3,.ic .i64 0),(6,.tv (.sl 1 (.i .i64)) f.1),(7,xi f.2),(8,xi y.1),(9,xb y.2)],[],false,[]⟩)
def qm5 (N:Nat):List (Nat×qM):=[]
abbrev JA:=Int
def qek:SP:=⟨0,18,[],[(3,.k (.ic .i64 0)),(6,.x (.sl 1 (.i .i64))),(7,.x (.i .i64)),(8,.x (.i .i64))],[],false,[]⟩
def qnp (f:XO) (v:JA):TSt:=jq qek [dv (.sl 1 (.i .i64)) f.1,dv (.i .i64) f.2,dv (.i .i64) v]
def Qx (N:Nat) (s6_3:List Int) (s7_3:Int) (v:JA):Tree (JA⊕Zo):=
 .cond (decide (v < s7_3)) (
 .bind (zp s6_3 v) fun e1=>
 .cond (!decide (e1=((0:Int)))) (
 .ret (.inr (.inl e1))) <|
 .chk (qx (v + 1)) <|
 .ret (.inl (v + 1))) <|
 .ret (.inr (.inr ((v,decide (v < s7_3)))))
def qdZ (N n:Nat) (f:XO) (v:JA):Option Zo:=qY (Qx N f.1 f.2) some n v
theorem qna (N:Nat) (f:XO) (n:Nat) (v:JA) (y:Zo) (h:qdZ N n f v=some y):LG Tryz.prog qdf 66 (q_ qlS 3) (qnp f v) (Jz f y):=
 z9 qo (E:=qjy N) (L:=qR (qm5 N)) (st:=Jz f) (g:=some) (R:=Jz f) (qfz N) (qy (by kernel_rfl) trivial) (rg0 (by kernel_rfl)) (fun v=>by kernel_rfl) (zn (st:=Jz f) fun y=>by rcases y with _ | _<;>rfl) n v y h
def qbS (N:Nat) (s6_3:List Int) (s7_3:Int) (s8_3:Int):Option Zo:=qdZ N N (s6_3,s7_3) s8_3
def qd6 (N:Nat):qM:=smL qek [(.sl 1 (.i .i64)),(.i .i64),(.i .i64)] Zo (fun x=>qbS N x.1 x.2.1 x.2.2.1) (csS cs1) fun x=>Jz (x.1,x.2.1)
theorem qmo (N:Nat):Qt Tryz.prog qdf 66 (q_ qlS 3) (qd6 N):=jv fun x z h=>qna N (x.1,x.2.1) N x.2.2.1 z h
def qtl (z:Int):TV×THp:=(xi z,[])
def qdr (N:Nat) (a0:List Int):Tree (Int):=
 .bind (qbS N a0 ((a0.length:Nat):Int) 0) fun z1=>
 .sum z1 (fun z2=>
 .ret z2) fun z2=>
 .ret 0
def qag (N:Nat) (a0:List Int):Option (Int):=(qdr N a0).run some
def qs0 (N:Nat):List (Nat×qM):=[(3,qd6 N)]
def qiv (N:Nat):Ent:=smF ⟨66,[],[.x (.sl 1 (.i .i64))],[],[]⟩ [(.sl 1 (.i .i64))] (Int) (fun x=>qag N x.1) cs1 fun _=>qtl
theorem qrb (N:Nat):zl Tryz.prog (qiv N):=
 zo (H:=qdf) (L:=qR (qs0 N)) (ts:=[(.sl 1 (.i .i64))]) (T:=fun x=>qdr N x.1) 0 qAv (qfz N) (qy (by kernel_rfl) ⟨qmo N,trivial⟩) (rg0 (by kernel_rfl)) fun x=>by kernel_rfl
noncomputable def qAB:Code:=Tryz.f28.body.getD .skip
theorem qBY:FnF Tryz.prog 28 Tryz.f28 qAB:=⟨qo,by kernel_rfl,by kernel_rfl,by kernel_rfl⟩
def qtV:TH:={ live:=[(0,[2,3]),(1,[4])],dec:=[8] }
def qtz (N:Nat):List Ent:=[qcc,qiv N]
theorem qpy (N:Nat):qU Tryz.prog (qtz N):=⟨qjw,qrb N,trivial⟩
def qtW (z:Bool):TV×THp:=(xb z,[])
def qcW (N:Nat) (a0:qd) (a1:qd):Tree (Bool):=
 .cond (!(eqE ql a0 a1)) (
 .bind (JQ (qd.N a0) (qd.N a1)) fun r1=>
 .bind (JQ (qd.Rep a0) (qd.Rep a1)) fun r2=>
 .bind (qag N [r1,r2]) fun r3=>
 .ret (decide (r3 < ((0:Int))))) <|
 .ret false
def Qr (N:Nat) (a0:qd) (a1:qd):Option (Bool):=(qcW N a0 a1).run some
def qtc (N:Nat):List (Nat×qM):=[]
def Wt (N:Nat):Ent:=smF ⟨28,[],[.x ql,.x ql],[],[]⟩ [ql,ql] (Bool) (fun x=>Qr N x.1 x.2.1) cs1 fun _=>qtW
theorem YO (N:Nat):zl Tryz.prog (Wt N):=
 zo (H:=qtV) (L:=qR (qtc N)) (ts:=[ql,ql]) (T:=fun x=>qcW N x.1 x.2.1) 0 qBY (qpy N) (qy (by kernel_rfl) trivial) (rg0 (by kernel_rfl)) fun x=>by kernel_rfl
noncomputable def qmr:Code:=Tryz.f35.body.getD .skip
theorem qBt:FnF Tryz.prog 35 Tryz.f35 qmr:=⟨qo,by kernel_rfl,by kernel_rfl,by kernel_rfl⟩
def qja:TH:={ live:=[(0,[1]),(1,[1,21]),(2,[2]),(3,[1,23,24,25]),(4,[1,23,24,25,26]),(5,[1,3,4,23,24,25]),(6,[1,4,5,23,24,25]),(7,[1,23,24,25,74]),(8,[2]),(9,[1,23,24,25]),(10,[2])],dec:=[10,15,32,37,40,55,60,66] }
def qpU (N:Nat):List Ent:=[qba,qnc,Wt N]
theorem qlp (N:Nat):qU Tryz.prog (qpU N):=⟨qc_,qvi,YO N,trivial⟩
abbrev qaa:=qa×List qb×Int
abbrev VC:=Unit⊕(Int×Bool)
def Ws (f:qaa):VC→Ex×TSt
 | .inl y=>(.ret,⟨0,76,[],[(2,.bc false)],[],false,[]⟩)
 | .inr y=>(.exit 0,⟨0,76,[],[(1,.p 10 [] 0),(23,.tv (.sl 4 qq) f.2.1),(24,xi f.2.2),(25,xi y.1),(26,xb y.2)],[(10,.cell false (.tv qf f.1))],false,[]⟩)
def qt5 (N:Nat):List (Nat×qM):=[]
abbrev WG:=Int
def qiX:SP:=⟨0,76,[],[(1,.k (.p 10 [] 0)),(23,.x (.sl 4 qq)),(24,.x (.i .i64)),(25,.x (.i .i64))],[(10,.cell false (.x qf))],false,[]⟩
def qsn (f:qaa) (v:WG):TSt:=jq qiX [dv qf f.1,dv (.sl 4 qq) f.2.1,dv (.i .i64) f.2.2,dv (.i .i64) v]
def qas (N:Nat) (o_4:qa) (s23_4:List qb) (s24_4:Int) (v:WG):Tree (WG⊕VC):=
 .cond (decide (v < s24_4)) (
 .bind (zp s23_4 v) fun e1=>
 .cond (decide (v=((0:Int)))) (
 .cond (decide (((0:Int))≤(qb.No e1))) (
 .cond (decide (((8:Int))≤(qb.No e1))) (
 .ret (.inr (.inl ()))) <|
 .bind (Y4 (qb.C e1)) fun r2=>
 .cond (!r2) (
 .ret (.inr (.inl ()))) <|
 .bind (Qr N (qa.qQ o_4) (qc.S (qb.C e1))) fun r3=>
 .cond (!r3) (
 .ret (.inr (.inl ()))) <|
 .chk (qx (v + 1)) <|
 .ret (.inl (v + 1))) <|
 .cond (decide (((0:Int)) < v)) (
 .chk (qx (v - 1)) <|
 .bind (zp (qa.F o_4) (v - 1)) fun e2=>
 .cond (!(decide ((qb.No e2) < (qb.No e1)))) (
 .ret (.inr (.inl ()))) <|
 .cond (decide (((8:Int))≤(qb.No e1))) (
 .ret (.inr (.inl ()))) <|
 .bind (Y4 (qb.C e1)) fun r3=>
 .cond (!r3) (
 .ret (.inr (.inl ()))) <|
 .bind (Qr N (qa.qQ o_4) (qc.S (qb.C e1))) fun r4=>
 .cond (!r4) (
 .ret (.inr (.inl ()))) <|
 .chk (qx (v + 1)) <|
 .ret (.inl (v + 1))) <|
 .ret (.inr (.inl ()))) <|
 .cond (decide (((0:Int)) < v)) (
 .chk (qx (v - 1)) <|
 .bind (zp (qa.F o_4) (v - 1)) fun e2=>
 .cond (!(decide ((qb.No e2) < (qb.No e1)))) (
 .ret (.inr (.inl ()))) <|
 .cond (decide (((8:Int))≤(qb.No e1))) (
 .ret (.inr (.inl ()))) <|
 .bind (Y4 (qb.C e1)) fun r3=>
 .cond (!r3) (
 .ret (.inr (.inl ()))) <|
 .bind (Qr N (qa.qQ o_4) (qc.S (qb.C e1))) fun r4=>
 .cond (!r4) (
 .ret (.inr (.inl ()))) <|
 .chk (qx (v + 1)) <|
 .ret (.inl (v + 1))) <|
 .ret (.inr (.inl ()))) <|
 .ret (.inr (.inr ((v,decide (v < s24_4)))))
def qiE (N n:Nat) (f:qaa) (v:WG):Option VC:=qY (qas N f.1 f.2.1 f.2.2) some n v
theorem qsI (N:Nat) (f:qaa) (n:Nat) (v:WG) (y:VC) (h:qiE N n f v=some y):LG Tryz.prog qja 35 (q_ qmr 4) (qsn f v) (Ws f y):=
 z9 qo (E:=qpU N) (L:=qR (qt5 N)) (st:=Ws f) (g:=some) (R:=Ws f) (qlp N) (qy (by kernel_rfl) trivial) (rg0 (by kernel_rfl)) (fun v=>by kernel_rfl) (zn (st:=Ws f) fun y=>by rcases y with _ | _<;>rfl) n v y h
def qcg (N:Nat) (o_4:qa) (s23_4:List qb) (s24_4:Int) (s25_4:Int):Option VC:=qiE N N (o_4,s23_4,s24_4) s25_4
def qjv (N:Nat):qM:=smL qiX [qf,(.sl 4 qq),(.i .i64),(.i .i64)] VC (fun x=>qcg N x.1 x.2.1 x.2.2.1 x.2.2.2.1) (csS cs1) fun x=>Ws (x.1,x.2.1,x.2.2.1)
theorem qqW (N:Nat):Qt Tryz.prog qja 35 (q_ qmr 4) (qjv N):=jv fun x z h=>qsI N (x.1,x.2.1,x.2.2.1) N x.2.2.2.1 z h
def qzU (z:Bool):TV×THp:=(xb z,[])
def qih (N:Nat) (a0:qa):Tree (Bool):=
 .bind (Kj (qa.qQ a0)) fun r1=>
 .cond (!r1) (
 .ret false) <|
 .cond (decide ((((qa.F a0).length:Nat):Int)=((0:Int)))) (
 .cond (eqE ql (qa.qQ a0) (qd.mk 0 0)) (
 .ret false) <|
 .bind (qcg N a0 (qa.F a0) (((qa.F a0).length:Nat):Int) 0) fun z2=>
 .sum z2 (fun z3=>
 .ret false) fun z3=>
 .ret true) <|
 .bind (qcg N a0 (qa.F a0) (((qa.F a0).length:Nat):Int) 0) fun z2=>
 .sum z2 (fun z3=>
 .ret false) fun z3=>
 .ret true
def qaM (N:Nat) (a0:qa):Option (Bool):=(qih N a0).run some
def qym (N:Nat):List (Nat×qM):=[(4,qjv N)]
def qd5 (N:Nat):Ent:=smF ⟨35,[],[.x qf],[],[]⟩ [qf] (Bool) (fun x=>qaM N x.1) cs1 fun _=>qzU
theorem qgK (N:Nat):zl Tryz.prog (qd5 N):=
 zo (H:=qja) (L:=qR (qym N)) (ts:=[qf]) (T:=fun x=>qih N x.1) 0 qBt (qlp N) (qy (by kernel_rfl) ⟨qqW N,trivial⟩) (rg0 (by kernel_rfl)) fun x=>by kernel_rfl
noncomputable def qz8:Code:=Tryz.f94.body.getD .skip
theorem qCx:FnF Tryz.prog 94 Tryz.f94 qz8:=⟨qo,by kernel_rfl,by kernel_rfl,by kernel_rfl⟩
def qoq:TH:={ live:=[(0,[0,1]),(1,[4])] }
def qnB (N:Nat):List Ent:=[qzB]
theorem qkR (N:Nat):qU Tryz.prog (qnB N):=⟨qCN,trivial⟩
def qoa (z:Int):TV×THp:=(xi z,[])
def KP (a0:List UInt8) (a1:List UInt8):Tree (Int):=
 .bind (qz_ a0 a1) fun r1=>
 .ret r1
def Xq (a0:List UInt8) (a1:List UInt8):Option (Int):=(KP a0 a1).run some
def qm0:List (Nat×qM):=[]
def XS:Ent:=smF ⟨94,[],[.x .bl,.x .bl],[],[]⟩ [.bl,.bl] (Int) (fun x=>Xq x.1 x.2.1) cs1 fun _=>qoa
theorem Kb:zl Tryz.prog (XS):=
 zo (H:=qoq) (L:=qR (qm0)) (ts:=[.bl,.bl]) (T:=fun x=>KP x.1 x.2.1) 0 qCx (qkR 0) (qy (by kernel_rfl) trivial) (rg0 (by kernel_rfl)) fun x=>by kernel_rfl
noncomputable def qBH:Code:=Tryz.f60.body.getD .skip
theorem qA_:FnF Tryz.prog 60 Tryz.f60 qBH:=⟨qo,by kernel_rfl,by kernel_rfl,by kernel_rfl⟩
def qu4:TH:={ live:=[(0,[2,3]),(1,[4])],dec:=[8] }
def quD (N:Nat):List Ent:=[XS]
theorem qri (N:Nat):qU Tryz.prog (quD N):=⟨Kb,trivial⟩
def quu (z:Bool):TV×THp:=(xb z,[])
def qeD (a0:Vector UInt8 16) (a1:Vector UInt8 16):Tree (Bool):=
 .cond (!(eqE (.ba 16) a0 a1)) (
 .bind (Xq a0.toList a1.toList) fun r1=>
 .ret (decide (r1 < ((0:Int))))) <|
 .ret false
def qd4 (a0:Vector UInt8 16) (a1:Vector UInt8 16):Option (Bool):=(qeD a0 a1).run some
def qul:List (Nat×qM):=[]
def qls:Ent:=smF ⟨60,[],[.x (.ba 16),.x (.ba 16)],[],[]⟩ [(.ba 16),(.ba 16)] (Bool) (fun x=>qd4 x.1 x.2.1) cs1 fun _=>quu
theorem qt2:zl Tryz.prog (qls):=
 zo (H:=qu4) (L:=qR (qul)) (ts:=[(.ba 16),(.ba 16)]) (T:=fun x=>qeD x.1 x.2.1) 0 qA_ (qri 0) (qy (by kernel_rfl) trivial) (rg0 (by kernel_rfl)) fun x=>by kernel_rfl
noncomputable def qmp:Code:=Tryz.f25.body.getD .skip
theorem qBD:FnF Tryz.prog 25 Tryz.f25 qmp:=⟨qo,by kernel_rfl,by kernel_rfl,by kernel_rfl⟩
def qgZ:TH:={ live:=[(0,[1]),(1,[1,6,7,8]),(2,[1,6,7,8,9]),(3,[1,3,4,6,7,8]),(4,[1,6,7,8,32]),(5,[2]),(6,[1,6,7,8]),(7,[2])],dec:=[16,19] }
def qn6 (N:Nat):List Ent:=[qd5 N,qls]
theorem qjj (N:Nat):qU Tryz.prog (qn6 N):=⟨qgK N,qt2,trivial⟩
abbrev YQ:=qe×List qa×Int
abbrev Jr:=Unit⊕(Int×Bool)
def Xw (f:YQ):Jr→Ex×TSt
 | .inl y=>(.ret,⟨0,38,[],[(2,.bc false)],[],false,[]⟩)
 | .inr y=>(.exit 0,⟨0,38,[],[(1,.p 10 [] 0),(6,.tv (.sl 19 qf) f.2.1),(7,xi f.2.2),(8,xi y.1),(9,xb y.2)],[(10,.cell false (.tv qL f.1))],false,[]⟩)
def qqQ (N:Nat):List (Nat×qM):=[]
abbrev Xl:=Int
def qhw:SP:=⟨0,38,[],[(1,.k (.p 10 [] 0)),(6,.x (.sl 19 qf)),(7,.x (.i .i64)),(8,.x (.i .i64))],[(10,.cell false (.x qL))],false,[]⟩
def qrq (f:YQ) (v:Xl):TSt:=jq qhw [dv qL f.1,dv (.sl 19 qf) f.2.1,dv (.i .i64) f.2.2,dv (.i .i64) v]
def YM (N:Nat) (o_2:qe) (s6_2:List qa) (s7_2:Int) (v:Xl):Tree (Xl⊕Jr):=
 .cond (decide (v < s7_2)) (
 .bind (zp s6_2 v) fun e1=>
 .bind (qaM N e1) fun r2=>
 .cond (!r2) (
 .ret (.inr (.inl ()))) <|
 .cond (decide (((0:Int)) < v)) (
 .chk (qx (v - 1)) <|
 .bind (zp (qe.R o_2) (v - 1)) fun e3=>
 .bind (qd4 (qa.ID e3) (qa.ID e1)) fun r4=>
 .cond (!r4) (
 .ret (.inr (.inl ()))) <|
 .chk (qx (v + 1)) <|
 .ret (.inl (v + 1))) <|
 .chk (qx (v + 1)) <|
 .ret (.inl (v + 1))) <|
 .ret (.inr (.inr ((v,decide (v < s7_2)))))
def qhy (N n:Nat) (f:YQ) (v:Xl):Option Jr:=qY (YM N f.1 f.2.1 f.2.2) some n v
theorem qrc (N:Nat) (f:YQ) (n:Nat) (v:Xl) (y:Jr) (h:qhy N n f v=some y):LG Tryz.prog qgZ 25 (q_ qmp 2) (qrq f v) (Xw f y):=
 z9 qo (E:=qn6 N) (L:=qR (qqQ N)) (st:=Xw f) (g:=some) (R:=Xw f) (qjj N) (qy (by kernel_rfl) trivial) (rg0 (by kernel_rfl)) (fun v=>by kernel_rfl) (zn (st:=Xw f) fun y=>by rcases y with _ | _<;>rfl) n v y h
def qeK (N:Nat) (o_2:qe) (s6_2:List qa) (s7_2:Int) (s8_2:Int):Option Jr:=qhy N N (o_2,s6_2,s7_2) s8_2
def qhR (N:Nat):qM:=smL qhw [qL,(.sl 19 qf),(.i .i64),(.i .i64)] Jr (fun x=>qeK N x.1 x.2.1 x.2.2.1 x.2.2.2.1) (csS cs1) fun x=>Xw (x.1,x.2.1,x.2.2.1)
theorem qoZ (N:Nat):Qt Tryz.prog qgZ 25 (q_ qmp 2) (qhR N):=jv fun x z h=>qrc N (x.1,x.2.1,x.2.2.1) N x.2.2.2.1 z h
def qyb (z:Bool):TV×THp:=(xb z,[])
def qhb (N:Nat) (a0:qe):Tree (Bool):=
 .bind (qeK N a0 (qe.R a0) (((qe.R a0).length:Nat):Int) 0) fun z1=>
 .sum z1 (fun z2=>
 .ret false) fun z2=>
 .ret (decide ((((qe.R a0).length:Nat):Int)≤((10:Int))))
def Wy (N:Nat) (a0:qe):Option (Bool):=(qhb N a0).run some
def qx_ (N:Nat):List (Nat×qM):=[(2,qhR N)]
def qcz (N:Nat):Ent:=smF ⟨25,[],[.x qL],[],[]⟩ [qL] (Bool) (fun x=>Wy N x.1) cs1 fun _=>qyb
theorem qeH (N:Nat):zl Tryz.prog (qcz N):=
 zo (H:=qgZ) (L:=qR (qx_ N)) (ts:=[qL]) (T:=fun x=>qhb N x.1) 0 qBD (qjj N) (qy (by kernel_rfl) ⟨qoZ N,trivial⟩) (rg0 (by kernel_rfl)) fun x=>by kernel_rfl
noncomputable def qBa:Code:=Tryz.f33.body.getD .skip
theorem qAP:FnF Tryz.prog 33 Tryz.f33 qBa:=⟨qo,by kernel_rfl,by kernel_rfl,by kernel_rfl⟩
def qsb:TH:={ live:=[(0,[1]),(1,[2])],dec:=[7] }
def qtM (N:Nat):List Ent:=[]
theorem qpu (N:Nat):qU Tryz.prog (qtM N):=trivial
def qtH (z:Bool):TV×THp:=(xb z,[])
def KY (a0:qa):Tree (Bool):=
 .cond (eqE ql (qa.qQ a0) (qd.mk 0 0)) (
 .ret (decide ((((qa.F a0).length:Nat):Int)=((0:Int))))) <|
 .ret false
def V6 (a0:qa):Option (Bool):=(KY a0).run some
def qsa:List (Nat×qM):=[]
def qij:Ent:=smF ⟨33,[],[.x qf],[],[]⟩ [qf] (Bool) (fun x=>V6 x.1) cs1 fun _=>qtH
theorem qrd:zl Tryz.prog (qij):=
 zo (H:=qsb) (L:=qR (qsa)) (ts:=[qf]) (T:=fun x=>KY x.1) 0 qAP (qpu 0) (qy (by kernel_rfl) trivial) (rg0 (by kernel_rfl)) fun x=>by kernel_rfl
noncomputable def qAq:Code:=Tryz.f87.body.getD .skip
theorem qAa:FnF Tryz.prog 87 Tryz.f87 qAq:=⟨qo,by kernel_rfl,by kernel_rfl,by kernel_rfl⟩
def qkD:TH:={ live:=[(0,[0,1]),(1,[0,1,6]),(2,[0,1]),(3,[0,1]),(4,[0,1,16]),(5,[0]),(6,[4])],esc:=true,nil:=[(5,[⟨.sl 0,900000870,(.sl 19 qf)⟩])] }
def qkx (N:Nat):List Ent:=[]
theorem qh1 (N:Nat):qU Tryz.prog (qkx N):=trivial
def qkZ:Unit⊕Unit→TV×THp
 | .inl z=>(.v 900000870 0,[(900000870,.vec false 19 (.sl 19 qf) ([]:List qa))])
 | .inr z=>(.nils,[])
def Vb (a0:Int):Tree (Unit⊕Unit):=
 .cond (decide (a0 < ((0:Int)))) (
 .no) <|
 .chk (qx a0) <|
 .cond (decide (((0:Int)) < a0)) (
 .chk (0 < a0∧a0.toNat * 56≤q6) <|
 .ret (.inl ())) <|
 .ret (.inr ())
def Zp (a0:Int):Option (Unit⊕Unit):=(Vb a0).run some
def qkA:List (Nat×qM):=[]
def qb9:Ent:=smF ⟨87,[],[.k .nils,.x (.i .i64)],[],[]⟩ [(.i .i64)] (Unit⊕Unit) (fun x=>Zp x.1) (csS cs1) fun _=>qkZ
theorem qif:zl Tryz.prog (qb9):=
 zo (H:=qkD) (L:=qR (qkA)) (ts:=[(.i .i64)]) (T:=fun x=>Vb x.1) 0 qAa (qh1 0) (qy (by kernel_rfl) trivial) (rg0 (by kernel_rfl)) fun x=>by kernel_rfl
noncomputable def qdB:Code:=Tryz.f53.body.getD .skip
theorem qAO:FnF Tryz.prog 53 Tryz.f53 qdB:=⟨qo,by kernel_rfl,by kernel_rfl,by kernel_rfl⟩
def QU:TH:={ live:=[(0,[0]),(1,[0,3]),(2,[0,3,9,10,11]),(3,[0,3,9,10,11,12]),(4,[0,3,5,9,10,11]),(5,[0,3,9,10,11]),(6,[0,3,9,10,11,20]),(7,[0,3,9,10,11]),(8,[0,3,9,10,11]),(9,[0,6]),(10,[6,25,26,27]),(11,[6,25,26,27,28]),(12,[6,8,25,26,27]),(13,[6,25,26,27]),(14,[6,25,26,27]),(15,[2])],raw:=[87],fresh:=[24],nil:=[(9,[⟨.sl 6,900000870,(.sl 19 qf)⟩])] }
def XL (N:Nat):List Ent:=[qb9]
theorem Vo (N:Nat):qU Tryz.prog (XL N):=⟨qif,trivial⟩
abbrev Zb:=List (List qa)×List (List qa)×Int
abbrev jG:=Int×Int×Bool
def vO (f:Zb) (y:jG):Ex×TSt:=(.exit 0,⟨0,36,[],[(0,.tv (.sl 1 (.sl 19 qf)) f.1),(3,xi y.1),(9,.tv (.sl 1 (.sl 19 qf)) f.2.1),(10,xi f.2.2),(11,xi y.2.1),(12,xb y.2.2)],[],false,[]⟩)
def qez (N:Nat):List (Nat×qM):=[]
abbrev vN:=Int×Int
def Yx:SP:=⟨0,36,[],[(0,.x (.sl 1 (.sl 19 qf))),(3,.x (.i .i64)),(9,.x (.sl 1 (.sl 19 qf))),(10,.x (.i .i64)),(11,.x (.i .i64))],[],false,[]⟩
def qfg (f:Zb) (v:vN):TSt:=jq Yx [dv (.sl 1 (.sl 19 qf)) f.1,dv (.i .i64) v.1,dv (.sl 1 (.sl 19 qf)) f.2.1,dv (.i .i64) f.2.2,dv (.i .i64) v.2]
def Q6 (N:Nat) (s0_3:List (List qa)) (s9_3:List (List qa)) (s10_3:Int) (v:vN):Tree (vN⊕jG):=
 .cond (decide (v.2 < s10_3)) (
 .bind (zp s9_3 v.2) fun e1=>
 .chk (qx (v.1 + ((e1.length:Nat):Int))) <|
 .cond (decide ((v.1 + ((e1.length:Nat):Int)) < 0)) (
 .no) <|
 .chk (qx (v.2 + 1)) <|
 .ret (.inl (v.1 + ((e1.length:Nat):Int),v.2 + 1))) <|
 .ret (.inr (v.1,v.2,decide (v.2 < s10_3)))
def Yr (N n:Nat) (f:Zb) (v:vN):Option jG:=qY (Q6 N f.1 f.2.1 f.2.2) some n v
theorem qe4 (N:Nat) (f:Zb) (n:Nat) (v:vN) (y:jG) (h:Yr N n f v=some y):LG Tryz.prog QU 53 (q_ qdB 3) (qfg f v) (vO f y):=
 z9 qo (E:=XL N) (L:=qR (qez N)) (st:=vO f) (g:=some) (R:=vO f) (Vo N) (qy (by kernel_rfl) trivial) (rg0 (by kernel_rfl)) (fun v=>by kernel_rfl) (zn (st:=vO f) fun y=>by rfl) n v y h
def V5 (N:Nat) (s0_3:List (List qa)) (s9_3:List (List qa)) (s10_3:Int) (s3_3:Int) (s11_3:Int):Option jG:=Yr N N (s0_3,s9_3,s10_3) (s3_3,s11_3)
def YH (N:Nat):qM:=smL Yx [(.sl 1 (.sl 19 qf)),(.i .i64),(.sl 1 (.sl 19 qf)),(.i .i64),(.i .i64)] jG (fun x=>V5 N x.1 x.2.2.1 x.2.2.2.1 x.2.1 x.2.2.2.2.1) cs1 fun x=>vO (x.1,x.2.2.1,x.2.2.2.1)
theorem qdD (N:Nat):Qt Tryz.prog QU 53 (q_ qdB 3) (YH N):=jv fun x z h=>qe4 N (x.1,x.2.2.1,x.2.2.2.1) N (x.2.1,x.2.2.2.2.1) z h
abbrev QR:=List (List qa)×Int
abbrev jx:=List qa×Int×Bool
def vz (f:QR) (y:jx):Ex×TSt:=(.exit 2,⟨0,36,[],[(6,.v 900000870 y.1.length),(25,.tv (.sl 1 (.sl 19 qf)) f.1),(26,xi f.2),(27,xi y.2.1),(28,xb y.2.2)],[(900000870,.vec false 19 (.sl 19 qf) (y.1:List qa))],false,[]⟩)
def qdN (N:Nat):List (Nat×qM):=[]
abbrev vA:=List qa×Int
def Yc:SP:=⟨0,36,[],[(6,.vs 900000870),(25,.x (.sl 1 (.sl 19 qf))),(26,.x (.i .i64)),(27,.x (.i .i64))],[(900000870,.vec false 19)],false,[]⟩
def qdE (f:QR) (v:vA):TSt:=jq Yc [dv (.sl 19 qf) v.1,dv (.sl 1 (.sl 19 qf)) f.1,dv (.i .i64) f.2,dv (.i .i64) v.2]
def QQ (N:Nat) (s25_11:List (List qa)) (s26_11:Int) (v:vA):Tree (vA⊕jx):=
 .cond (decide (v.2 < s26_11)) (
 .bind (zp s25_11 v.2) fun e1=>
 .chk (JV v.1.length v.1.length ((v.1++e1).length) 56) <|
 .chk (qx (v.2 + 1)) <|
 .ret (.inl (v.1++e1,v.2 + 1))) <|
 .ret (.inr (v.1,v.2,decide (v.2 < s26_11)))
def Yd (N n:Nat) (f:QR) (v:vA):Option jx:=qY (QQ N f.1 f.2) some n v
theorem qdF (N:Nat) (f:QR) (n:Nat) (v:vA) (y:jx) (h:Yd N n f v=some y):LG Tryz.prog QU 53 (q_ qdB 11) (qdE f v) (vz f y):=
 z9 qo (E:=XL N) (L:=qR (qdN N)) (st:=vz f) (g:=some) (R:=vz f) (Vo N) (qy (by kernel_rfl) trivial) (rg0 (by kernel_rfl)) (fun v=>by kernel_rfl) (zn (st:=vz f) fun y=>by rfl) n v y h
def Zl (N:Nat) (s25_11:List (List qa)) (s26_11:Int) (o_11:List qa) (s27_11:Int):Option jx:=Yd N N (s25_11,s26_11) (o_11,s27_11)
def Ye (N:Nat):qM:=smL Yc [(.sl 19 qf),(.sl 1 (.sl 19 qf)),(.i .i64),(.i .i64)] jx (fun x=>Zl N x.2.1 x.2.2.1 x.1 x.2.2.2.1) cs1 fun x=>vz (x.2.1,x.2.2.1)
theorem qdn (N:Nat):Qt Tryz.prog QU 53 (q_ qdB 11) (Ye N):=jv fun x z h=>qdF N (x.2.1,x.2.2.1) N (x.1,x.2.2.2.1) z h
def qhW (z:List qa):TV×THp:=(.tv (.sl 19 qf) z,[])
def XK (N:Nat) (a0:List (List qa)):Tree (List qa):=
 .bind (V5 N a0 a0 ((a0.length:Nat):Int) 0 0) fun z1=>
 .bind (Zp z1.1) fun r2=>
 .sum r2 (fun r3=>
 .bind (jF [(([]:List qa).length,0)] (Zl N a0 ((a0.length:Nat):Int) [] 0)) fun z4=>
 .chk (z4.1.length=z4.1.length) <|
 .ret z4.1) fun r3=>
 .bind (jF [(([]:List qa).length,0)] (Zl N a0 ((a0.length:Nat):Int) [] 0)) fun z4=>
 .chk (z4.1.length=z4.1.length) <|
 .ret z4.1
def J9 (N:Nat) (a0:List (List qa)):Option (List qa):=(XK N a0).run some
def qia (N:Nat):List (Nat×qM):=[(3,YH N),(11,Ye N)]
def qaB (N:Nat):Ent:=smF ⟨53,[],[.x (.sl 1 (.sl 19 qf))],[],[]⟩ [(.sl 1 (.sl 19 qf))] (List qa) (fun x=>J9 N x.1) cs1 fun _=>qhW
theorem qgH (N:Nat):zl Tryz.prog (qaB N):=
 zo (H:=QU) (L:=qR (qia N)) (ts:=[(.sl 1 (.sl 19 qf))]) (T:=fun x=>XK N x.1) 0 qAO (Vo N) (qy (by kernel_rfl) ⟨qdD N,qdn N,trivial⟩) (rg0 (by kernel_rfl)) fun x=>by kernel_rfl
noncomputable def qAT:Code:=Tryz.f88.body.getD .skip
theorem ql3:FnF Tryz.prog 88 Tryz.f88 qAT:=⟨qo,by kernel_rfl,by kernel_rfl,by kernel_rfl⟩
def qgk:TH:={ live:=[(0,[0]),(1,[0,4]),(2,[2]),(3,[2])],vecs:=[5] }
def qgP (N:Nat):List Ent:=[]
theorem qeM (N:Nat):qU Tryz.prog (qgP N):=trivial
def K4 (a0:List qb) (z:Unit):TV×THp:=(.tv (.sl 4 qq) ((([]:List qb))++a0:List qb),[])
def V0 (a0:List qb):Tree (Unit):=
 .chk (List.isEmpty a0=false) <|
 .chk (JV ((([]:List qb)).length) 0 (((([]:List qb))++a0).length) 40) <|
 .chk (((([]:List qb))++a0).length=((([]:List qb))++a0).length) <|
 .ret ()
def Wk (a0:List qb):Option (Unit):=(V0 a0).run some
def qgn:List (Nat×qM):=[]
theorem qfc:qcv Tryz.prog ⟨88,[],[.x (.sl 4 qq)],[],[]⟩ [(.sl 4 qq)] (fun x=>V0 x.1) (fun x=>K4 x.1):=
 qal (H:=qgk) (L:=qR (qgn)) 0 ql3 (qeM 0) (qy (by kernel_rfl) trivial) (rg0 (by kernel_rfl)) fun x=>by kernel_rfl
def qfd:TH:={ live:=[(0,[0]),(1,[0,4]),(2,[2]),(3,[2])],vecs:=[5] }
def qer (N:Nat):List Ent:=[]
theorem qcZ (N:Nat):qU Tryz.prog (qer N):=trivial
def qex (z:Unit):TV×THp:=(.tv (.sl 4 qq) ([]:List qb),[])
def YB:Tree (Unit):=
 .chk (0=0) <|
 .chk (0=0) <|
 .ret ()
def qhl:Option (Unit):=(YB).run some
def qeW:List (Nat×qM):=[]
theorem qds:qcv Tryz.prog ⟨88,[],[.k (.es 0)],[],[]⟩ [] (fun x=>YB) (fun _=>qex):=
 qal (H:=qfd) (L:=qR (qeW)) 0 ql3 (qcZ 0) (qy (by kernel_rfl) trivial) (rg0 (by kernel_rfl)) fun x=>by kernel_rfl
def qfm:TH:={ live:=[(0,[0]),(1,[0,4]),(2,[2]),(3,[2])],vecs:=[5] }
def qeI (N:Nat):List Ent:=[]
theorem qc3 (N:Nat):qU Tryz.prog (qeI N):=trivial
def qeT (z:Unit):TV×THp:=(.tv (.sl 4 qq) ([]:List qb),[])
def YD:Tree (Unit):=
 .ret ()
def qgj:Option (Unit):=(YD).run some
def qfk:List (Nat×qM):=[]
theorem qcP:qcv Tryz.prog ⟨88,[],[.k (.es 1)],[],[]⟩ [] (fun x=>YD) (fun _=>qeT):=
 qal (H:=qfm) (L:=qR (qfk)) 0 ql3 (qc3 0) (qy (by kernel_rfl) trivial) (rg0 (by kernel_rfl)) fun x=>by kernel_rfl
def YF (z:Unit):Unit:=()
def qeG (z:Unit):Unit:=()
def vK (a0:List qb):Option (Unit):=
 bif a0.isEmpty then
  (qhl).bind fun z0=>(qgj).bind fun z1=>chk (YF z0=qeG z1) (some (YF z0))
 else Wk a0
def Kx:Ent:=smF ⟨88,[],[.x (.sl 4 qq)],[],[]⟩ [(.sl 4 qq)] (Unit) (fun x=>vK x.1) cs1 fun x=>K4 x.1
theorem qff:zl Tryz.prog (Kx):=qfv fun x z h l=>by
 obtain ⟨a0,_⟩:=x
 replace h:vK a0=some z:=h
 unfold vK at h
 rcases qiy h with ⟨e,h2⟩ | ⟨_,h2⟩<;>clear h
 ·have e:=List.isEmpty_iff.1 e
  subst e
  obtain ⟨z0,c0,h2⟩:=bind_some h2
  obtain ⟨z1,c1,h2⟩:=bind_some h2
  obtain ⟨hE,h2⟩:=qhf h2
  obtain rfl:=Option.some.inj h2
  refine qi6 (t:=(.sl 4 qq)) (x:=[]) rfl (TV.ers []) (TV.ers []) (by exact qds (()) _ c0 l) ?_
  rw [hE]
  exact (by exact qcP (()) _ c1 l)
 ·exact qfc (a0,()) z h2 l
noncomputable def qBe:Code:=Tryz.f54.body.getD .skip
theorem qCw:FnF Tryz.prog 54 Tryz.f54 qBe:=⟨qo,by kernel_rfl,by kernel_rfl,by kernel_rfl⟩
def qwv:TH:={ live:=[(0,[1,2]),(1,[1,2]),(2,[2])],nil:=[(0,[⟨.ob 20 [2],25,(.sl 4 qq)⟩])] }
def qxk (N:Nat):List Ent:=[Kx]
theorem qs9 (N:Nat):qU Tryz.prog (qxk N):=⟨qff,trivial⟩
def qwp (a0:qa) (z:Unit):TV×THp:=(.tv qf (qa.mk (qa.ID a0) (qa.qQ a0) ((([]:List qb))++(qa.F a0))),[])
def qcm (a0:qa):Tree (Unit):=
 .bind (vK (qa.F a0)) fun r1=>
 .ret ()
def Y_ (a0:qa):Option (Unit):=(qcm a0).run some
def qwO:List (Nat×qM):=[]
def qg_:Ent:=smF ⟨54,[],[.x qf],[],[]⟩ [qf] (Unit) (fun x=>Y_ x.1) cs1 fun x=>qwp x.1
theorem qlc:zl Tryz.prog (qg_):=
 zo (H:=qwv) (L:=qR (qwO)) (ts:=[qf]) (T:=fun x=>qcm x.1) 0 qCw (qs9 0) (qy (by kernel_rfl) trivial) (rg0 (by kernel_rfl)) fun x=>by kernel_rfl
noncomputable def qy_:Code:=Tryz.f147.body.getD .skip
theorem qzf:FnF Tryz.prog 147 Tryz.f147 qy_:=⟨qo,by kernel_rfl,by kernel_rfl,by kernel_rfl⟩
def qi2:TH:={ live:=[(0,[2,3,4]),(1,[2,3,4,7]),(2,[6]),(3,[12]),(4,[6]),(5,[6])] }
def qin (N:Nat):List Ent:=[Wt N]
theorem qgR (N:Nat):qU Tryz.prog (qin N):=⟨YO N,trivial⟩
def qiI (z:Int):TV×THp:=(xi z,[])
def WA (N:Nat) (a0:qd) (a1:qd):Tree (Int):=
 .bind (Qr N a0 a1) fun r1=>
 .cond r1 (
 .ret (-1)) <|
 .bind (Qr N a1 a0) fun r2=>
 .cond r2 (
 .ret 1) <|
 .ret 0
def VZ (N:Nat) (a0:qd) (a1:qd):Option (Int):=(WA N a0 a1).run some
def qiT (N:Nat):List (Nat×qM):=[]
def qbl (N:Nat):Ent:=smF ⟨147,[],[.x ql,.x ql,.fn 28 [] []],[],[]⟩ [ql,ql] (Int) (fun x=>VZ N x.1 x.2.1) cs1 fun _=>qiI
theorem qh2 (N:Nat):zl Tryz.prog (qbl N):=
 zo (H:=qi2) (L:=qR (qiT N)) (ts:=[ql,ql]) (T:=fun x=>WA N x.1 x.2.1) 0 qzf (qgR N) (qy (by kernel_rfl) trivial) (rg0 (by kernel_rfl)) fun x=>by kernel_rfl
noncomputable def qy0:Code:=Tryz.f146.body.getD .skip
theorem qy9:FnF Tryz.prog 146 Tryz.f146 qy0:=⟨qo,by kernel_rfl,by kernel_rfl,by kernel_rfl⟩
def qq4:TH:={ live:=[(0,[0,1]),(1,[2])] }
def qqM (N:Nat):List Ent:=[qbl N]
theorem qnf (N:Nat):qU Tryz.prog (qqM N):=⟨qh2 N,trivial⟩
def qqP (a0:qc) (a1:qc) (z:Int):TV×THp:=(xi z,[(20,.cell false (.tv qm a0)),(30,.cell false (.tv qm a1))])
def qbO (N:Nat) (a0:qc) (a1:qc):Tree (Int):=
 .bind (VZ N (qc.S a0) (qc.S a1)) fun r1=>
 .ret r1
def qa8 (N:Nat) (a0:qc) (a1:qc):Option (Int):=(qbO N a0 a1).run some
def qqA (N:Nat):List (Nat×qM):=[]
def qhD (N:Nat):Ent:=smF ⟨146,[],[],[.k (.p 20 [] 0),.k (.p 30 [] 0)],[(20,.cell false (.x qm)),(30,.cell false (.x qm))]⟩ [qm,qm] (Int) (fun x=>qa8 N x.1 x.2.1) cs1 fun x=>qqP x.1 x.2.1
theorem qo6 (N:Nat):zl Tryz.prog (qhD N):=
 zo (H:=qq4) (L:=qR (qqA N)) (ts:=[qm,qm]) (T:=fun x=>qbO N x.1 x.2.1) 0 qy9 (qnf N) (qy (by kernel_rfl) trivial) (rg0 (by kernel_rfl)) fun x=>by kernel_rfl
noncomputable def qAF:Code:=Tryz.f51.body.getD .skip
theorem qAC:FnF Tryz.prog 51 Tryz.f51 qAF:=⟨qo,by kernel_rfl,by kernel_rfl,by kernel_rfl⟩
def qB8:TH:={ live:=[(0,[0,2]),(1,[2])] }
def qCi (N:Nat):List Ent:=[qqs N]
theorem qxL (N:Nat):qU Tryz.prog (qCi N):=⟨qoh N,trivial⟩
def qCc (z:Vector UInt8 32):TV×THp:=(.tv (.ba 32) z,[])
def qlL (N:Nat) (a0:List UInt8):Tree (Vector UInt8 32):=
 .chk (qkt (a0:List UInt8).length) <|
 .bind (KD N a0) fun r1=>
 .ret r1
def qjN (N:Nat) (a0:List UInt8):Option (Vector UInt8 32):=(qlL N a0).run some
def qCj (N:Nat):List (Nat×qM):=[]
def qsv (N:Nat):Ent:=smF ⟨51,[],[.x .s],[],[]⟩ [.s] (Vector UInt8 32) (fun x=>qjN N x.1) cs1 fun _=>qCc
theorem qyZ (N:Nat):zl Tryz.prog (qsv N):=
 zo (H:=qB8) (L:=qR (qCj N)) (ts:=[.s]) (T:=fun x=>qlL N x.1) 0 qAC (qxL N) (qy (by kernel_rfl) trivial) (rg0 (by kernel_rfl)) fun x=>by kernel_rfl
noncomputable def qAd:Code:=Tryz.f83.body.getD .skip
theorem qCo:FnF Tryz.prog 83 Tryz.f83 qAd:=⟨qo,by kernel_rfl,by kernel_rfl,by kernel_rfl⟩
def qxc:TH:={ live:=[(0,[2,3]),(1,[4])],dec:=[8] }
def qxt (N:Nat):List Ent:=[XS]
theorem qrU (N:Nat):qU Tryz.prog (qxt N):=⟨Kb,trivial⟩
def qwI (z:Bool):TV×THp:=(xb z,[])
def qhe (a0:Vector UInt8 32) (a1:Vector UInt8 32):Tree (Bool):=
 .cond (!(eqE (.ba 32) a0 a1)) (
 .bind (Xq a0.toList a1.toList) fun r1=>
 .ret (decide (r1 < ((0:Int))))) <|
 .ret false
def qcM (a0:Vector UInt8 32) (a1:Vector UInt8 32):Option (Bool):=(qhe a0 a1).run some
def qwP:List (Nat×qM):=[]
def qnx:Ent:=smF ⟨83,[],[.x (.ba 32),.x (.ba 32)],[],[]⟩ [(.ba 32),(.ba 32)] (Bool) (fun x=>qcM x.1 x.2.1) cs1 fun _=>qwI
theorem quN:zl Tryz.prog (qnx):=
 zo (H:=qxc) (L:=qR (qwP)) (ts:=[(.ba 32),(.ba 32)]) (T:=fun x=>qhe x.1 x.2.1) 0 qCo (qrU 0) (qy (by kernel_rfl) trivial) (rg0 (by kernel_rfl)) fun x=>by kernel_rfl
noncomputable def qyA:Code:=Tryz.f149.body.getD .skip
theorem qy5:FnF Tryz.prog 149 Tryz.f149 qyA:=⟨qo,by kernel_rfl,by kernel_rfl,by kernel_rfl⟩
def qhZ:TH:={ live:=[(0,[2,3,4]),(1,[2,3,4,7]),(2,[6]),(3,[12]),(4,[6]),(5,[6])] }
def qh7 (N:Nat):List Ent:=[qnx]
theorem qfJ (N:Nat):qU Tryz.prog (qh7 N):=⟨quN,trivial⟩
def qh0 (z:Int):TV×THp:=(xi z,[])
def XJ (a0:Vector UInt8 32) (a1:Vector UInt8 32):Tree (Int):=
 .bind (qcM a0 a1) fun r1=>
 .cond r1 (
 .ret (-1)) <|
 .bind (qcM a1 a0) fun r2=>
 .cond r2 (
 .ret 1) <|
 .ret 0
def J_ (a0:Vector UInt8 32) (a1:Vector UInt8 32):Option (Int):=(XJ a0 a1).run some
def qh8:List (Nat×qM):=[]
def qaz:Ent:=smF ⟨149,[],[.x (.ba 32),.x (.ba 32),.fn 83 [] []],[],[]⟩ [(.ba 32),(.ba 32)] (Int) (fun x=>J_ x.1 x.2.1) cs1 fun _=>qh0
theorem qhp:zl Tryz.prog (qaz):=
 zo (H:=qhZ) (L:=qR (qh8)) (ts:=[(.ba 32),(.ba 32)]) (T:=fun x=>XJ x.1 x.2.1) 0 qy5 (qfJ 0) (qy (by kernel_rfl) trivial) (rg0 (by kernel_rfl)) fun x=>by kernel_rfl
noncomputable def qzm:Code:=Tryz.f148.body.getD .skip
theorem qzs:FnF Tryz.prog 148 Tryz.f148 qzm:=⟨qo,by kernel_rfl,by kernel_rfl,by kernel_rfl⟩
def qqD:TH:={ live:=[(0,[0,1]),(1,[2])] }
def qrm (N:Nat):List Ent:=[qsv N,qaz]
theorem qny (N:Nat):qU Tryz.prog (qrm N):=⟨qyZ N,qhp,trivial⟩
def qra (a0:qc) (a1:qc) (z:Int):TV×THp:=(xi z,[(20,.cell false (.tv qm a0)),(30,.cell false (.tv qm a1))])
def qbP (N:Nat) (a0:qc) (a1:qc):Tree (Int):=
 .bind (qjN N (qc.V a0)) fun r1=>
 .bind (qjN N (qc.V a1)) fun r2=>
 .bind (J_ r1 r2) fun r3=>
 .ret r3
def qa9 (N:Nat) (a0:qc) (a1:qc):Option (Int):=(qbP N a0 a1).run some
def qrn (N:Nat):List (Nat×qM):=[]
def qhU (N:Nat):Ent:=smF ⟨148,[],[],[.k (.p 20 [] 0),.k (.p 30 [] 0)],[(20,.cell false (.x qm)),(30,.cell false (.x qm))]⟩ [qm,qm] (Int) (fun x=>qa9 N x.1 x.2.1) cs1 fun x=>qra x.1 x.2.1
theorem qpE (N:Nat):zl Tryz.prog (qhU N):=
 zo (H:=qqD) (L:=qR (qrn N)) (ts:=[qm,qm]) (T:=fun x=>qbP N x.1 x.2.1) 0 qzs (qny N) (qy (by kernel_rfl) trivial) (rg0 (by kernel_rfl)) fun x=>by kernel_rfl
noncomputable def qze:Code:=Tryz.f153.body.getD .skip
theorem qzI:FnF Tryz.prog 153 Tryz.f153 qze:=⟨qo,by kernel_rfl,by kernel_rfl,by kernel_rfl⟩
def qjd:TH:={ live:=[(0,[0]),(1,[2])] }
def qjs (N:Nat):List Ent:=[]
theorem qgV (N:Nat):qU Tryz.prog (qjs N):=trivial
def qjz (a0:List UInt8) (z:Unit):TV×THp:=(xb (!decide (a0=a0)),[])
def qbx (a0:List UInt8):Tree (Unit):=
 .ret ()
def V_ (a0:List UInt8):Option (Unit):=(qbx a0).run some
def qiY:List (Nat×qM):=[]
def qbE:Ent:=smF ⟨153,[],[.x .s],[],[]⟩ [.s] (Unit) (fun x=>V_ x.1) cs1 fun x=>qjz x.1
theorem qh3:zl Tryz.prog (qbE):=
 zo (H:=qjd) (L:=qR (qiY)) (ts:=[.s]) (T:=fun x=>qbx x.1) 0 qzI (qgV 0) (qy (by kernel_rfl) trivial) (rg0 (by kernel_rfl)) fun x=>by kernel_rfl
noncomputable def qyB:Code:=Tryz.f151.body.getD .skip
theorem qz6:FnF Tryz.prog 151 Tryz.f151 qyB:=⟨qo,by kernel_rfl,by kernel_rfl,by kernel_rfl⟩
def qgu:TH:={ live:=[(0,[0,1]),(1,[0,1,5]),(2,[0,1,5,6]),(3,[0,1,6,11]),(4,[12]),(5,[4]),(6,[4]),(7,[0,1,13]),(8,[4]),(9,[0,1,16]),(10,[4]),(11,[19]),(12,[4]),(13,[4])] }
def qgN (N:Nat):List Ent:=[qbE]
theorem qeQ (N:Nat):qU Tryz.prog (qgN N):=⟨qh3,trivial⟩
def qhg (z:Int):TV×THp:=(xi z,[])
def V8 (a0:List UInt8) (a1:List UInt8):Tree (Int):=
 .bind (V_ a0) fun r1=>
 .bind (V_ a1) fun r2=>
 .cond (!decide (a0=a0)) (
 .cond (!decide (a1=a1)) (
 .ret 0) <|
 .ret (-1)) <|
 .cond (!decide (a1=a1)) (
 .ret 1) <|
 .cond (Op.bytesLess a0 a1) (
 .ret (-1)) <|
 .cond (!(Op.bytesLess a0 a1||decide (a0=a1))) (
 .ret 1) <|
 .ret 0
def JP (a0:List UInt8) (a1:List UInt8):Option (Int):=(V8 a0 a1).run some
def qgB:List (Nat×qM):=[]
def qad:Ent:=smF ⟨151,[],[.x .s,.x .s],[],[]⟩ [.s,.s] (Int) (fun x=>JP x.1 x.2.1) cs1 fun _=>qhg
theorem qfQ:zl Tryz.prog (qad):=
 zo (H:=qgu) (L:=qR (qgB)) (ts:=[.s,.s]) (T:=fun x=>V8 x.1 x.2.1) 0 qz6 (qeQ 0) (qy (by kernel_rfl) trivial) (rg0 (by kernel_rfl)) fun x=>by kernel_rfl
noncomputable def qzp:Code:=Tryz.f150.body.getD .skip
theorem qyI:FnF Tryz.prog 150 Tryz.f150 qzp:=⟨qo,by kernel_rfl,by kernel_rfl,by kernel_rfl⟩
def qqU:TH:={ live:=[(0,[0,1]),(1,[2])] }
def qq9 (N:Nat):List Ent:=[qad]
theorem qnX (N:Nat):qU Tryz.prog (qq9 N):=⟨qfQ,trivial⟩
def qq1 (a0:qc) (a1:qc) (z:Int):TV×THp:=(xi z,[(20,.cell false (.tv qm a0)),(30,.cell false (.tv qm a1))])
def qbG (a0:qc) (a1:qc):Tree (Int):=
 .bind (JP (qc.V a0) (qc.V a1)) fun r1=>
 .ret r1
def qbb (a0:qc) (a1:qc):Option (Int):=(qbG a0 a1).run some
def qrh:List (Nat×qM):=[]
def qhJ:Ent:=smF ⟨150,[],[],[.k (.p 20 [] 0),.k (.p 30 [] 0)],[(20,.cell false (.x qm)),(30,.cell false (.x qm))]⟩ [qm,qm] (Int) (fun x=>qbb x.1 x.2.1) cs1 fun x=>qq1 x.1 x.2.1
theorem qoI:zl Tryz.prog (qhJ):=
 zo (H:=qqU) (L:=qR (qrh)) (ts:=[qm,qm]) (T:=fun x=>qbG x.1 x.2.1) 0 qyI (qnX 0) (qy (by kernel_rfl) trivial) (rg0 (by kernel_rfl)) fun x=>by kernel_rfl
noncomputable def Ky:Code:=Tryz.f138.body.getD .skip
theorem qy4:FnF Tryz.prog 138 Tryz.f138 Ky:=⟨qo,by kernel_rfl,by kernel_rfl,by kernel_rfl⟩
def XE:TH:={ live:=[(0,[2,3]),(1,[5]),(2,[13,14]),(3,[13,14,15]),(4,[7,13,14]),(5,[8,13,14]),(6,[8,13,14,20]),(7,[4]),(8,[13,14]),(9,[4])] }
def Yz (N:Nat):List Ent:=[qhD N,qhU N,qhJ]
theorem Xh (N:Nat):qU Tryz.prog (Yz N):=⟨qo6 N,qpE N,qoI,trivial⟩
abbrev zm:=qc×qc
abbrev zq:=Bool⊕Unit
def zt (f:zm):zq→Ex×TSt
 | .inl y=>(.ret,⟨0,24,[],[(4,xb y)],[],false,[]⟩)
 | .inr y=>(.exit 0,⟨0,24,[],[(13,.ag [.fn (.func 146) [] [.p 20 [] 0,.p 30 [] 0],.fn (.func 148) [] [.p 20 [] 0,.p 30 [] 0],.fn (.func 150) [] [.p 20 [] 0,.p 30 [] 0]]),(14,.ic .i64 3),(15,.bc false)],[(20,.cell false (.tv qm f.1)),(30,.cell false (.tv qm f.2))],false,[]⟩)
def W9 (N:Nat):List (Nat×qM):=[]
abbrev QG:=Unit
def qkM:SP:=⟨0,24,[],[(13,.ag [.fn 146 [] [.k (.p 20 [] 0),.k (.p 30 [] 0)],.fn 148 [] [.k (.p 20 [] 0),.k (.p 30 [] 0)],.fn 150 [] [.k (.p 20 [] 0),.k (.p 30 [] 0)]]),(14,.k (.ic .i64 3))],[(20,.cell false (.x qm)),(30,.cell false (.x qm))],false,[]⟩
def qb_ (f:zm) (v:QG):TSt:=jq qkM [dv qm f.1,dv qm f.2]
def ZR (N:Nat) (o_3:qc) (o_3_2:qc) (v:QG):Tree (QG⊕zq):=
 .ret (.inr (.inr ()))
def qb5 (N n:Nat) (f:zm) (v:QG):Option zq:=qY (ZR N f.1 f.2) some n v
theorem qkC (N:Nat) (f:zm) (n:Nat) (v:QG) (y:zq) (h:qb5 N n f v=some y):LG Tryz.prog XE 138 (q_ Ky 3) (qb_ f v) (zt f y):=
 z9 qo (E:=Yz N) (L:=qR (W9 N)) (st:=zt f) (g:=some) (R:=zt f) (Xh N) (qy (by kernel_rfl) trivial) (rg0 (by kernel_rfl)) (fun v=>by kernel_rfl) (zn (st:=zt f) fun y=>by rcases y with _ | _<;>rfl) n v y h
abbrev QD:=Unit
def qkE:SP:=⟨0,24,[],[(13,.ag [.fn 146 [] [.k (.p 20 [] 0),.k (.p 30 [] 0)],.fn 148 [] [.k (.p 20 [] 0),.k (.p 30 [] 0)],.fn 150 [] [.k (.p 20 [] 0),.k (.p 30 [] 0)]]),(14,.k (.ic .i64 2))],[(20,.cell false (.x qm)),(30,.cell false (.x qm))],false,[]⟩
def qb4 (f:zm) (v:QD):TSt:=jq qkE [dv qm f.1,dv qm f.2]
abbrev Yi:=QG⊕zq
def QF (N:Nat) (o_3:qc) (o_3_2:qc) (v:QD):Tree (QD⊕Yi):=
 .chk (0≤(2:Int)∧(2:Int) < ((3:Nat):Int)) <|
 .bind (qbb o_3 o_3_2) fun r1=>
 .cond (!decide (r1=((0:Int)))) (
 .ret (.inr (.inr ((.inl (decide (r1 < ((0:Int))))))))) <|
 .ret (.inr (.inl ()))
def ZQ (N n:Nat) (f:zm):Yi→Option zq
 | .inl w=>qb5 N n f w
 | .inr w=>some w
def qkH (f:zm):Yi→Ex×TSt
 | .inl w=>(.normal,qb_ f w)
 | .inr w=>zt f w
def qce (N n:Nat) (f:zm) (v:QD):Option zq:=qY (QF N f.1 f.2) (ZQ N n f) n v
theorem qky (N:Nat) (f:zm) (n:Nat) (v:QD) (y:zq) (h:qce N n f v=some y):LG Tryz.prog XE 138 (q_ Ky 3) (qb4 f v) (zt f y):=
 z9 qo (E:=Yz N) (L:=qR (W9 N)) (st:=qkH f) (g:=(ZQ N n f)) (R:=zt f) (Xh N) (qy (by kernel_rfl) trivial) (rg0 (by kernel_rfl)) (fun v=>by kernel_rfl) (fun w y h=>by
 rcases w with w | w
 ·exact qkC N f n w y h
 ·exact zn (st:=zt f) (fun y=>by rcases y with _ | _<;>rfl) w y h
) n v y h
abbrev QH:=Unit
def qkz:SP:=⟨0,24,[],[(13,.ag [.fn 146 [] [.k (.p 20 [] 0),.k (.p 30 [] 0)],.fn 148 [] [.k (.p 20 [] 0),.k (.p 30 [] 0)],.fn 150 [] [.k (.p 20 [] 0),.k (.p 30 [] 0)]]),(14,.k (.ic .i64 1))],[(20,.cell false (.x qm)),(30,.cell false (.x qm))],false,[]⟩
def qb7 (f:zm) (v:QH):TSt:=jq qkz [dv qm f.1,dv qm f.2]
abbrev Yk:=QD⊕zq
def QC (N:Nat) (o_3:qc) (o_3_2:qc) (v:QH):Tree (QH⊕Yk):=
 .chk (0≤(1:Int)∧(1:Int) < ((3:Nat):Int)) <|
 .bind (qa9 N o_3 o_3_2) fun r1=>
 .cond (!decide (r1=((0:Int)))) (
 .ret (.inr (.inr ((.inl (decide (r1 < ((0:Int))))))))) <|
 .ret (.inr (.inl ()))
def ZP (N n:Nat) (f:zm):Yk→Option zq
 | .inl w=>qce N n f w
 | .inr w=>some w
def qkX (f:zm):Yk→Ex×TSt
 | .inl w=>(.normal,qb4 f w)
 | .inr w=>zt f w
def qb8 (N n:Nat) (f:zm) (v:QH):Option zq:=qY (QC N f.1 f.2) (ZP N n f) n v
theorem qkI (N:Nat) (f:zm) (n:Nat) (v:QH) (y:zq) (h:qb8 N n f v=some y):LG Tryz.prog XE 138 (q_ Ky 3) (qb7 f v) (zt f y):=
 z9 qo (E:=Yz N) (L:=qR (W9 N)) (st:=qkX f) (g:=(ZP N n f)) (R:=zt f) (Xh N) (qy (by kernel_rfl) trivial) (rg0 (by kernel_rfl)) (fun v=>by kernel_rfl) (fun w y h=>by
 rcases w with w | w
 ·exact qky N f n w y h
 ·exact zn (st:=zt f) (fun y=>by rcases y with _ | _<;>rfl) w y h
) n v y h
abbrev VD:=Unit
def qfu:SP:=⟨0,24,[],[(13,.ag [.fn 146 [] [.k (.p 20 [] 0),.k (.p 30 [] 0)],.fn 148 [] [.k (.p 20 [] 0),.k (.p 30 [] 0)],.fn 150 [] [.k (.p 20 [] 0),.k (.p 30 [] 0)]]),(14,.k (.ic .i64 0))],[(20,.cell false (.x qm)),(30,.cell false (.x qm))],false,[]⟩
def qoY (f:zm) (v:VD):TSt:=jq qfu [dv qm f.1,dv qm f.2]
abbrev qaS:=QH⊕zq
def W4 (N:Nat) (o_3:qc) (o_3_2:qc) (v:VD):Tree (VD⊕qaS):=
 .chk (0≤(0:Int)∧(0:Int) < ((3:Nat):Int)) <|
 .bind (qa8 N o_3 o_3_2) fun r1=>
 .cond (!decide (r1=((0:Int)))) (
 .ret (.inr (.inr ((.inl (decide (r1 < ((0:Int))))))))) <|
 .ret (.inr (.inl ()))
def qaL (N n:Nat) (f:zm):qaS→Option zq
 | .inl w=>qb8 N n f w
 | .inr w=>some w
def qpm (f:zm):qaS→Ex×TSt
 | .inl w=>(.normal,qb7 f w)
 | .inr w=>zt f w
def qft (N n:Nat) (f:zm) (v:VD):Option zq:=qY (W4 N f.1 f.2) (qaL N n f) n v
theorem qpi (N:Nat) (f:zm) (n:Nat) (v:VD) (y:zq) (h:qft N n f v=some y):LG Tryz.prog XE 138 (q_ Ky 3) (qoY f v) (zt f y):=
 z9 qo (E:=Yz N) (L:=qR (W9 N)) (st:=qpm f) (g:=(qaL N n f)) (R:=zt f) (Xh N) (qy (by kernel_rfl) trivial) (rg0 (by kernel_rfl)) (fun v=>by kernel_rfl) (fun w y h=>by
 rcases w with w | w
 ·exact qkI N f n w y h
 ·exact zn (st:=zt f) (fun y=>by rcases y with _ | _<;>rfl) w y h
) n v y h
def qak (N:Nat) (o_3:qc) (o_3_2:qc):Option zq:=qft N N (o_3,o_3_2) ()
def qgb (N:Nat):qM:=smL qfu [qm,qm] zq (fun x=>qak N x.1 x.2.1) (csS cs1) fun x=>zt (x.1,x.2.1)
theorem qnU (N:Nat):Qt Tryz.prog XE 138 (q_ Ky 3) (qgb N):=jv fun x z h=>qpi N (x.1,x.2.1) N () z h
def qu2 (z:Bool):TV×THp:=(xb z,[])
def qev (N:Nat) (a0:qc) (a1:qc):Tree (Bool):=
 .bind (qak N a0 a1) fun z1=>
 .sum z1 (fun z2=>
 .ret z2) fun z2=>
 .ret false
def qeo (N:Nat) (a0:qc) (a1:qc):Option (Bool):=(qev N a0 a1).run some
def qu3 (N:Nat):List (Nat×qM):=[(3,qgb N)]
def qk_ (N:Nat):Ent:=smF ⟨138,[],[.x qm,.x qm],[],[]⟩ [qm,qm] (Bool) (fun x=>qeo N x.1 x.2.1) cs1 fun _=>qu2
theorem qtL (N:Nat):zl Tryz.prog (qk_ N):=
 zo (H:=XE) (L:=qR (qu3 N)) (ts:=[qm,qm]) (T:=fun x=>qev N x.1 x.2.1) 0 qy4 (Xh N) (qy (by kernel_rfl) ⟨qnU N,trivial⟩) (rg0 (by kernel_rfl)) fun x=>by kernel_rfl
noncomputable def qzD:Code:=Tryz.f116.body.getD .skip
theorem qyS:FnF Tryz.prog 116 Tryz.f116 qzD:=⟨qo,by kernel_rfl,by kernel_rfl,by kernel_rfl⟩
def qva:TH:={ live:=[(0,[2,3,4]),(1,[2,3,4,7]),(2,[4]),(3,[4])] }
def qve (N:Nat):List Ent:=[qk_ N]
theorem qq2 (N:Nat):qU Tryz.prog (qve N):=⟨qtL N,trivial⟩
def qvk (z:qc):TV×THp:=(.tv qm z,[])
def qe3 (N:Nat) (a0:qc) (a1:qc):Tree (qc):=
 .bind (qeo N a0 a1) fun r1=>
 .cond r1 (
 .ret a1) <|
 .ret a0
def qd1 (N:Nat) (a0:qc) (a1:qc):Option (qc):=(qe3 N a0 a1).run some
def qvm (N:Nat):List (Nat×qM):=[]
def qlm (N:Nat):Ent:=smF ⟨116,[],[.x qm,.x qm],[],[]⟩ [qm,qm] (qc) (fun x=>qd1 N x.1 x.2.1) cs1 fun _=>qvk
theorem qtw (N:Nat):zl Tryz.prog (qlm N):=
 zo (H:=qva) (L:=qR (qvm N)) (ts:=[qm,qm]) (T:=fun x=>qe3 N x.1 x.2.1) 0 qyS (qq2 N) (qy (by kernel_rfl) trivial) (rg0 (by kernel_rfl)) fun x=>by kernel_rfl
noncomputable def qmF:Code:=Tryz.f89.body.getD .skip
theorem qA6:FnF Tryz.prog 89 Tryz.f89 qmF:=⟨qo,by kernel_rfl,by kernel_rfl,by kernel_rfl⟩
def Wp:TH:={ live:=[(0,[0,3]),(1,[0,9,10,11]),(2,[0,9,10,11,12]),(3,[0,5,9,10,11]),(4,[0,5,6,7,9,10,11]),(5,[0,5,6,9,10,11,22]),(6,[0,9,10,11]),(7,[0,9,10,11]),(8,[0,9,10,11])] }
def qby (N:Nat):List Ent:=[qlm N]
theorem K8 (N:Nat):qU Tryz.prog (qby N):=⟨qtw N,trivial⟩
abbrev Zx:=List qb×Int
abbrev jX:=Nat×List (Int×qc×Nat)×Int×Bool
def v9 (f:Zx) (y:jX):Ex×TSt:=(.exit 0,⟨1,36,[250],[(0,.m 250),(9,.tv (.sl 4 qq) f.1),(10,xi f.2),(11,xi y.2.2.1),(12,xb y.2.2.2)],[(250,.map y.1 (.i .i64) qm (y.2.1:List (Int×qc×Nat)))],false,[]⟩)
def qfH (N:Nat):List (Nat×qM):=[]
abbrev v5:=Nat×List (Int×qc×Nat)×Int
def Kw:SP:=⟨1,36,[250],[(0,.k (.m 250)),(9,.x (.sl 4 qq)),(10,.x (.i .i64)),(11,.x (.i .i64))],[(250,.map (.i .i64) qm)],false,[]⟩
def qf_ (f:Zx) (v:v5):TSt:=jq Kw [dv .nat v.1,dv (VJ (.i .i64) qm) v.2.1,dv (.sl 4 qq) f.1,dv (.i .i64) f.2,dv (.i .i64) v.2.2]
def v_ (N:Nat) (s9_2:List qb) (s10_2:Int) (v:v5):Tree (v5⊕jX):=
 .cond (decide (v.2.2 < s10_2)) (
 .bind (zp s9_2 v.2.2) fun e1=>
 .opt (fnd (β:=qc) (.i .i64) (qb.No e1) v.2.1) (
 .chk (qx (v.2.2 + 1)) <|
 .ret (.inl ((Ql (.i .i64) (qb.No e1) (qb.C e1) v.1 v.2.1).1,(Ql (.i .i64) (qb.No e1) (qb.C e1) v.1 v.2.1).2,v.2.2 + 1))) fun e2=>
 .bind (qd1 N e2.1 (qb.C e1)) fun r3=>
 .chk (qx (v.2.2 + 1)) <|
 .ret (.inl ((Ql (.i .i64) (qb.No e1) r3 v.1 v.2.1).1,(Ql (.i .i64) (qb.No e1) r3 v.1 v.2.1).2,v.2.2 + 1))) <|
 .ret (.inr (v.1,v.2.1,v.2.2,decide (v.2.2 < s10_2)))
def KE (N n:Nat) (f:Zx) (v:v5):Option jX:=qY (v_ N f.1 f.2) some n v
theorem qfX (N:Nat) (f:Zx) (n:Nat) (v:v5) (y:jX) (h:KE N n f v=some y):LG Tryz.prog Wp 89 (q_ qmF 2) (qf_ f v) (v9 f y):=
 z9 qo (E:=qby N) (L:=qR (qfH N)) (st:=v9 f) (g:=some) (R:=v9 f) (K8 N) (qy (by kernel_rfl) trivial) (rg0 (by kernel_rfl)) (fun v=>by kernel_rfl) (zn (st:=v9 f) fun y=>by rfl) n v y h
def XH (N:Nat) (s9_2:List qb) (s10_2:Int) (o_2:Nat) (o_2_2:List (Int×qc×Nat)) (s11_2:Int):Option jX:=KE N N (s9_2,s10_2) (o_2,o_2_2,s11_2)
def KF (N:Nat):qM:=smL Kw [.nat,(VJ (.i .i64) qm),(.sl 4 qq),(.i .i64),(.i .i64)] jX (fun x=>XH N x.2.2.1 x.2.2.2.1 x.1 x.2.1 x.2.2.2.2.1) cs1 fun x=>v9 (x.2.2.1,x.2.2.2.1)
theorem qe8 (N:Nat):Qt Tryz.prog Wp 89 (q_ qmF 2) (KF N):=jv fun x z h=>qfX N (x.2.2.1,x.2.2.2.1) N (x.1,x.2.1,x.2.2.2.2.1) z h
def qi9 (z:Nat×List (Int×qc×Nat)):TV×THp:=(.tup [],[(250,.map z.1 (.i .i64) qm (z.2:List (Int×qc×Nat)))])
def Wu (N:Nat) (a0:Nat) (a1:List (Int×qc×Nat)) (a2:qa):Tree (Nat×List (Int×qc×Nat)):=
 .bind (XH N (qa.F a2) (((qa.F a2).length:Nat):Int) a0 a1 0) fun z1=>
 .ret (z1.1,z1.2.1)
def Je (N:Nat) (a0:Nat) (a1:List (Int×qc×Nat)) (a2:qa):Option (Nat×List (Int×qc×Nat)):=(Wu N a0 a1 a2).run some
def qjR (N:Nat):List (Nat×qM):=[(2,KF N)]
def qbv (N:Nat):Ent:=smF ⟨89,[],[.k (.m 250),.x qf],[],[(250,.map (.i .i64) qm)]⟩ [.nat,(VJ (.i .i64) qm),qf] (Nat×List (Int×qc×Nat)) (fun x=>Je N x.1 x.2.1 x.2.2.1) cs1 fun _=>qi9
theorem qhY (N:Nat):zl Tryz.prog (qbv N):=
 zo (H:=Wp) (L:=qR (qjR N)) (ts:=[.nat,(VJ (.i .i64) qm),qf]) (T:=fun x=>Wu N x.1 x.2.1 x.2.2.1) 0 qA6 (K8 N) (qy (by kernel_rfl) ⟨qe8 N,trivial⟩) (rg0 (by kernel_rfl)) fun x=>by kernel_rfl
noncomputable def qBb:Code:=Tryz.f90.body.getD .skip
theorem qBu:FnF Tryz.prog 90 Tryz.f90 qBb:=⟨qo,by kernel_rfl,by kernel_rfl,by kernel_rfl⟩
def quR:TH:={ live:=[(0,[2,3,4]),(1,[2,3,4,7]),(2,[4]),(3,[4])] }
def que (N:Nat):List Ent:=[Wt N]
theorem qq3 (N:Nat):qU Tryz.prog (que N):=⟨YO N,trivial⟩
def quY (z:qd):TV×THp:=(.tv ql z,[])
def qfj (N:Nat) (a0:qd) (a1:qd):Tree (qd):=
 .bind (Qr N a0 a1) fun r1=>
 .cond r1 (
 .ret a1) <|
 .ret a0
def qdV (N:Nat) (a0:qd) (a1:qd):Option (qd):=(qfj N a0 a1).run some
def qu9 (N:Nat):List (Nat×qM):=[]
def qln (N:Nat):Ent:=smF ⟨90,[],[.x ql,.x ql],[],[]⟩ [ql,ql] (qd) (fun x=>qdV N x.1 x.2.1) cs1 fun _=>quY
theorem qts (N:Nat):zl Tryz.prog (qln N):=
 zo (H:=quR) (L:=qR (qu9 N)) (ts:=[ql,ql]) (T:=fun x=>qfj N x.1 x.2.1) 0 qBu (qq3 N) (qy (by kernel_rfl) trivial) (rg0 (by kernel_rfl)) fun x=>by kernel_rfl
noncomputable def qBB:Code:=Tryz.f91.body.getD .skip
theorem qBq:FnF Tryz.prog 91 Tryz.f91 qBB:=⟨qo,by kernel_rfl,by kernel_rfl,by kernel_rfl⟩
def qfy:TH:={ live:=[(0,[2,3]),(1,[4])],esc:=true }
def qfF (N:Nat):List Ent:=[]
theorem qdL (N:Nat):qU Tryz.prog (qfF N):=trivial
def qfG (a0:Nat) (a1:List (Int×qc×Nat)) (a2:qd) (z:Unit):TV×THp:=(.fn (.func 117) [] [.p 100020 [] 0,.p 100030 [] 0],[(250,.map a0 (.i .i64) qm a1),(100020,.cell false (.m 250)),(100030,.cell false (.tv ql a2))])
def Kt (a0:Nat) (a1:List (Int×qc×Nat)) (a2:qd):Tree (Unit):=
 .ret ()
def qaE (a0:Nat) (a1:List (Int×qc×Nat)) (a2:qd):Option (Unit):=(Kt a0 a1 a2).run some
def qfD:List (Nat×qM):=[]
def Kg:Ent:=smF ⟨91,[],[.k (.m 250),.x ql],[],[(250,.map (.i .i64) qm)]⟩ [.nat,(VJ (.i .i64) qm),ql] (Unit) (fun x=>qaE x.1 x.2.1 x.2.2.1) cs1 fun x=>qfG x.1 x.2.1 x.2.2.1
theorem qeY:zl Tryz.prog (Kg):=
 zo (H:=qfy) (L:=qR (qfD)) (ts:=[.nat,(VJ (.i .i64) qm),ql]) (T:=fun x=>Kt x.1 x.2.1 x.2.2.1) 0 qBq (qdL 0) (qy (by kernel_rfl) trivial) (rg0 (by kernel_rfl)) fun x=>by kernel_rfl
def qiM:TH:={ live:=[(0,[2,3,4]),(1,[2,3,4,23]),(2,[4,5]),(3,[2,3,4,6]),(4,[2,3,4,6]),(5,[2,3,4,6]),(6,[4,6,7]),(7,[4,7,43]),(8,[7,8]),(10,[4,5])],dec:=[12,17],fresh:=[43] }
def qjo (N:Nat):List Ent:=[]
theorem qgX (N:Nat):qU Tryz.prog (qjo N):=trivial
def qj1 (a0:List qb) (a1:List qb) (a2:Nat) (a3:List (Int×qc×Nat)) (a4:Vector UInt8 16) (a5:qd) (a6:Vector UInt8 16) (a7:qd) (a8:qd) (a9:qb) (z:Unit):TV×THp:=(.bc true,[(40,.cell false (.ag [.tv (.ba 16) a4,.tv ql a5,.v 45 a0.length])),(45,.vec false 4 (.sl 4 qq) a0),(70,.cell false (.ag [.tv (.ba 16) a6,.tv ql a7,.v 75 ((a1++[a9]).length)])),(75,.vec false 4 (.sl 4 qq) (a1++[a9]:List qb)),(250,.map a2 (.i .i64) qm a3),(50080,.loop [44] 52 [(4,.p 40 [] 0),(7,.p 70 [] 0),(43,.fn (.func 117) [] [.p 100020 [] 0,.p 100030 [] 0])] 5500008 55 .ready none 50081),(50081,.dfr true),(100020,.cell false (.m 250)),(100030,.cell false (.tv ql a8))])
def WB (a0:List qb) (a1:List qb) (a2:Nat) (a3:List (Int×qc×Nat)) (a4:Vector UInt8 16) (a5:qd) (a6:Vector UInt8 16) (a7:qd) (a8:qd) (a9:qb):Tree (Unit):=
 .chk (JV a1.length a1.length ((a1++[a9]).length) 40) <|
 .ret ()
def Xb (a0:List qb) (a1:List qb) (a2:Nat) (a3:List (Int×qc×Nat)) (a4:Vector UInt8 16) (a5:qd) (a6:Vector UInt8 16) (a7:qd) (a8:qd) (a9:qb):Option (Unit):=(WB a0 a1 a2 a3 a4 a5 a6 a7 a8 a9).run some
def qiN:List (Nat×qM):=[]
def qbz:Ent:=smR 50080 [.x qq] [(40,.cell false (.ag [.x (.ba 16),.x ql,.vs 45])),(45,.vec false 4),(70,.cell false (.ag [.x (.ba 16),.x ql,.vs 75])),(75,.vec false 4),(250,.map (.i .i64) qm),(50080,.loop [44] 52 [(4,.k (.p 40 [] 0)),(7,.k (.p 70 [] 0)),(43,.fn 117 [] [.k (.p 100020 [] 0),.k (.p 100030 [] 0)])] 5500008 55 .ready none 50081),(50081,.dfr true),(100020,.cell false (.k (.m 250))),(100030,.cell false (.x ql))] [(.sl 4 qq),(.sl 4 qq),.nat,(VJ (.i .i64) qm),(.ba 16),ql,(.ba 16),ql,ql,qq] (Unit) (fun x=>Xb x.1 x.2.1 x.2.2.1 x.2.2.2.1 x.2.2.2.2.1 x.2.2.2.2.2.1 x.2.2.2.2.2.2.1 x.2.2.2.2.2.2.2.1 x.2.2.2.2.2.2.2.2.1 x.2.2.2.2.2.2.2.2.2.1) cs1 fun x=>qj1 x.1 x.2.1 x.2.2.1 x.2.2.2.1 x.2.2.2.2.1 x.2.2.2.2.2.1 x.2.2.2.2.2.2.1 x.2.2.2.2.2.2.2.1 x.2.2.2.2.2.2.2.2.1 x.2.2.2.2.2.2.2.2.2.1
theorem qh_:zl Tryz.prog (qbz):=
 qET (H:=qiM) (L:=qR (qiN)) (ts:=[(.sl 4 qq),(.sl 4 qq),.nat,(VJ (.i .i64) qm),(.ba 16),ql,(.ba 16),ql,ql,qq]) (T:=fun x=>WB x.1 x.2.1 x.2.2.1 x.2.2.2.1 x.2.2.2.2.1 x.2.2.2.2.2.1 x.2.2.2.2.2.2.1 x.2.2.2.2.2.2.2.1 x.2.2.2.2.2.2.2.2.1 x.2.2.2.2.2.2.2.2.2.1) (K:=55) (cid:=5500008) 2 qo (qgX 0) (by kernel_rfl) (qy (by kernel_rfl) trivial) (rg0 (by kernel_rfl)) (rg0 (by kernel_rfl)) (fun x=>by kernel_rfl) fun x=>by kernel_rfl
noncomputable def qi1:Code:=Tryz.f117.body.getD .skip
theorem qzw:FnF Tryz.prog 117 Tryz.f117 qi1:=⟨qo,by kernel_rfl,by kernel_rfl,by kernel_rfl⟩
def Jo:TH:={ live:=[(0,[0,1,2,7]),(1,[0,1,2,7,8]),(2,[0,1,2,4,7]),(3,[0,1,2,4,5,6,7]),(4,[0,1,2,7,30]),(5,[0,1,2,7])],dec:=[17,23] }
def Yf (N:Nat):List Ent:=[Wt N,qbz]
theorem XP (N:Nat):qU Tryz.prog (Yf N):=⟨YO N,qh_,trivial⟩
abbrev vT:=List qb×Nat×List (Int×qc×Nat)×Vector UInt8 16×qd×Vector UInt8 16×qd×qd
abbrev jg:=List qb×Int×Bool
def jD (f:vT) (y:jg):Ex×TSt:=(.exit 0,⟨2,32,[40,45,70,75,250,50080,50081,100020,100030],[(0,.yl 50080),(1,.p 100020 [] 0),(2,.p 100030 [] 0),(7,xi y.2.1),(8,xb y.2.2)],[(40,.cell false (.ag [.tv (.ba 16) f.2.2.2.1,.tv ql f.2.2.2.2.1,.v 45 f.1.length])),(45,.vec false 4 (.sl 4 qq) f.1),(70,.cell false (.ag [.tv (.ba 16) f.2.2.2.2.2.1,.tv ql f.2.2.2.2.2.2.1,.v 75 y.1.length])),(75,.vec false 4 (.sl 4 qq) (y.1:List qb)),(250,.map f.2.1 (.i .i64) qm f.2.2.1),(50080,.loop [44] 52 [(4,.p 40 [] 0),(7,.p 70 [] 0),(43,.fn (.func 117) [] [.p 100020 [] 0,.p 100030 [] 0])] 5500008 55 .ready none 50081),(50081,.dfr true),(100020,.cell false (.m 250)),(100030,.cell false (.tv ql f.2.2.2.2.2.2.2))],false,[]⟩)
def qbK (N:Nat):List (Nat×qM):=[]
abbrev jE:=List qb×Int
def Xt:SP:=⟨2,32,[40,45,70,75,250,50080,50081,100020,100030],[(0,.k (.yl 50080)),(1,.k (.p 100020 [] 0)),(2,.k (.p 100030 [] 0)),(7,.x (.i .i64))],[(40,.cell false (.ag [.x (.ba 16),.x ql,.vs 45])),(45,.vec false 4),(70,.cell false (.ag [.x (.ba 16),.x ql,.vs 75])),(75,.vec false 4),(250,.map (.i .i64) qm),(50080,.loop [44] 52 [(4,.k (.p 40 [] 0)),(7,.k (.p 70 [] 0)),(43,.fn 117 [] [.k (.p 100020 [] 0),.k (.p 100030 [] 0)])] 5500008 55 .ready none 50081),(50081,.dfr true),(100020,.cell false (.k (.m 250))),(100030,.cell false (.x ql))],false,[]⟩
def qbL (f:vT) (v:jE):TSt:=jq Xt [dv (.sl 4 qq) f.1,dv (.sl 4 qq) v.1,dv .nat f.2.1,dv (VJ (.i .i64) qm) f.2.2.1,dv (.ba 16) f.2.2.2.1,dv ql f.2.2.2.2.1,dv (.ba 16) f.2.2.2.2.2.1,dv ql f.2.2.2.2.2.2.1,dv ql f.2.2.2.2.2.2.2,dv (.i .i64) v.2]
def vU (N:Nat) (o_1:List qb) (o_1_3:Nat) (o_1_4:List (Int×qc×Nat)) (o_1_5:Vector UInt8 16) (o_1_6:qd) (o_1_7:Vector UInt8 16) (o_1_8:qd) (o_1_9:qd) (v:jE):Tree (jE⊕jg):=
 .cond (decide (v.2 < ((8:Int)))) (
 .opt (fnd (β:=qc) (.i .i64) v.2 o_1_4) (
 .chk (qx (v.2 + 1)) <|
 .ret (.inl (v.1,v.2 + 1))) fun e1=>
 .bind (Qr N o_1_9 (qc.S e1.1)) fun r2=>
 .cond r2 (
 .bind (jF [(o_1.length,o_1.length),(v.1.length,v.1.length)] (Xb o_1 v.1 o_1_3 o_1_4 o_1_5 o_1_6 o_1_7 o_1_8 o_1_9 (qb.mk v.2 e1.1))) fun r3=>
 .chk (qx (v.2 + 1)) <|
 .ret (.inl (v.1++[qb.mk v.2 e1.1],v.2 + 1))) <|
 .chk (qx (v.2 + 1)) <|
 .ret (.inl (v.1,v.2 + 1))) <|
 .ret (.inr (v.1,v.2,decide (v.2 < ((8:Int)))))
def Xo (N n:Nat) (f:vT) (v:jE):Option jg:=qY (vU N f.1 f.2.1 f.2.2.1 f.2.2.2.1 f.2.2.2.2.1 f.2.2.2.2.2.1 f.2.2.2.2.2.2.1 f.2.2.2.2.2.2.2) some n v
theorem qb1 (N:Nat) (f:vT) (n:Nat) (v:jE) (y:jg) (h:Xo N n f v=some y):LG Tryz.prog Jo 117 (q_ qi1 1) (qbL f v) (jD f y):=
 z9 qo (E:=Yf N) (L:=qR (qbK N)) (st:=jD f) (g:=some) (R:=jD f) (XP N) (qy (by kernel_rfl) trivial) (rg0 (by kernel_rfl)) (fun v=>by kernel_rfl) (zn (st:=jD f) fun y=>by rfl) n v y h
def Ji (N:Nat) (o_1:List qb) (o_1_3:Nat) (o_1_4:List (Int×qc×Nat)) (o_1_5:Vector UInt8 16) (o_1_6:qd) (o_1_7:Vector UInt8 16) (o_1_8:qd) (o_1_9:qd) (o_1_2:List qb) (s7_1:Int):Option jg:=Xo N N (o_1,o_1_3,o_1_4,o_1_5,o_1_6,o_1_7,o_1_8,o_1_9) (o_1_2,s7_1)
def Xr (N:Nat):qM:=smL Xt [(.sl 4 qq),(.sl 4 qq),.nat,(VJ (.i .i64) qm),(.ba 16),ql,(.ba 16),ql,ql,(.i .i64)] jg (fun x=>Ji N x.1 x.2.2.1 x.2.2.2.1 x.2.2.2.2.1 x.2.2.2.2.2.1 x.2.2.2.2.2.2.1 x.2.2.2.2.2.2.2.1 x.2.2.2.2.2.2.2.2.1 x.2.1 x.2.2.2.2.2.2.2.2.2.1) cs1 fun x=>jD (x.1,x.2.2.1,x.2.2.2.1,x.2.2.2.2.1,x.2.2.2.2.2.1,x.2.2.2.2.2.2.1,x.2.2.2.2.2.2.2.1,x.2.2.2.2.2.2.2.2.1)
theorem qbo (N:Nat):Qt Tryz.prog Jo 117 (q_ qi1 1) (Xr N):=jv fun x z h=>qb1 N (x.1,x.2.2.1,x.2.2.2.1,x.2.2.2.2.1,x.2.2.2.2.2.1,x.2.2.2.2.2.2.1,x.2.2.2.2.2.2.2.1,x.2.2.2.2.2.2.2.2.1) N (x.2.1,x.2.2.2.2.2.2.2.2.2.1) z h
def qdK (a0:List qb) (a2:Nat) (a3:List (Int×qc×Nat)) (a4:Vector UInt8 16) (a5:qd) (a6:Vector UInt8 16) (a7:qd) (a8:qd) (z:List qb):TV×THp:=(.tup [],[(40,.cell false (.ag [.tv (.ba 16) a4,.tv ql a5,.v 45 a0.length])),(45,.vec false 4 (.sl 4 qq) a0),(70,.cell false (.ag [.tv (.ba 16) a6,.tv ql a7,.v 75 z.length])),(75,.vec false 4 (.sl 4 qq) z),(250,.map a2 (.i .i64) qm a3),(50080,.loop [44] 52 [(4,.p 40 [] 0),(7,.p 70 [] 0),(43,.fn (.func 117) [] [.p 100020 [] 0,.p 100030 [] 0])] 5500008 55 .ready none 50081),(50081,.dfr true),(100020,.cell false (.m 250)),(100030,.cell false (.tv ql a8))])
def Jp (N:Nat) (a0:List qb) (a1:List qb) (a2:Nat) (a3:List (Int×qc×Nat)) (a4:Vector UInt8 16) (a5:qd) (a6:Vector UInt8 16) (a7:qd) (a8:qd):Tree (List qb):=
 .bind (jF [(a0.length,a0.length),(a1.length,a1.length)] (Ji N a0 a2 a3 a4 a5 a6 a7 a8 a1 0)) fun z1=>
 .ret z1.1
def Zt (N:Nat) (a0:List qb) (a1:List qb) (a2:Nat) (a3:List (Int×qc×Nat)) (a4:Vector UInt8 16) (a5:qd) (a6:Vector UInt8 16) (a7:qd) (a8:qd):Option (List qb):=(Jp N a0 a1 a2 a3 a4 a5 a6 a7 a8).run some
def qdO (N:Nat):List (Nat×qM):=[(1,Xr N)]
def Yg (N:Nat):Ent:=smF ⟨117,[],[.k (.yl 50080)],[.k (.p 100020 [] 0),.k (.p 100030 [] 0)],[(40,.cell false (.ag [.x (.ba 16),.x ql,.vs 45])),(45,.vec false 4),(70,.cell false (.ag [.x (.ba 16),.x ql,.vs 75])),(75,.vec false 4),(250,.map (.i .i64) qm),(50080,.loop [44] 52 [(4,.k (.p 40 [] 0)),(7,.k (.p 70 [] 0)),(43,.fn 117 [] [.k (.p 100020 [] 0),.k (.p 100030 [] 0)])] 5500008 55 .ready none 50081),(50081,.dfr true),(100020,.cell false (.k (.m 250))),(100030,.cell false (.x ql))]⟩ [(.sl 4 qq),(.sl 4 qq),.nat,(VJ (.i .i64) qm),(.ba 16),ql,(.ba 16),ql,ql] (List qb) (fun x=>Zt N x.1 x.2.1 x.2.2.1 x.2.2.2.1 x.2.2.2.2.1 x.2.2.2.2.2.1 x.2.2.2.2.2.2.1 x.2.2.2.2.2.2.2.1 x.2.2.2.2.2.2.2.2.1) cs1 fun x=>qdK x.1 x.2.2.1 x.2.2.2.1 x.2.2.2.2.1 x.2.2.2.2.2.1 x.2.2.2.2.2.2.1 x.2.2.2.2.2.2.2.1 x.2.2.2.2.2.2.2.2.1
theorem qc8 (N:Nat):zl Tryz.prog (Yg N):=
 zo (H:=Jo) (L:=qR (qdO N)) (ts:=[(.sl 4 qq),(.sl 4 qq),.nat,(VJ (.i .i64) qm),(.ba 16),ql,(.ba 16),ql,ql]) (T:=fun x=>Jp N x.1 x.2.1 x.2.2.1 x.2.2.2.1 x.2.2.2.2.1 x.2.2.2.2.2.1 x.2.2.2.2.2.2.1 x.2.2.2.2.2.2.2.1 x.2.2.2.2.2.2.2.2.1) 1 qzw (XP N) (qy (by kernel_rfl) ⟨qbo N,trivial⟩) (rg0 (by kernel_rfl)) fun x=>by kernel_rfl
noncomputable def qBk:Code:=Tryz.f55.body.getD .skip
theorem qCr:FnF Tryz.prog 55 Tryz.f55 qBk:=⟨qo,by kernel_rfl,by kernel_rfl,by kernel_rfl⟩
def qwH:TH:={ live:=[(0,[2,3,4]),(1,[2,3,4,23]),(2,[4,5]),(3,[2,3,4,6]),(4,[2,3,4,6]),(5,[2,3,4,6]),(6,[4,6,7]),(7,[4,7,43]),(8,[7,8]),(10,[4,5])],dec:=[12,17],fresh:=[43],nil:=[(0,[⟨.ob 40 [2],45,(.sl 4 qq)⟩]),(2,[⟨.ob 40 [2],45,(.sl 4 qq)⟩]),(6,[⟨.ob 70 [2],75,(.sl 4 qq)⟩])] }
def qwJ (N:Nat):List Ent:=[qd5 N,qbv N,qln N,Kg,Yg N]
theorem qs8 (N:Nat):qU Tryz.prog (qwJ N):=⟨qgK N,qhY N,qts N,qeY,qc8 N,trivial⟩
def qw2 (z:qa×Bool):TV×THp:=(.tup [.tv qf (z.1:qa),xb z.2],[])
def qgf (N:Nat) (a0:qa) (a1:qa):Tree (qa×Bool):=
 .bind (qaM N a0) fun r1=>
 .cond (!r1) (
 .chk (0=0) <|
 .ret (qa.mk ((Vector.replicate 16 0)) (qd.mk 0 0) [],false)) <|
 .bind (qaM N a1) fun r2=>
 .cond (!r2) (
 .chk (0=0) <|
 .ret (qa.mk ((Vector.replicate 16 0)) (qd.mk 0 0) [],false)) <|
 .cond (!(eqE (.ba 16) (qa.ID a0) (qa.ID a1))) (
 .chk (0=0) <|
 .ret (qa.mk ((Vector.replicate 16 0)) (qd.mk 0 0) [],false)) <|
 .bind (Je N 0 [] a0) fun r3=>
 .bind (Je N r3.1 r3.2 a1) fun r4=>
 .bind (qdV N (qa.qQ a0) (qa.qQ a1)) fun r5=>
 .bind (qaE r4.1 r4.2 r5) fun r6=>
 .bind (jF [(([]:List qb).length,0),(([]:List qb).length,0)] (Zt N [] [] r4.1 r4.2 ((Vector.replicate 16 0)) (qd.mk 0 0) (qa.ID a0) r5 r5)) fun r7=>
 .chk (r7.length=r7.length) <|
 .ret (qa.mk (qa.ID a0) r5 r7,true)
def qgw (N:Nat) (a0:qa) (a1:qa):Option (qa×Bool):=(qgf N a0 a1).run some
def qx8 (N:Nat):List (Nat×qM):=[]
def qnn (N:Nat):Ent:=smF ⟨55,[],[.x qf,.x qf],[],[]⟩ [qf,qf] (qa×Bool) (fun x=>qgw N x.1 x.2.1) cs1 fun _=>qw2
theorem qu0 (N:Nat):zl Tryz.prog (qnn N):=
 zo (H:=qwH) (L:=qR (qx8 N)) (ts:=[qf,qf]) (T:=fun x=>qgf N x.1 x.2.1) 0 qCr (qs8 N) (qy (by kernel_rfl) trivial) (rgs (by kernel_rfl)) fun x=>by kernel_rfl
noncomputable def qzl:Code:=Tryz.f127.body.getD .skip
theorem qye:FnF Tryz.prog 127 Tryz.f127 qzl:=⟨qo,by kernel_rfl,by kernel_rfl,by kernel_rfl⟩
def qkO:TH:={ live:=[(0,[0,2]),(1,[0,2,4]),(2,[0]),(3,[0,2]),(4,[0,2,8]),(5,[0,2]),(6,[0,2]),(7,[0,2,14]),(8,[0,2]),(9,[0,2]),(10,[2])] }
def qkQ (N:Nat):List Ent:=[]
theorem qhV (N:Nat):qU Tryz.prog (qkQ N):=trivial
def qkG (z:Int):TV×THp:=(xi z,[])
def qca (a0:Int):Tree (Int):=
 .cond (decide (((4294967296:Int))≤a0)) (
 .chk (0≤(32:Int)) <|
 .cond (decide (65536≤(Zh a0 32))) (
 .chk (0≤(16:Int)) <|
 .cond (decide (256≤(Zh (Zh a0 32) 16))) (
 .chk (0≤(8:Int)) <|
 let w1:Int:=IntKind.u8.wrap (Zh (Zh (Zh a0 32) 16) 8)
 .bind (zp qiU w1) fun e2=>
 .chk (qx ((e2.toNat:Nat):Int)) <|
 .chk (qx (((56:Int)) + ((e2.toNat:Nat):Int))) <|
 .ret (((56:Int)) + ((e2.toNat:Nat):Int))) <|
 .bind (zp qiU (IntKind.u8.wrap (Zh (Zh a0 32) 16))) fun e1=>
 .chk (qx ((e1.toNat:Nat):Int)) <|
 .chk (qx (((48:Int)) + ((e1.toNat:Nat):Int))) <|
 .ret (((48:Int)) + ((e1.toNat:Nat):Int))) <|
 .cond (decide (256≤(Zh a0 32))) (
 .chk (0≤(8:Int)) <|
 .bind (zp qiU (IntKind.u8.wrap (Zh (Zh a0 32) 8))) fun e1=>
 .chk (qx ((e1.toNat:Nat):Int)) <|
 .chk (qx (((40:Int)) + ((e1.toNat:Nat):Int))) <|
 .ret (((40:Int)) + ((e1.toNat:Nat):Int))) <|
 .bind (zp qiU (IntKind.u8.wrap (Zh a0 32))) fun e1=>
 .chk (qx ((e1.toNat:Nat):Int)) <|
 .chk (qx (((32:Int)) + ((e1.toNat:Nat):Int))) <|
 .ret (((32:Int)) + ((e1.toNat:Nat):Int))) <|
 .cond (decide (((65536:Int))≤a0)) (
 .chk (0≤(16:Int)) <|
 .cond (decide (256≤(Zh a0 16))) (
 .chk (0≤(8:Int)) <|
 .bind (zp qiU (IntKind.u8.wrap (Zh (Zh a0 16) 8))) fun e1=>
 .chk (qx ((e1.toNat:Nat):Int)) <|
 .chk (qx (((24:Int)) + ((e1.toNat:Nat):Int))) <|
 .ret (((24:Int)) + ((e1.toNat:Nat):Int))) <|
 .bind (zp qiU (IntKind.u8.wrap (Zh a0 16))) fun e1=>
 .chk (qx ((e1.toNat:Nat):Int)) <|
 .chk (qx (((16:Int)) + ((e1.toNat:Nat):Int))) <|
 .ret (((16:Int)) + ((e1.toNat:Nat):Int))) <|
 .cond (decide (((256:Int))≤a0)) (
 .chk (0≤(8:Int)) <|
 .bind (zp qiU (IntKind.u8.wrap (Zh a0 8))) fun e1=>
 .chk (qx ((e1.toNat:Nat):Int)) <|
 .chk (qx (((8:Int)) + ((e1.toNat:Nat):Int))) <|
 .ret (((8:Int)) + ((e1.toNat:Nat):Int))) <|
 .bind (zp qiU (IntKind.u8.wrap a0)) fun e1=>
 .chk (qx ((e1.toNat:Nat):Int)) <|
 .chk (qx (((0:Int)) + ((e1.toNat:Nat):Int))) <|
 .ret (((0:Int)) + ((e1.toNat:Nat):Int))
def qea (a0:Int):Option (Int):=(qca a0).run some
def qkL:List (Nat×qM):=[]
def qb6:Ent:=smF ⟨127,[],[.x (.i .u64)],[],[]⟩ [(.i .u64)] (Int) (fun x=>qea x.1) cs1 fun _=>qkG
theorem qjX:zl Tryz.prog (qb6):=
 zo (H:=qkO) (L:=qR (qkL)) (ts:=[(.i .u64)]) (T:=fun x=>qca x.1) 0 qye (qhV 0) (qy (by kernel_rfl) trivial) (rg0 (by kernel_rfl)) fun x=>by kernel_rfl
noncomputable def qAL:Code:=Tryz.f93.body.getD .skip
theorem qAs:FnF Tryz.prog 93 Tryz.f93 qAL:=⟨qo,by kernel_rfl,by kernel_rfl,by kernel_rfl⟩
def qmS:TH:={ live:=[(0,[0]),(1,[2]),(2,[2])] }
def qnC (N:Nat):List Ent:=[qb6]
theorem qkY (N:Nat):qU Tryz.prog (qnC N):=⟨qjX,trivial⟩
def qmY (z:Int):TV×THp:=(xi z,[])
def qef (a0:Int):Tree (Int):=
 .bind (qea a0) fun r1=>
 .ret r1
def YS (a0:Int):Option (Int):=(qef a0).run some
def qnM:List (Nat×qM):=[]
def qed:Ent:=smF ⟨93,[],[.x (.i .u64)],[],[]⟩ [(.i .u64)] (Int) (fun x=>YS x.1) cs1 fun _=>qmY
theorem qms:zl Tryz.prog (qed):=
 zo (H:=qmS) (L:=qR (qnM)) (ts:=[(.i .u64)]) (T:=fun x=>qef x.1) 0 qAs (qkY 0) (qy (by kernel_rfl) trivial) (rg0 (by kernel_rfl)) fun x=>by kernel_rfl
noncomputable def qCa:Code:=Tryz.f57.body.getD .skip
theorem qA5:FnF Tryz.prog 57 Tryz.f57 qCa:=⟨qo,by kernel_rfl,by kernel_rfl,by kernel_rfl⟩
def qoX:TH:={ live:=[(0,[2,3]),(1,[4])] }
def qpx (N:Nat):List Ent:=[XS]
theorem qme (N:Nat):qU Tryz.prog (qpx N):=⟨Kb,trivial⟩
def qo_ (z:Int):TV×THp:=(xi z,[])
def qfw (a0:Vector UInt8 16) (a1:Vector UInt8 16):Tree (Int):=
 .bind (Xq a0.toList a1.toList) fun r1=>
 .ret r1
def qdu (a0:Vector UInt8 16) (a1:Vector UInt8 16):Option (Int):=(qfw a0 a1).run some
def qoV:List (Nat×qM):=[]
def qf5:Ent:=smF ⟨57,[],[.x (.ba 16),.x (.ba 16)],[],[]⟩ [(.ba 16),(.ba 16)] (Int) (fun x=>qdu x.1 x.2.1) cs1 fun _=>qo_
theorem qnr:zl Tryz.prog (qf5):=
 zo (H:=qoX) (L:=qR (qoV)) (ts:=[(.ba 16),(.ba 16)]) (T:=fun x=>qfw x.1 x.2.1) 0 qA5 (qme 0) (qy (by kernel_rfl) trivial) (rg0 (by kernel_rfl)) fun x=>by kernel_rfl
noncomputable def qbA:Code:=Tryz.f118.body.getD .skip
theorem qyF:FnF Tryz.prog 118 Tryz.f118 qbA:=⟨qo,by kernel_rfl,by kernel_rfl,by kernel_rfl⟩
def zZ:TH:={ live:=[(0,[0,1,2,3,8]),(1,[0,1,2,3,8,14]),(2,[0,1,2,3,8]),(3,[0,1,2,3,8,9]),(4,[0,1,2,3,8,9,34]),(5,[0,1,2,3,8,9]),(6,[0,1,2,3,8,9])],dec:=[21] }
def vX (N:Nat):List Ent:=[qf5]
theorem vE (N:Nat):qU Tryz.prog (vX N):=⟨qnr,trivial⟩
abbrev jk:=Nat×Int×Int×Int
abbrev zx:=List (Vector UInt8 16)×Int×Bool
def zN (f:jk) (y:zx):Ex×TSt:=(.exit 2,⟨1,53,[75],[(0,.v 75 f.1),(1,xi f.2.1),(2,xi f.2.2.1),(3,.fn (.func 57) [] []),(8,xi f.2.2.2),(9,xi y.2.1),(34,xb y.2.2)],[(75,.vec false 16 (.sl 16 (.ba 16)) (y.1:List (Vector UInt8 16)))],false,[]⟩)
def WO (N:Nat):List (Nat×qM):=[]
abbrev zO:=List (Vector UInt8 16)×Int
def Zr:SP:=⟨1,53,[75],[(0,.v 75),(1,.x (.i .i64)),(2,.x (.i .i64)),(3,.fn 57 [] []),(8,.x (.i .i64)),(9,.x (.i .i64))],[(75,.vec false 16)],false,[]⟩
def WT (f:jk) (v:zO):TSt:=jq Zr [dv (.sl 16 (.ba 16)) v.1,dv .nat f.1,dv (.i .i64) f.2.1,dv (.i .i64) f.2.2.1,dv (.i .i64) f.2.2.2,dv (.i .i64) v.2]
def zP (N:Nat) (s0_4:Nat) (s1_4:Int) (s2_4:Int) (s8_4:Int) (v:zO):Tree (zO⊕zx):=
 .cond (decide (s1_4 < v.2)) (
 .chk (0≤v.2∧v.2 < ((s0_4:Nat):Int)) <|
 .bind (Yl v.1 s0_4 v.2.toNat) fun e1=>
 .chk (qx (v.2 - 1)) <|
 .chk (0≤(v.2 - 1)∧(v.2 - 1) < ((s0_4:Nat):Int)) <|
 .bind (Yl v.1 s0_4 ((v.2 - 1).toNat)) fun e2=>
 .bind (qdu e1 e2) fun r3=>
 .cond (decide (r3 < ((0:Int)))) (
 .chk (qx (v.2 - 1)) <|
 .chk (qx (v.2 - 1)) <|
 .chk (0≤(v.2 - 1)∧(v.2 - 1) < ((s0_4:Nat):Int)) <|
 .bind (Yl v.1 s0_4 ((v.2 - 1).toNat)) fun e4=>
 .chk (0≤v.2∧v.2 < ((s0_4:Nat):Int)) <|
 .bind (Yl v.1 s0_4 v.2.toNat) fun e5=>
 .chk (0≤v.2∧v.2 < ((s0_4:Nat):Int)) <|
 .chk (qee v.1.length s0_4 v.2.toNat) <|
 .chk (0≤(v.2 - 1)∧(v.2 - 1) < ((s0_4:Nat):Int)) <|
 .chk (qee ((v.1.set v.2.toNat e4).length) s0_4 ((v.2 - 1).toNat)) <|
 .chk (qx (v.2 - 1)) <|
 .ret (.inl ((v.1.set v.2.toNat e4).set ((v.2 - 1).toNat) e5,v.2 - 1))) <|
 .ret (.inr (v.1,v.2,decide (r3 < ((0:Int)))))) <|
 .ret (.inr (v.1,v.2,false))
def ZB (N n:Nat) (f:jk) (v:zO):Option zx:=qY (zP N f.1 f.2.1 f.2.2.1 f.2.2.2) some n v
theorem W3 (N:Nat) (f:jk) (n:Nat) (v:zO) (y:zx) (h:ZB N n f v=some y):LG Tryz.prog zZ 118 (q_ (q_ qbA 1) 4) (WT f v) (zN f y):=
 z9 qo (E:=vX N) (L:=qR (WO N)) (st:=zN f) (g:=some) (R:=zN f) (vE N) (qy (by kernel_rfl) trivial) (rg0 (by kernel_rfl)) (fun v=>by kernel_rfl) (zn (st:=zN f) fun y=>by rfl) n v y h
def Z0 (N:Nat) (s0_4:Nat) (s1_4:Int) (s2_4:Int) (s8_4:Int) (o_4:List (Vector UInt8 16)) (s9_4:Int):Option zx:=ZB N N (s0_4,s1_4,s2_4,s8_4) (o_4,s9_4)
def Zq (N:Nat):qM:=smL Zr [(.sl 16 (.ba 16)),.nat,(.i .i64),(.i .i64),(.i .i64),(.i .i64)] zx (fun x=>Z0 N x.2.1 x.2.2.1 x.2.2.2.1 x.2.2.2.2.1 x.1 x.2.2.2.2.2.1) cs1 fun x=>zN (x.2.1,x.2.2.1,x.2.2.2.1,x.2.2.2.2.1)
theorem X4 (N:Nat):Qt Tryz.prog zZ 118 (q_ (q_ qbA 1) 4) (Zq N):=jv fun x z h=>W3 N (x.2.1,x.2.2.1,x.2.2.2.1,x.2.2.2.2.1) N (x.1,x.2.2.2.2.2.1) z h
abbrev jj:=Nat×Int×Int
abbrev zw:=List (Vector UInt8 16)×Int×Bool
def zM (f:jj) (y:zw):Ex×TSt:=(.exit 0,⟨1,53,[75],[(0,.v 75 f.1),(1,xi f.2.1),(2,xi f.2.2),(3,.fn (.func 57) [] []),(8,xi y.2.1),(14,xb y.2.2)],[(75,.vec false 16 (.sl 16 (.ba 16)) (y.1:List (Vector UInt8 16)))],false,[]⟩)
def WN (N:Nat):List (Nat×qM):=[(4,Zq N)]
abbrev zQ:=List (Vector UInt8 16)×Int
def Zn:SP:=⟨1,53,[75],[(0,.v 75),(1,.x (.i .i64)),(2,.x (.i .i64)),(3,.fn 57 [] []),(8,.x (.i .i64))],[(75,.vec false 16)],false,[]⟩
def WJ (f:jj) (v:zQ):TSt:=jq Zn [dv (.sl 16 (.ba 16)) v.1,dv .nat f.1,dv (.i .i64) f.2.1,dv (.i .i64) f.2.2,dv (.i .i64) v.2]
def zj (N:Nat) (s0_1:Nat) (s1_1:Int) (s2_1:Int) (v:zQ):Tree (zQ⊕zw):=
 .cond (decide (v.2 < s2_1)) (
 .bind (Z0 N s0_1 s1_1 s2_1 v.2 v.1 v.2) fun z1=>
 .chk (qx (v.2 + 1)) <|
 .ret (.inl (z1.1,v.2 + 1))) <|
 .ret (.inr (v.1,v.2,decide (v.2 < s2_1)))
def Zw (N n:Nat) (f:jj) (v:zQ):Option zw:=qY (zj N f.1 f.2.1 f.2.2) some n v
theorem WM (N:Nat) (f:jj) (n:Nat) (v:zQ) (y:zw) (h:Zw N n f v=some y):LG Tryz.prog zZ 118 (q_ qbA 1) (WJ f v) (zM f y):=
 z9 qo (E:=vX N) (L:=qR (WN N)) (st:=zM f) (g:=some) (R:=zM f) (vE N) (qy (by kernel_rfl) ⟨X4 N,trivial⟩) (rg0 (by kernel_rfl)) (fun v=>by kernel_rfl) (zn (st:=zM f) fun y=>by rfl) n v y h
def jt (N:Nat) (s0_1:Nat) (s1_1:Int) (s2_1:Int) (o_1:List (Vector UInt8 16)) (s8_1:Int):Option zw:=Zw N N (s0_1,s1_1,s2_1) (o_1,s8_1)
def Zy (N:Nat):qM:=smL Zn [(.sl 16 (.ba 16)),.nat,(.i .i64),(.i .i64),(.i .i64)] zw (fun x=>jt N x.2.1 x.2.2.1 x.2.2.2.1 x.1 x.2.2.2.2.1) cs1 fun x=>zM (x.2.1,x.2.2.1,x.2.2.2.1)
theorem Wn (N:Nat):Qt Tryz.prog zZ 118 (q_ qbA 1) (Zy N):=jv fun x z h=>WM N (x.2.1,x.2.2.1,x.2.2.2.1) N (x.1,x.2.2.2.2.1) z h
def Ka (z:List (Vector UInt8 16)):TV×THp:=(.tup [],[(75,.vec false 16 (.sl 16 (.ba 16)) z)])
def jy (N:Nat) (a0:List (Vector UInt8 16)) (a1:Int) (a2:Int):Tree (List (Vector UInt8 16)):=
 .chk (qx (a1 + 1)) <|
 .bind (jt N a0.length a1 a2 a0 (a1 + 1)) fun z1=>
 .ret z1.1
def zA (N:Nat) (a0:List (Vector UInt8 16)) (a1:Int) (a2:Int):Option (List (Vector UInt8 16)):=(jy N a0 a1 a2).run some
def Kd (N:Nat):List (Nat×qM):=[(1,Zy N)]
def Ja (N:Nat):Ent:=smF ⟨118,[],[.vs 75,.x (.i .i64),.x (.i .i64),.fn 57 [] []],[],[(75,.vec false 16)]⟩ [(.sl 16 (.ba 16)),(.i .i64),(.i .i64)] (List (Vector UInt8 16)) (fun x=>zA N x.1 x.2.1 x.2.2.1) cs1 fun _=>Ka
theorem Yv (N:Nat):zl Tryz.prog (Ja N):=
 zo (H:=zZ) (L:=qR (Kd N)) (ts:=[(.sl 16 (.ba 16)),(.i .i64),(.i .i64)]) (T:=fun x=>jy N x.1 x.2.1 x.2.2.1) 0 qyF (vE N) (qy (by kernel_rfl) ⟨Wn N,trivial⟩) (rg0 (by kernel_rfl)) fun x=>by kernel_rfl
noncomputable def qlV:Code:=Tryz.f92.body.getD .skip
theorem qCk:FnF Tryz.prog 92 Tryz.f92 qlV:=⟨qo,by kernel_rfl,by kernel_rfl,by kernel_rfl⟩
def ZG:TH:={ live:=[(0,[0,1,2,3,4,10]),(1,[0,1,2,3,4,10,11]),(2,[0,1,2,3,4,10,11,12]),(3,[0,1,2,3,4,10,11,12,25]),(5,[0,1,2,3,4,10,11,12,32]),(7,[0,1,2,3,4,10,11,12,39]),(8,[0,1,2,3,4,10,11,12]),(9,[0,1,2,3,4,10,11,12]),(10,[0,1,2,3,4,10,11,12,13,14]),(11,[0,1,2,3,4,10,11,12,13,14,56]),(12,[0,1,2,3,4,10,11,12,13]),(13,[0,1,2,3,4,10,11,12,13]),(14,[0,1,2,3,4,10,11,12,13,14]),(15,[0,1,2,3,4,10,11,12,13,75]),(16,[0,1,2,3,4,10,11,12,13,80]),(17,[0,1,2,3,4,10,11,12,13,97]),(18,[0,2,3,4,10,11,15]),(19,[0,1,2,3,4,10,11]),(20,[0,1,2,3,4,12,16,17]),(21,[0,1,2,3,4,11,12,16]),(22,[0,1,2,3,4,11,12,16,18,19]),(23,[0,1,2,3,4,11,16,18,19,20]),(24,[0,1,2,3,4,11,16,18,19,20,125]),(25,[0,1,2,3,4,10,11,16]),(26,[0,2,3,4,10,11,16]),(27,[0,1,2,3,4,10,11]),(28,[0,1,2,3,4,10,11,16]),(29,[0,1,3,4,10,11,16]),(30,[0,1,2,3,4,10,11])],dec:=[69,72,83],raw:=[118] }
def Xk (N:Nat):List Ent:=[Ja N]
theorem Vt (N:Nat):qU Tryz.prog (Xk N):=⟨Yv N,trivial⟩
abbrev j_:=List (Vector UInt8 16)×Int×Int×Int
abbrev zT:=List (Vector UInt8 16)
def jn (f:j_) (y:zT):Ex×TSt:=(.ret,⟨1,148,[75],[],[(75,.vec false 16 (.sl 16 (.ba 16)) y)],false,[]⟩)
def qaw (N:Nat):List (Nat×qM):=[]
abbrev jm:=Unit
def J8:SP:=⟨1,148,[75],[(0,.vs 75),(1,.x (.i .i64)),(2,.x (.i .i64)),(3,.x (.i .i64)),(4,.fn 57 [] []),(10,.k (.bc true)),(11,.k (.bc true))],[(75,.vec false 16)],false,[]⟩
def qax (f:j_) (v:jm):TSt:=jq J8 [dv (.sl 16 (.ba 16)) f.1,dv (.i .i64) f.2.1,dv (.i .i64) f.2.2.1,dv (.i .i64) f.2.2.2]
def j9 (N:Nat) (o_2:List (Vector UInt8 16)) (s1_2:Int) (s2_2:Int) (s3_2:Int) (v:jm):Tree (jm⊕zT):=
 .chk (qx (s2_2 - s1_2)) <|
 .cond (decide ((s2_2 - s1_2)≤12)) (
 .bind (jF [(o_2.length,o_2.length)] (zA N o_2 s1_2 s2_2)) fun r1=>
 .ret (.inr r1)) <|
 .cond (decide (s3_2=((0:Int)))) (
 .chk (o_2.length=o_2.length) <|
 .no) <|
 .chk (o_2.length=o_2.length) <|
 .no
def J6 (N n:Nat) (f:j_) (v:jm):Option zT:=qY (j9 N f.1 f.2.1 f.2.2.1 f.2.2.2) some n v
theorem qav (N:Nat) (f:j_) (n:Nat) (v:jm) (y:zT) (h:J6 N n f v=some y):LG Tryz.prog ZG 92 (q_ qlV 2) (qax f v) (jn f y):=
 z9 qo (E:=Xk N) (L:=qR (qaw N)) (st:=jn f) (g:=some) (R:=jn f) (Vt N) (qy (by kernel_rfl) trivial) (rg0 (by kernel_rfl)) (fun v=>by kernel_rfl) (zn (st:=jn f) fun y=>by rfl) n v y h
def Zg (N:Nat) (o_2:List (Vector UInt8 16)) (s1_2:Int) (s2_2:Int) (s3_2:Int):Option zT:=J6 N N (o_2,s1_2,s2_2,s3_2) ()
def J7 (N:Nat):qM:=smL J8 [(.sl 16 (.ba 16)),(.i .i64),(.i .i64),(.i .i64)] zT (fun x=>Zg N x.1 x.2.1 x.2.2.1 x.2.2.2.1) cs1 fun x=>jn (x.1,x.2.1,x.2.2.1,x.2.2.2.1)
theorem KV (N:Nat):Qt Tryz.prog ZG 92 (q_ qlV 2) (J7 N):=jv fun x z h=>qav N (x.1,x.2.1,x.2.2.1,x.2.2.2.1) N () z h
def qbI (z:List (Vector UInt8 16)):TV×THp:=(.tup [],[(75,.vec false 16 (.sl 16 (.ba 16)) z)])
def ZF (N:Nat) (a0:List (Vector UInt8 16)) (a1:Int) (a2:Int) (a3:Int):Tree (List (Vector UInt8 16)):=
 .bind (jF [(a0.length,a0.length)] (Zg N a0 a1 a2 a3)) fun z1=>
 .ret z1
def Qq (N:Nat) (a0:List (Vector UInt8 16)) (a1:Int) (a2:Int) (a3:Int):Option (List (Vector UInt8 16)):=(ZF N a0 a1 a2 a3).run some
def qb3 (N:Nat):List (Nat×qM):=[(2,J7 N)]
def Xj (N:Nat):Ent:=smF ⟨92,[],[.vs 75,.x (.i .i64),.x (.i .i64),.x (.i .i64),.fn 57 [] []],[],[(75,.vec false 16)]⟩ [(.sl 16 (.ba 16)),(.i .i64),(.i .i64),(.i .i64)] (List (Vector UInt8 16)) (fun x=>Qq N x.1 x.2.1 x.2.2.1 x.2.2.2.1) cs1 fun _=>qbI
theorem qbq (N:Nat):zl Tryz.prog (Xj N):=
 zo (H:=ZG) (L:=qR (qb3 N)) (ts:=[(.sl 16 (.ba 16)),(.i .i64),(.i .i64),(.i .i64)]) (T:=fun x=>ZF N x.1 x.2.1 x.2.2.1 x.2.2.2.1) 0 qCk (Vt N) (qy (by kernel_rfl) ⟨KV N,trivial⟩) (rg0 (by kernel_rfl)) fun x=>by kernel_rfl
noncomputable def qB0:Code:=Tryz.f56.body.getD .skip
theorem qBx:FnF Tryz.prog 56 Tryz.f56 qB0:=⟨qo,by kernel_rfl,by kernel_rfl,by kernel_rfl⟩
def qgy:TH:={ live:=[(0,[0,1,4])],raw:=[92] }
def qha (N:Nat):List Ent:=[qed,Xj N]
theorem qfo (N:Nat):qU Tryz.prog (qha N):=⟨qms,qbq N,trivial⟩
def qgz (z:List (Vector UInt8 16)):TV×THp:=(.tup [],[(75,.vec false 16 (.sl 16 (.ba 16)) z)])
def Xe (N:Nat) (a0:List (Vector UInt8 16)):Tree (List (Vector UInt8 16)):=
 let w1:Int:=IntKind.u64.wrap ((a0.length:Nat):Int)
 .bind (YS w1) fun r2=>
 .bind (jF [(a0.length,a0.length)] (Qq N a0 0 ((a0.length:Nat):Int) r2)) fun r3=>
 .ret r3
def Jy (N:Nat) (a0:List (Vector UInt8 16)):Option (List (Vector UInt8 16)):=(Xe N a0).run some
def qgo (N:Nat):List (Nat×qM):=[]
def qap (N:Nat):Ent:=smF ⟨56,[],[.vs 75,.fn 57 [] []],[],[(75,.vec false 16)]⟩ [(.sl 16 (.ba 16))] (List (Vector UInt8 16)) (fun x=>Jy N x.1) cs1 fun _=>qgz
theorem qfV (N:Nat):zl Tryz.prog (qap N):=
 zo (H:=qgy) (L:=qR (qgo N)) (ts:=[(.sl 16 (.ba 16))]) (T:=fun x=>Xe N x.1) 0 qBx (qfo N) (qy (by kernel_rfl) trivial) (rg0 (by kernel_rfl)) fun x=>by kernel_rfl
noncomputable def qdo:Code:=Tryz.f22.body.getD .skip
theorem qBT:FnF Tryz.prog 22 Tryz.f22 qdo:=⟨qo,by kernel_rfl,by kernel_rfl,by kernel_rfl⟩
def YC:TH:={ live:=[(0,[2,3,4]),(1,[2,3,4,22]),(2,[4,5]),(3,[2,3,4,6]),(4,[2,3,4,6,7]),(5,[4,6,7,30,31,32]),(6,[4,6,7,30,31,32,33]),(7,[4,6,7,9,30,31,32]),(8,[4,6,7,9,10,11,30,31,32]),(9,[4,6,7,9,10,30,31,32,44]),(10,[4,6,7,9,30,31,32]),(11,[4,6,7,30,31,32]),(12,[4,6,7,30,31,32]),(13,[4,6,7,30,31,32]),(14,[4,6,7,67]),(15,[4,5]),(16,[4,6,7]),(17,[4,6,7,12]),(18,[4,6,12,71,72,73]),(19,[4,6,12,71,72,73,74]),(20,[4,6,12,14,71,72,73]),(21,[4,6,12,71,72,73]),(22,[4,6,12,71,72,73]),(23,[4,5])],dec:=[18],raw:=[56],nil:=[(0,[⟨.ob 40 [0],43,(.sl 19 qf)⟩]),(2,[⟨.ob 40 [0],43,(.sl 19 qf)⟩]),(4,[⟨.sl 7,75,(.sl 16 (.ba 16))⟩]),(8,[⟨.ob 100 [2],105,(.sl 4 qq)⟩]),(15,[⟨.ob 40 [0],43,(.sl 19 qf)⟩]),(17,[⟨.ob 120 [0],123,(.sl 19 qf)⟩])] }
def qe5 (N:Nat):List Ent:=[qcz N,qaB N,qg_,qnn N,qap N]
theorem qbH (N:Nat):qU Tryz.prog (qe5 N):=⟨qeH N,qgH N,qlc,qu0 N,qfV N,trivial⟩
abbrev WX:=List qa×List qa×Int
abbrev Z4:=List (Vector UInt8 16)×Nat×List (Vector UInt8 16×qa×Nat)×Int×Bool
def VF (f:WX) (y:Z4):Ex×TSt:=(.exit 0,⟨0,87,[],[(4,.p 40 [] 0),(6,.m 240),(7,.v 75 y.1.length),(30,.tv (.sl 19 qf) f.2.1),(31,xi f.2.2),(32,xi y.2.2.2.1),(33,xb y.2.2.2.2)],[(40,.cell false (.ag [.v 43 f.1.length])),(43,.vec false 19 (.sl 19 qf) f.1),(75,.vec false 16 (.sl 16 (.ba 16)) (y.1:List (Vector UInt8 16))),(240,.map y.2.1 (.ba 16) qf (y.2.2.1:List (Vector UInt8 16×qa×Nat)))],false,[]⟩)
def qo2 (N:Nat):List (Nat×qM):=[]
abbrev Vv:=List (Vector UInt8 16)×Nat×List (Vector UInt8 16×qa×Nat)×Int
def qfN:SP:=⟨0,87,[],[(4,.k (.p 40 [] 0)),(6,.k (.m 240)),(7,.vs 75),(30,.x (.sl 19 qf)),(31,.x (.i .i64)),(32,.x (.i .i64))],[(40,.cell false (.ag [.vs 43])),(43,.vec false 19),(75,.vec false 16),(240,.map (.ba 16) qf)],false,[]⟩
def qoT (f:WX) (v:Vv):TSt:=jq qfN [dv (.sl 19 qf) f.1,dv (.sl 16 (.ba 16)) v.1,dv .nat v.2.1,dv (VJ (.ba 16) qf) v.2.2.1,dv (.sl 19 qf) f.2.1,dv (.i .i64) f.2.2,dv (.i .i64) v.2.2.2]
def VE (N:Nat) (o_6:List qa) (s30_6:List qa) (s31_6:Int) (v:Vv):Tree (Vv⊕Z4):=
 .cond (decide (v.2.2.2 < s31_6)) (
 .bind (zp s30_6 v.2.2.2) fun e1=>
 .opt (fnd (β:=qa) (.ba 16) (qa.ID e1) v.2.2.1) (
 .chk (JV v.1.length v.1.length ((v.1++[qa.ID e1]).length) 16) <|
 .bind (Y_ e1) fun r3=>
 .chk (qx (v.2.2.2 + 1)) <|
 .ret (.inl (v.1++[qa.ID e1],(Ql (.ba 16) (qa.ID e1) (qa.mk (qa.ID e1) (qa.qQ e1) ((([]:List qb))++(qa.F e1))) v.2.1 v.2.2.1).1,(Ql (.ba 16) (qa.ID e1) (qa.mk (qa.ID e1) (qa.qQ e1) ((([]:List qb))++(qa.F e1))) v.2.1 v.2.2.1).2,v.2.2.2 + 1))) fun e2=>
 .bind (qgw N e2.1 e1) fun r3=>
 .chk (qx (v.2.2.2 + 1)) <|
 .ret (.inl (v.1,(Ql (.ba 16) (qa.ID e1) r3.1 v.2.1 v.2.2.1).1,(Ql (.ba 16) (qa.ID e1) r3.1 v.2.1 v.2.2.1).2,v.2.2.2 + 1))) <|
 .ret (.inr (v.1,v.2.1,v.2.2.1,v.2.2.2,decide (v.2.2.2 < s31_6)))
def qfR (N n:Nat) (f:WX) (v:Vv):Option Z4:=qY (VE N f.1 f.2.1 f.2.2) some n v
theorem qoM (N:Nat) (f:WX) (n:Nat) (v:Vv) (y:Z4) (h:qfR N n f v=some y):LG Tryz.prog YC 22 (q_ qdo 6) (qoT f v) (VF f y):=
 z9 qo (E:=qe5 N) (L:=qR (qo2 N)) (st:=VF f) (g:=some) (R:=VF f) (qbH N) (qy (by kernel_rfl) trivial) (rg0 (by kernel_rfl)) (fun v=>by kernel_rfl) (zn (st:=VF f) fun y=>by rfl) n v y h
def qde (N:Nat) (o_6:List qa) (s30_6:List qa) (s31_6:Int) (o_6_2:List (Vector UInt8 16)) (o_6_3:Nat) (o_6_4:List (Vector UInt8 16×qa×Nat)) (s32_6:Int):Option Z4:=qfR N N (o_6,s30_6,s31_6) (o_6_2,o_6_3,o_6_4,s32_6)
def qf2 (N:Nat):qM:=smL qfN [(.sl 19 qf),(.sl 16 (.ba 16)),.nat,(VJ (.ba 16) qf),(.sl 19 qf),(.i .i64),(.i .i64)] Z4 (fun x=>qde N x.1 x.2.2.2.2.1 x.2.2.2.2.2.1 x.2.1 x.2.2.1 x.2.2.2.1 x.2.2.2.2.2.2.1) cs1 fun x=>VF (x.1,x.2.2.2.2.1,x.2.2.2.2.2.1)
theorem qoA (N:Nat):Qt Tryz.prog YC 22 (q_ qdo 6) (qf2 N):=jv fun x z h=>qoM N (x.1,x.2.2.2.2.1,x.2.2.2.2.2.1) N (x.2.1,x.2.2.1,x.2.2.2.1,x.2.2.2.2.2.2.1) z h
abbrev XT:=List qa×List (Vector UInt8 16)×Nat×List (Vector UInt8 16×qa×Nat)×Nat×Int
abbrev ZA:=List qa×Int×Bool
def JB (f:XT) (y:ZA):Ex×TSt:=(.exit 2,⟨0,87,[],[(4,.p 40 [] 0),(6,.m 240),(12,.p 120 [] 0),(71,.v 75 f.2.2.2.2.1),(72,xi f.2.2.2.2.2),(73,xi y.2.1),(74,xb y.2.2)],[(40,.cell false (.ag [.v 43 f.1.length])),(43,.vec false 19 (.sl 19 qf) f.1),(75,.vec false 16 (.sl 16 (.ba 16)) f.2.1),(120,.cell false (.ag [.v 123 y.1.length])),(123,.vec false 19 (.sl 19 qf) (y.1:List qa)),(240,.map f.2.2.1 (.ba 16) qf f.2.2.2.1)],false,[]⟩)
def qmT (N:Nat):List (Nat×qM):=[]
abbrev JD:=List qa×Int
def qd9:SP:=⟨0,87,[],[(4,.k (.p 40 [] 0)),(6,.k (.m 240)),(12,.k (.p 120 [] 0)),(71,.v 75),(72,.x (.i .i64)),(73,.x (.i .i64))],[(40,.cell false (.ag [.vs 43])),(43,.vec false 19),(75,.vec false 16),(120,.cell false (.ag [.vs 123])),(123,.vec false 19),(240,.map (.ba 16) qf)],false,[]⟩
def qng (f:XT) (v:JD):TSt:=jq qd9 [dv (.sl 19 qf) f.1,dv (.sl 16 (.ba 16)) f.2.1,dv (.sl 19 qf) v.1,dv .nat f.2.2.1,dv (VJ (.ba 16) qf) f.2.2.2.1,dv .nat f.2.2.2.2.1,dv (.i .i64) f.2.2.2.2.2,dv (.i .i64) v.2]
def XX (N:Nat) (o_19:List qa) (o_19_2:List (Vector UInt8 16)) (o_19_4:Nat) (o_19_5:List (Vector UInt8 16×qa×Nat)) (s71_19:Nat) (s72_19:Int) (v:JD):Tree (JD⊕ZA):=
 .cond (decide (v.2 < s72_19)) (
 .chk (0≤v.2∧v.2 < ((s71_19:Nat):Int)) <|
 .bind (Yl o_19_2 s71_19 v.2.toNat) fun e1=>
 .opt (fnd (β:=qa) (.ba 16) e1 o_19_5) (
 .chk (JV v.1.length v.1.length ((v.1++[qa.mk ((Vector.replicate 16 0)) (qd.mk 0 0) []]).length) 56) <|
 .chk (qx (v.2 + 1)) <|
 .ret (.inl (v.1++[qa.mk ((Vector.replicate 16 0)) (qd.mk 0 0) []],v.2 + 1))) fun e2=>
 .chk (JV v.1.length v.1.length ((v.1++[e2.1]).length) 56) <|
 .chk (qx (v.2 + 1)) <|
 .ret (.inl (v.1++[e2.1],v.2 + 1))) <|
 .ret (.inr (v.1,v.2,decide (v.2 < s72_19)))
def qei (N n:Nat) (f:XT) (v:JD):Option ZA:=qY (XX N f.1 f.2.1 f.2.2.1 f.2.2.2.1 f.2.2.2.2.1 f.2.2.2.2.2) some n v
theorem qn5 (N:Nat) (f:XT) (n:Nat) (v:JD) (y:ZA) (h:qei N n f v=some y):LG Tryz.prog YC 22 (q_ qdo 19) (qng f v) (JB f y):=
 z9 qo (E:=qe5 N) (L:=qR (qmT N)) (st:=JB f) (g:=some) (R:=JB f) (qbH N) (qy (by kernel_rfl) trivial) (rg0 (by kernel_rfl)) (fun v=>by kernel_rfl) (zn (st:=JB f) fun y=>by rfl) n v y h
def qbM (N:Nat) (o_19:List qa) (o_19_2:List (Vector UInt8 16)) (o_19_4:Nat) (o_19_5:List (Vector UInt8 16×qa×Nat)) (s71_19:Nat) (s72_19:Int) (o_19_3:List qa) (s73_19:Int):Option ZA:=qei N N (o_19,o_19_2,o_19_4,o_19_5,s71_19,s72_19) (o_19_3,s73_19)
def qep (N:Nat):qM:=smL qd9 [(.sl 19 qf),(.sl 16 (.ba 16)),(.sl 19 qf),.nat,(VJ (.ba 16) qf),.nat,(.i .i64),(.i .i64)] ZA (fun x=>qbM N x.1 x.2.1 x.2.2.2.1 x.2.2.2.2.1 x.2.2.2.2.2.1 x.2.2.2.2.2.2.1 x.2.2.1 x.2.2.2.2.2.2.2.1) cs1 fun x=>JB (x.1,x.2.1,x.2.2.2.1,x.2.2.2.2.1,x.2.2.2.2.2.1,x.2.2.2.2.2.2.1)
theorem qlK (N:Nat):Qt Tryz.prog YC 22 (q_ qdo 19) (qep N):=jv fun x z h=>qn5 N (x.1,x.2.1,x.2.2.2.1,x.2.2.2.2.1,x.2.2.2.2.2.1,x.2.2.2.2.2.2.1) N (x.2.2.1,x.2.2.2.2.2.2.2.1) z h
def qu7 (z:qe×Int):TV×THp:=(.tup [.tv qL (z.1:qe),xi z.2],[])
def qa7 (N:Nat) (a0:qe) (a1:qe):Tree (qe×Int):=
 .bind (Wy N a0) fun r1=>
 .cond (!r1) (
 .chk (0=0) <|
 .ret (qe.mk [],1)) <|
 .bind (Wy N a1) fun r2=>
 .cond (!r2) (
 .chk (0=0) <|
 .ret (qe.mk [],1)) <|
 .bind (J9 N [qe.R a0,qe.R a1]) fun r3=>
 .bind (jF [(([]:List qa).length,0),(([]:List (Vector UInt8 16)).length,0)] (qde N [] r3 ((r3.length:Nat):Int) [] 0 [] 0)) fun z4=>
 .cond (decide (((10:Int)) < ((z4.1.length:Nat):Int))) (
 .chk (0=0) <|
 .ret (qe.mk [],4)) <|
 .bind (jF [(z4.1.length,z4.1.length)] (Jy N z4.1)) fun r5=>
 .bind (jF [(([]:List qa).length,0),(([]:List qa).length,0)] (qbM N [] r5 z4.2.1 z4.2.2.1 z4.1.length ((z4.1.length:Nat):Int) [] 0)) fun z6=>
 .chk (z6.1.length=z6.1.length) <|
 .ret (qe.mk z6.1,0)
def JM (N:Nat) (a0:qe) (a1:qe):Option (qe×Int):=(qa7 N a0 a1).run some
def quT (N:Nat):List (Nat×qM):=[(6,qf2 N),(19,qep N)]
def qey (N:Nat):Ent:=smF ⟨22,[],[.x qL,.x qL],[],[]⟩ [qL,qL] (qe×Int) (fun x=>JM N x.1 x.2.1) cs1 fun _=>qu7
theorem qiZ (N:Nat):zl Tryz.prog (qey N):=
 zo (H:=YC) (L:=qR (quT N)) (ts:=[qL,qL]) (T:=fun x=>qa7 N x.1 x.2.1) 0 qBT (qbH N) (qy (by kernel_rfl) ⟨qoA N,qlK N,trivial⟩) (rg0 (by kernel_rfl)) fun x=>by kernel_rfl
noncomputable def qma:Code:=Tryz.f13.body.getD .skip
theorem qB9:FnF Tryz.prog 13 Tryz.f13 qma:=⟨qo,by kernel_rfl,by kernel_rfl,by kernel_rfl⟩
def qfe:TH:={ live:=[(0,[2,3,4]),(1,[2,3,4,6]),(2,[2,3,4,6,39]),(3,[4,5]),(4,[2,4,47,48,49]),(5,[2,4,47,48,49,50]),(6,[2,4,8,47,48,49]),(7,[2,4,8,47,48,49,54]),(8,[2,4,9,10,47,48,49]),(9,[2,4,9,10,47,48,49,64]),(10,[4,5]),(11,[2,4,47,48,49]),(12,[2,4,47,48,49]),(13,[4,5])],dec:=[19,23,29,34],nil:=[(0,[⟨.ob 40 [0],43,(.sl 19 qf)⟩]),(3,[⟨.ob 40 [0],43,(.sl 19 qf)⟩]),(10,[⟨.ob 40 [0],43,(.sl 19 qf)⟩])] }
def qlu (N:Nat):List Ent:=[qcz N,qij,qba,qd5 N,qey N]
theorem qhv (N:Nat):qU Tryz.prog (qlu N):=⟨qeH N,qrd,qc_,qgK N,qiZ N,trivial⟩
abbrev W2:=List qa×List qa×Int
abbrev Z7:=(qe×Int×Bool)⊕Int
def VB (f:W2):Z7→Ex×TSt
 | .inl y=>(.exit 0,⟨0,70,[],[(2,.p 20 [] 0),(4,.p 40 [] 0),(47,.tv (.sl 19 qf) f.2.1),(48,xi f.2.2),(49,xi y.2.1),(50,xb y.2.2)],[(20,.cell false (.tv qL (y.1:qe))),(40,.cell false (.ag [.v 43 f.1.length])),(43,.vec false 19 (.sl 19 qf) f.1)],false,[]⟩)
 | .inr y=>(.ret,⟨0,70,[],[(4,.p 40 [] 0),(5,xi y)],[(40,.cell false (.ag [.v 43 0])),(43,.vec false 19 (.sl 19 qf) ([]:List qa))],false,[]⟩)
def qpv (N:Nat):List (Nat×qM):=[]
abbrev Vm:=qe×Int
def qga:SP:=⟨0,70,[],[(2,.k (.p 20 [] 0)),(4,.k (.p 40 [] 0)),(47,.x (.sl 19 qf)),(48,.x (.i .i64)),(49,.x (.i .i64))],[(20,.cell false (.x qL)),(40,.cell false (.ag [.vs 43])),(43,.vec false 19)],false,[]⟩
def qpl (f:W2) (v:Vm):TSt:=jq qga [dv (.sl 19 qf) f.1,dv qL v.1,dv (.sl 19 qf) f.2.1,dv (.i .i64) f.2.2,dv (.i .i64) v.2]
def Vg (N:Nat) (o_5:List qa) (s47_5:List qa) (s48_5:Int) (v:Vm):Tree (Vm⊕Z7):=
 .cond (decide (v.2 < s48_5)) (
 .bind (zp s47_5 v.2) fun e1=>
 .bind (V6 e1) fun r2=>
 .cond r2 (
 .chk (qx (v.2 + 1)) <|
 .ret (.inl (v.1,v.2 + 1))) <|
 .bind (JM N v.1 (qe.mk [e1])) fun r3=>
 .cond (!decide (r3.2=0)) (
 .ret (.inr (.inr r3.2))) <|
 .chk (qx (v.2 + 1)) <|
 .ret (.inl (r3.1,v.2 + 1))) <|
 .ret (.inr (.inl (v.1,v.2,decide (v.2 < s48_5))))
def qfP (N n:Nat) (f:W2) (v:Vm):Option Z7:=qY (Vg N f.1 f.2.1 f.2.2) some n v
theorem qpt (N:Nat) (f:W2) (n:Nat) (v:Vm) (y:Z7) (h:qfP N n f v=some y):LG Tryz.prog qfe 13 (q_ qma 5) (qpl f v) (VB f y):=
 z9 qo (E:=qlu N) (L:=qR (qpv N)) (st:=VB f) (g:=some) (R:=VB f) (qhv N) (qy (by kernel_rfl) trivial) (rg0 (by kernel_rfl)) (fun v=>by kernel_rfl) (zn (st:=VB f) fun y=>by rcases y with _ | _<;>rfl) n v y h
def VA (N:Nat) (o_5:List qa) (s47_5:List qa) (s48_5:Int) (o_5_2:qe) (s49_5:Int):Option Z7:=qfP N N (o_5,s47_5,s48_5) (o_5_2,s49_5)
def qfU (N:Nat):qM:=smL qga [(.sl 19 qf),qL,(.sl 19 qf),(.i .i64),(.i .i64)] Z7 (fun x=>VA N x.1 x.2.2.1 x.2.2.2.1 x.2.1 x.2.2.2.2.1) (csS cs1) fun x=>VB (x.1,x.2.2.1,x.2.2.2.1)
theorem qog (N:Nat):Qt Tryz.prog qfe 13 (q_ qma 5) (qfU N):=jv fun x z h=>qpt N (x.1,x.2.2.1,x.2.2.2.1) N (x.2.1,x.2.2.2.2.1) z h
def qvg (z:qe×Int):TV×THp:=(.tup [.tv qL (z.1:qe),xi z.2],[])
def qeX (N:Nat) (a0:qe) (a1:qa):Tree (qe×Int):=
 .bind (Wy N a0) fun r1=>
 .cond (!r1) (
 .chk (0=0) <|
 .ret (qe.mk [],1)) <|
 .bind (V6 a1) fun r2=>
 .cond r2 (
 .chk (0=0) <|
 .ret (qe.mk [],1)) <|
 .bind (Kj (qa.qQ a1)) fun r3=>
 .cond (!r3) (
 .chk (0=0) <|
 .ret (qe.mk [],1)) <|
 .cond (decide (((0:Int)) < (((qa.F a1).length:Nat):Int))) (
 .bind (qaM N (qa.mk (qa.ID a1) (qd.mk 0 0) (qa.F a1))) fun r4=>
 .cond (!r4) (
 .chk (0=0) <|
 .ret (qe.mk [],1)) <|
 .bind (jF [(([]:List qa).length,0)] (VA N [] [qa.mk (qa.ID a1) (qa.qQ a1) [],qa.mk (qa.ID a1) (qd.mk 0 0) (qa.F a1)] (((([qa.mk (qa.ID a1) (qa.qQ a1) [],qa.mk (qa.ID a1) (qd.mk 0 0) (qa.F a1)]:List qa)).length:Nat):Int) a0 0)) fun z5=>
 .sum z5 (fun z6=>
 .ret (z6.1,0)) fun z6=>
 .chk (0=0) <|
 .ret (qe.mk [],z6)) <|
 .bind (jF [(([]:List qa).length,0)] (VA N [] [qa.mk (qa.ID a1) (qa.qQ a1) [],qa.mk (qa.ID a1) (qd.mk 0 0) (qa.F a1)] (((([qa.mk (qa.ID a1) (qa.qQ a1) [],qa.mk (qa.ID a1) (qd.mk 0 0) (qa.F a1)]:List qa)).length:Nat):Int) a0 0)) fun z4=>
 .sum z4 (fun z5=>
 .ret (z5.1,0)) fun z5=>
 .chk (0=0) <|
 .ret (qe.mk [],z5)
def qbC (N:Nat) (a0:qe) (a1:qa):Option (qe×Int):=(qeX N a0 a1).run some
def quy (N:Nat):List (Nat×qM):=[(5,qfU N)]
def qlf (N:Nat):Ent:=smF ⟨13,[],[.x qL,.x qf],[],[]⟩ [qL,qf] (qe×Int) (fun x=>qbC N x.1 x.2.1) cs1 fun _=>qvg
theorem qsV (N:Nat):zl Tryz.prog (qlf N):=
 zo (H:=qfe) (L:=qR (quy N)) (ts:=[qL,qf]) (T:=fun x=>qeX N x.1 x.2.1) 0 qB9 (qhv N) (qy (by kernel_rfl) ⟨qog N,trivial⟩) (rg0 (by kernel_rfl)) fun x=>by kernel_rfl
noncomputable def qmB:Code:=Tryz.f95.body.getD .skip
theorem qBJ:FnF Tryz.prog 95 Tryz.f95 qmB:=⟨qo,by kernel_rfl,by kernel_rfl,by kernel_rfl⟩
def VL:TH:={ live:=[(0,[0,1]),(1,[0,1,10]),(2,[4]),(3,[0,1,12,13]),(4,[0,1,12,13,14]),(5,[0,1,5,12,13]),(6,[0,1,12,13,24]),(7,[4]),(8,[0,1,12,13]),(9,[4])] }
def K6 (N:Nat):List Ent:=[]
theorem YE (N:Nat):qU Tryz.prog (K6 N):=trivial
abbrev QS:=List qb×List qb×Int
abbrev jw:=Unit⊕(Int×Bool)
def vw (f:QS):jw→Ex×TSt
 | .inl y=>(.ret,⟨0,26,[],[(4,.bc false)],[],false,[]⟩)
 | .inr y=>(.exit 0,⟨0,26,[],[(0,.tv (.sl 4 qq) f.1),(1,.tv (.sl 4 qq) f.2.1),(12,xi f.2.2),(13,xi y.1),(14,xb y.2)],[],false,[]⟩)
def qdI (N:Nat):List (Nat×qM):=[]
abbrev vv:=Int
def W_:SP:=⟨0,26,[],[(0,.x (.sl 4 qq)),(1,.x (.sl 4 qq)),(12,.x (.i .i64)),(13,.x (.i .i64))],[],false,[]⟩
def qdJ (f:QS) (v:vv):TSt:=jq W_ [dv (.sl 4 qq) f.1,dv (.sl 4 qq) f.2.1,dv (.i .i64) f.2.2,dv (.i .i64) v]
def QM (N:Nat) (s0_4:List qb) (s1_4:List qb) (s12_4:Int) (v:vv):Tree (vv⊕jw):=
 .cond (decide (v < s12_4)) (
 .bind (zp s0_4 v) fun e1=>
 .bind (zp s1_4 v) fun e2=>
 .cond (!(eqE qq e1 e2)) (
 .ret (.inr (.inl ()))) <|
 .chk (qx (v + 1)) <|
 .ret (.inl (v + 1))) <|
 .ret (.inr (.inr ((v,decide (v < s12_4)))))
def Yh (N n:Nat) (f:QS) (v:vv):Option jw:=qY (QM N f.1 f.2.1 f.2.2) some n v
theorem qdG (N:Nat) (f:QS) (n:Nat) (v:vv) (y:jw) (h:Yh N n f v=some y):LG Tryz.prog VL 95 (q_ qmB 4) (qdJ f v) (vw f y):=
 z9 qo (E:=K6 N) (L:=qR (qdI N)) (st:=vw f) (g:=some) (R:=vw f) (YE N) (qy (by kernel_rfl) trivial) (rg0 (by kernel_rfl)) (fun v=>by kernel_rfl) (zn (st:=vw f) fun y=>by rcases y with _ | _<;>rfl) n v y h
def Kk (N:Nat) (s0_4:List qb) (s1_4:List qb) (s12_4:Int) (s13_4:Int):Option jw:=Yh N N (s0_4,s1_4,s12_4) s13_4
def Ya (N:Nat):qM:=smL W_ [(.sl 4 qq),(.sl 4 qq),(.i .i64),(.i .i64)] jw (fun x=>Kk N x.1 x.2.1 x.2.2.1 x.2.2.2.1) (csS cs1) fun x=>vw (x.1,x.2.1,x.2.2.1)
theorem qdi (N:Nat):Qt Tryz.prog VL 95 (q_ qmB 4) (Ya N):=jv fun x z h=>qdG N (x.1,x.2.1,x.2.2.1) N x.2.2.2.1 z h
def qhk (z:Bool):TV×THp:=(xb z,[])
def VS (N:Nat) (a0:List qb) (a1:List qb):Tree (Bool):=
 .cond (!decide (((a0.length:Nat):Int)=((a1.length:Nat):Int))) (
 .ret false) <|
 .bind (Kk N a0 a1 ((a0.length:Nat):Int) 0) fun z1=>
 .sum z1 (fun z2=>
 .ret false) fun z2=>
 .ret true
def JI (N:Nat) (a0:List qb) (a1:List qb):Option (Bool):=(VS N a0 a1).run some
def qg9 (N:Nat):List (Nat×qM):=[(4,Ya N)]
def qaj (N:Nat):Ent:=smF ⟨95,[],[.x (.sl 4 qq),.x (.sl 4 qq)],[],[]⟩ [(.sl 4 qq),(.sl 4 qq)] (Bool) (fun x=>JI N x.1 x.2.1) cs1 fun _=>qhk
theorem qfB (N:Nat):zl Tryz.prog (qaj N):=
 zo (H:=VL) (L:=qR (qg9 N)) (ts:=[(.sl 4 qq),(.sl 4 qq)]) (T:=fun x=>VS N x.1 x.2.1) 0 qBJ (YE N) (qy (by kernel_rfl) ⟨qdi N,trivial⟩) (rg0 (by kernel_rfl)) fun x=>by kernel_rfl
noncomputable def qCq:Code:=Tryz.f59.body.getD .skip
theorem qAH:FnF Tryz.prog 59 Tryz.f59 qCq:=⟨qo,by kernel_rfl,by kernel_rfl,by kernel_rfl⟩
def qw9:TH:={ live:=[(0,[2,3]),(1,[4])],dec:=[10,17] }
def qwE (N:Nat):List Ent:=[qaj N]
theorem qtG (N:Nat):qU Tryz.prog (qwE N):=⟨qfB N,trivial⟩
def qw3 (z:Bool):TV×THp:=(xb z,[])
def qgJ (N:Nat) (a0:qa) (a1:qa):Tree (Bool):=
 .cond (eqE (.ba 16) (qa.ID a0) (qa.ID a1)) (
 .cond (eqE ql (qa.qQ a0) (qa.qQ a1)) (
 .bind (JI N (qa.F a0) (qa.F a1)) fun r1=>
 .ret r1) <|
 .ret false) <|
 .ret false
def qg2 (N:Nat) (a0:qa) (a1:qa):Option (Bool):=(qgJ N a0 a1).run some
def qwx (N:Nat):List (Nat×qM):=[]
def qnZ (N:Nat):Ent:=smF ⟨59,[],[.x qf,.x qf],[],[]⟩ [qf,qf] (Bool) (fun x=>qg2 N x.1 x.2.1) cs1 fun _=>qw3
theorem quZ (N:Nat):zl Tryz.prog (qnZ N):=
 zo (H:=qw9) (L:=qR (qwx N)) (ts:=[qf,qf]) (T:=fun x=>qgJ N x.1 x.2.1) 0 qAH (qtG N) (qy (by kernel_rfl) trivial) (rg0 (by kernel_rfl)) fun x=>by kernel_rfl
noncomputable def qmk:Code:=Tryz.f58.body.getD .skip
theorem qBd:FnF Tryz.prog 58 Tryz.f58 qmk:=⟨qo,by kernel_rfl,by kernel_rfl,by kernel_rfl⟩
def JZ:TH:={ live:=[(0,[0,1,2]),(1,[0,1,2,14]),(2,[6]),(3,[1,2,15,16,17]),(4,[1,2,15,16,17,18]),(5,[1,2,7,8,15,16,17]),(6,[1,2,8,9,15,16,17]),(7,[1,2,15,16,17,30]),(8,[6]),(9,[1,2,15,16,17]),(10,[6])] }
def Yq (N:Nat):List Ent:=[qnZ N]
theorem Wd (N:Nat):qU Tryz.prog (Yq N):=⟨quZ N,trivial⟩
abbrev Qf:=List qa×List qa×Int
abbrev jh:=Unit⊕(Int×Bool)
def jU (f:Qf):jh→Ex×TSt
 | .inl y=>(.ret,⟨0,32,[],[(6,.bc false)],[],false,[]⟩)
 | .inr y=>(.exit 0,⟨0,32,[],[(1,.tv (.sl 19 qf) f.1),(2,.fn (.func 59) [] []),(15,.tv (.sl 19 qf) f.2.1),(16,xi f.2.2),(17,xi y.1),(18,xb y.2)],[],false,[]⟩)
def qch (N:Nat):List (Nat×qM):=[]
abbrev jS:=Int
def XU:SP:=⟨0,32,[],[(1,.x (.sl 19 qf)),(2,.fn 59 [] []),(15,.x (.sl 19 qf)),(16,.x (.i .i64)),(17,.x (.i .i64))],[],false,[]⟩
def qco (f:Qf) (v:jS):TSt:=jq XU [dv (.sl 19 qf) f.1,dv (.sl 19 qf) f.2.1,dv (.i .i64) f.2.2,dv (.i .i64) v]
def Qk (N:Nat) (s1_4:List qa) (s15_4:List qa) (s16_4:Int) (v:jS):Tree (jS⊕jh):=
 .cond (decide (v < s16_4)) (
 .bind (zp s15_4 v) fun e1=>
 .bind (zp s1_4 v) fun e2=>
 .bind (qg2 N e1 e2) fun r3=>
 .cond (!r3) (
 .ret (.inr (.inl ()))) <|
 .chk (qx (v + 1)) <|
 .ret (.inl (v + 1))) <|
 .ret (.inr (.inr ((v,decide (v < s16_4)))))
def XN (N n:Nat) (f:Qf) (v:jS):Option jh:=qY (Qk N f.1 f.2.1 f.2.2) some n v
theorem qcA (N:Nat) (f:Qf) (n:Nat) (v:jS) (y:jh) (h:XN N n f v=some y):LG Tryz.prog JZ 58 (q_ qmk 4) (qco f v) (jU f y):=
 z9 qo (E:=Yq N) (L:=qR (qch N)) (st:=jU f) (g:=some) (R:=jU f) (Wd N) (qy (by kernel_rfl) trivial) (rg0 (by kernel_rfl)) (fun v=>by kernel_rfl) (zn (st:=jU f) fun y=>by rcases y with _ | _<;>rfl) n v y h
def Yb (N:Nat) (s1_4:List qa) (s15_4:List qa) (s16_4:Int) (s17_4:Int):Option jh:=XN N N (s1_4,s15_4,s16_4) s17_4
def XY (N:Nat):qM:=smL XU [(.sl 19 qf),(.sl 19 qf),(.i .i64),(.i .i64)] jh (fun x=>Yb N x.1 x.2.1 x.2.2.1 x.2.2.2.1) (csS cs1) fun x=>jU (x.1,x.2.1,x.2.2.1)
theorem qb0 (N:Nat):Qt Tryz.prog JZ 58 (q_ qmk 4) (XY N):=jv fun x z h=>qcA N (x.1,x.2.1,x.2.2.1) N x.2.2.2.1 z h
def qeL (z:Bool):TV×THp:=(xb z,[])
def J1 (N:Nat) (a0:List qa) (a1:List qa):Tree (Bool):=
 .cond (!decide (((a0.length:Nat):Int)=((a1.length:Nat):Int))) (
 .ret false) <|
 .bind (Yb N a1 a0 ((a0.length:Nat):Int) 0) fun z1=>
 .sum z1 (fun z2=>
 .ret false) fun z2=>
 .ret true
def ZX (N:Nat) (a0:List qa) (a1:List qa):Option (Bool):=(J1 N a0 a1).run some
def qew (N:Nat):List (Nat×qM):=[(4,XY N)]
def Yw (N:Nat):Ent:=smF ⟨58,[],[.x (.sl 19 qf),.x (.sl 19 qf),.fn 59 [] []],[],[]⟩ [(.sl 19 qf),(.sl 19 qf)] (Bool) (fun x=>ZX N x.1 x.2.1) cs1 fun _=>qeL
theorem qdM (N:Nat):zl Tryz.prog (Yw N):=
 zo (H:=JZ) (L:=qR (qew N)) (ts:=[(.sl 19 qf),(.sl 19 qf)]) (T:=fun x=>J1 N x.1 x.2.1) 0 qBd (Wd N) (qy (by kernel_rfl) ⟨qb0 N,trivial⟩) (rg0 (by kernel_rfl)) fun x=>by kernel_rfl
noncomputable def qA4:Code:=Tryz.f24.body.getD .skip
theorem qBV:FnF Tryz.prog 24 Tryz.f24 qA4:=⟨qo,by kernel_rfl,by kernel_rfl,by kernel_rfl⟩
def quF:TH:={ live:=[(0,[2,3]),(1,[4])] }
def quB (N:Nat):List Ent:=[Yw N]
theorem qqR (N:Nat):qU Tryz.prog (quB N):=⟨qdM N,trivial⟩
def qu6 (z:Bool):TV×THp:=(xb z,[])
def qe0 (N:Nat) (a0:qe) (a1:qe):Tree (Bool):=
 .bind (ZX N (qe.R a0) (qe.R a1)) fun r1=>
 .ret r1
def qbg (N:Nat) (a0:qe) (a1:qe):Option (Bool):=(qe0 N a0 a1).run some
def quK (N:Nat):List (Nat×qM):=[]
def qfi (N:Nat):Ent:=smF ⟨24,[],[.x qL,.x qL],[],[]⟩ [qL,qL] (Bool) (fun x=>qbg N x.1 x.2.1) cs1 fun _=>qu6
theorem qjV (N:Nat):zl Tryz.prog (qfi N):=
 zo (H:=quF) (L:=qR (quK N)) (ts:=[qL,qL]) (T:=fun x=>qe0 N x.1 x.2.1) 0 qBV (qqR N) (qy (by kernel_rfl) trivial) (rg0 (by kernel_rfl)) fun x=>by kernel_rfl
noncomputable def qBA:Code:=Tryz.f29.body.getD .skip
theorem qBs:FnF Tryz.prog 29 Tryz.f29 qBA:=⟨qo,by kernel_rfl,by kernel_rfl,by kernel_rfl⟩
def qx6:TH:={ live:=[(0,[2,3]),(1,[3,5,6]),(2,[4])],dec:=[15] }
def qwG (N:Nat):List Ent:=[qey N,qfi N]
theorem qr7 (N:Nat):qU Tryz.prog (qwG N):=⟨qiZ N,qjV N,trivial⟩
def qxT (z:Bool):TV×THp:=(xb z,[])
def qhs (N:Nat) (a0:qe) (a1:qe):Tree (Bool):=
 .bind (JM N a0 a1) fun r1=>
 .cond (decide (r1.2=0)) (
 .bind (qbg N r1.1 a1) fun r2=>
 .ret r2) <|
 .ret false
def qhr (N:Nat) (a0:qe) (a1:qe):Option (Bool):=(qhs N a0 a1).run some
def qxl (N:Nat):List (Nat×qM):=[]
def qmZ (N:Nat):Ent:=smF ⟨29,[],[.x qL,.x qL],[],[]⟩ [qL,qL] (Bool) (fun x=>qhr N x.1 x.2.1) cs1 fun _=>qxT
theorem qvc (N:Nat):zl Tryz.prog (qmZ N):=
 zo (H:=qx6) (L:=qR (qxl N)) (ts:=[qL,qL]) (T:=fun x=>qhs N x.1 x.2.1) 0 qBs (qr7 N) (qy (by kernel_rfl) trivial) (rg0 (by kernel_rfl)) fun x=>by kernel_rfl
noncomputable def qAh:Code:=Tryz.f69.body.getD .skip
theorem qBr:FnF Tryz.prog 69 Tryz.f69 qAh:=⟨qo,by kernel_rfl,by kernel_rfl,by kernel_rfl⟩
def qqN:TH:={ live:=[(0,[1,2]),(1,[3])] }
def qqL (N:Nat):List Ent:=[]
theorem qnR (N:Nat):qU Tryz.prog (qqL N):=trivial
def qqC (a0:Vector UInt8 16) (a1:qa) (z:Unit):TV×THp:=(xb (eqE (.ba 16) (qa.ID a1) a0),[(30,.cell false (.tv (.ba 16) a0))])
def qbN (a0:Vector UInt8 16) (a1:qa):Tree (Unit):=
 .ret ()
def qeN (a0:Vector UInt8 16) (a1:qa):Option (Unit):=(qbN a0 a1).run some
def qqX:List (Nat×qM):=[]
def qhO:Ent:=smF ⟨69,[],[.x qf],[.k (.p 30 [] 0)],[(30,.cell false (.x (.ba 16)))]⟩ [(.ba 16),qf] (Unit) (fun x=>qeN x.1 x.2.1) cs1 fun x=>qqC x.1 x.2.1
theorem qph:zl Tryz.prog (qhO):=
 zo (H:=qqN) (L:=qR (qqX)) (ts:=[(.ba 16),qf]) (T:=fun x=>qbN x.1 x.2.1) 0 qBr (qnR 0) (qy (by kernel_rfl) trivial) (rg0 (by kernel_rfl)) fun x=>by kernel_rfl
noncomputable def qlG:Code:=Tryz.f68.body.getD .skip
theorem qAw:FnF Tryz.prog 68 Tryz.f68 qlG:=⟨qo,by kernel_rfl,by kernel_rfl,by kernel_rfl⟩
def JR:TH:={ live:=[(0,[0,1]),(1,[0,1,7,8]),(2,[0,1,7,8,9]),(3,[0,1,5,7,8]),(4,[0,1,5,7,8,16]),(5,[4]),(6,[0,1,7,8]),(7,[4])] }
def Yp (N:Nat):List Ent:=[qhO]
theorem Wz (N:Nat):qU Tryz.prog (Yp N):=⟨qph,trivial⟩
abbrev Qg:=Vector UInt8 16×List qa×Int
abbrev jl:=Int⊕(Int×Bool)
def jV (f:Qg):jl→Ex×TSt
 | .inl y=>(.ret,⟨1,19,[30],[(4,xi y)],[(30,.cell false (.tv (.ba 16) f.1))],false,[]⟩)
 | .inr y=>(.exit 0,⟨1,19,[30],[(0,.tv (.sl 19 qf) f.2.1),(1,.fn (.func 69) [] [.p 30 [] 0]),(7,xi f.2.2),(8,xi y.1),(9,xb y.2)],[(30,.cell false (.tv (.ba 16) f.1))],false,[]⟩)
def qcs (N:Nat):List (Nat×qM):=[]
abbrev jT:=Int
def XR:SP:=⟨1,19,[30],[(0,.x (.sl 19 qf)),(1,.fn 69 [] [.k (.p 30 [] 0)]),(7,.x (.i .i64)),(8,.x (.i .i64))],[(30,.cell false (.x (.ba 16)))],false,[]⟩
def qcC (f:Qg) (v:jT):TSt:=jq XR [dv (.ba 16) f.1,dv (.sl 19 qf) f.2.1,dv (.i .i64) f.2.2,dv (.i .i64) v]
def jW (N:Nat) (o_2:Vector UInt8 16) (s0_2:List qa) (s7_2:Int) (v:jT):Tree (jT⊕jl):=
 .cond (decide (v < s7_2)) (
 .bind (zp s0_2 v) fun e1=>
 .bind (qeN o_2 e1) fun r2=>
 .cond (eqE (.ba 16) (qa.ID e1) o_2) (
 .ret (.inr (.inl v))) <|
 .chk (qx (v + 1)) <|
 .ret (.inl (v + 1))) <|
 .ret (.inr (.inr ((v,decide (v < s7_2)))))
def XW (N n:Nat) (f:Qg) (v:jT):Option jl:=qY (jW N f.1 f.2.1 f.2.2) some n v
theorem qcr (N:Nat) (f:Qg) (n:Nat) (v:jT) (y:jl) (h:XW N n f v=some y):LG Tryz.prog JR 68 (q_ qlG 2) (qcC f v) (jV f y):=
 z9 qo (E:=Yp N) (L:=qR (qcs N)) (st:=jV f) (g:=some) (R:=jV f) (Wz N) (qy (by kernel_rfl) trivial) (rg0 (by kernel_rfl)) (fun v=>by kernel_rfl) (zn (st:=jV f) fun y=>by rcases y with _ | _<;>rfl) n v y h
def Jm (N:Nat) (o_2:Vector UInt8 16) (s0_2:List qa) (s7_2:Int) (s8_2:Int):Option jl:=XW N N (o_2,s0_2,s7_2) s8_2
def XV (N:Nat):qM:=smL XR [(.ba 16),(.sl 19 qf),(.i .i64),(.i .i64)] jl (fun x=>Jm N x.1 x.2.1 x.2.2.1 x.2.2.2.1) (csS cs1) fun x=>jV (x.1,x.2.1,x.2.2.1)
theorem qbJ (N:Nat):Qt Tryz.prog JR 68 (q_ qlG 2) (XV N):=jv fun x z h=>qcr N (x.1,x.2.1,x.2.2.1) N x.2.2.2.1 z h
def qfn (a0:Vector UInt8 16) (z:Int):TV×THp:=(xi z,[(30,.cell false (.tv (.ba 16) a0))])
def J5 (N:Nat) (a0:Vector UInt8 16) (a1:List qa):Tree (Int):=
 .bind (Jm N a0 a1 ((a1.length:Nat):Int) 0) fun z1=>
 .sum z1 (fun z2=>
 .ret z2) fun z2=>
 .ret (-1)
def ZT (N:Nat) (a0:Vector UInt8 16) (a1:List qa):Option (Int):=(J5 N a0 a1).run some
def qfh (N:Nat):List (Nat×qM):=[(2,XV N)]
def YL (N:Nat):Ent:=smF ⟨68,[],[.x (.sl 19 qf),.fn 69 [] [.k (.p 30 [] 0)]],[],[(30,.cell false (.x (.ba 16)))]⟩ [(.ba 16),(.sl 19 qf)] (Int) (fun x=>ZT N x.1 x.2.1) cs1 fun x=>qfn x.1
theorem qdH (N:Nat):zl Tryz.prog (YL N):=
 zo (H:=JR) (L:=qR (qfh N)) (ts:=[(.ba 16),(.sl 19 qf)]) (T:=fun x=>J5 N x.1 x.2.1) 0 qAw (Wz N) (qy (by kernel_rfl) ⟨qbJ N,trivial⟩) (rg0 (by kernel_rfl)) fun x=>by kernel_rfl
noncomputable def qAb:Code:=Tryz.f30.body.getD .skip
theorem qBK:FnF Tryz.prog 30 Tryz.f30 qAb:=⟨qo,by kernel_rfl,by kernel_rfl,by kernel_rfl⟩
def qvj:TH:={ live:=[(0,[2,3,4]),(1,[2,4,6]),(2,[2,4,6,12]),(3,[4,5]),(4,[4,5])],nil:=[(0,[⟨.ob 40 [2],45,(.sl 4 qq)⟩]),(3,[⟨.ob 40 [2],45,(.sl 4 qq)⟩])] }
def quQ (N:Nat):List Ent:=[YL N,qg_]
theorem qqI (N:Nat):qU Tryz.prog (quQ N):=⟨qdH N,qlc,trivial⟩
def quv (z:qa×Bool):TV×THp:=(.tup [.tv qf (z.1:qa),xb z.2],[])
def qeC (N:Nat) (a0:qe) (a1:Vector UInt8 16):Tree (qa×Bool):=
 .bind (ZT N a1 (qe.R a0)) fun r1=>
 .cond (decide (r1 < ((0:Int)))) (
 .chk (0=0) <|
 .ret (qa.mk ((Vector.replicate 16 0)) (qd.mk 0 0) [],false)) <|
 .bind (zp (qe.R a0) r1) fun e2=>
 .bind (Y_ e2) fun r3=>
 .ret (qa.mk (qa.ID e2) (qa.qQ e2) ((([]:List qb))++(qa.F e2)),true)
def qec (N:Nat) (a0:qe) (a1:Vector UInt8 16):Option (qa×Bool):=(qeC N a0 a1).run some
def qum (N:Nat):List (Nat×qM):=[]
def qlq (N:Nat):Ent:=smF ⟨30,[],[.x qL,.x (.ba 16)],[],[]⟩ [qL,(.ba 16)] (qa×Bool) (fun x=>qec N x.1 x.2.1) cs1 fun _=>quv
theorem qsu (N:Nat):zl Tryz.prog (qlq N):=
 zo (H:=qvj) (L:=qR (qum N)) (ts:=[qL,(.ba 16)]) (T:=fun x=>qeC N x.1 x.2.1) 0 qBK (qqI N) (qy (by kernel_rfl) trivial) (rg0 (by kernel_rfl)) fun x=>by kernel_rfl
noncomputable def qvZ:Code:=Tryz.f7.body.getD .skip
theorem qDK:FnF Tryz.prog 7 Tryz.f7 qvZ:=⟨qo,by kernel_rfl,by kernel_rfl,by kernel_rfl⟩
def qdA:TH:={ live:=[(0,[2,3]),(1,[2,3,5]),(2,[2,3,5,6]),(3,[2,3,5,6,7]),(4,[2,3,5,6,7,8,9]),(5,[2,3,5,8,9,34]),(6,[4]),(7,[2,3,8,37]),(8,[4]),(9,[2,3,8,10,11]),(10,[2,3,8,66]),(11,[4]),(12,[2,8,13]),(13,[4])],dec:=[27,31,50,56,61,75] }
def qdy (N:Nat):List Ent:=[qv4,qbB N,X9 N,qlf N,qfi N,qcz N,qmZ N,qlq N]
theorem qbU (N:Nat):qU Tryz.prog (qdy N):=⟨qCm,qib N,qay N,qsV N,qjV N,qeH N,qvc N,qsu N,trivial⟩
def qcR (z:Bool):TV×THp:=(xb z,[])
def Jg (N:Nat) (a0:qe) (a1:qa):Tree (Bool):=
 .bind (qxb) fun r1=>
 .bind (VN N a0) fun r2=>
 .bind (vg N a1) fun r3=>
 .bind (qbC N a0 a1) fun r4=>
 .cond (!r1) (
 .ret r1) <|
 .cond (!r2) (
 .ret r1) <|
 .cond (!r3) (
 .ret r1) <|
 .cond (!decide (r4.2=0)) (
 .ret (decide ((((qe.R r4.1).length:Nat):Int)=((0:Int))))) <|
 .bind (qbC N r4.1 a1) fun r5=>
 .cond (!decide (r5.2=0)) (
 .ret false) <|
 .bind (qbg N r4.1 r5.1) fun r6=>
 .cond (!r6) (
 .ret false) <|
 .bind (Wy N r4.1) fun r7=>
 .cond (!r7) (
 .ret false) <|
 .bind (qhr N a0 r4.1) fun r8=>
 .cond (!r8) (
 .ret false) <|
 .bind (qec N r4.1 (qa.ID a1)) fun r9=>
 .cond r9.2 (
 .chk (qx ((((qe.R a0).length:Nat):Int) + 1)) <|
 .ret (decide ((((qe.R r4.1).length:Nat):Int)≤((((qe.R a0).length:Nat):Int) + 1)))) <|
 .ret false
def jI (N:Nat) (a0:qe) (a1:qa):Option (Bool):=(Jg N a0 a1).run some
def qc5 (N:Nat):List (Nat×qM):=[]
theorem qbQ (N:Nat):qcv Tryz.prog ⟨7,[],[.x qL,.x qf],[],[]⟩ [qL,qf] (fun x=>Jg N x.1 x.2.1) (fun _=>qcR):=
 qal (H:=qdA) (L:=qR (qc5 N)) 0 qDK (qbU N) (qy (by kernel_rfl) trivial) (rg0 (by kernel_rfl)) fun x=>by kernel_rfl
end Go.Rx
end
set_option maxRecDepth 100000
noncomputable section
namespace Go.Rx
open Go.Proofs
abbrev Jq (q:Nat→Bool) (n:Nat):Bool:=qua q n 0
theorem qc9 {q:Nat→Bool} {n:Nat}:Jq q n=true↔∀ j,j < n→q j=true:=by
 unfold Jq; rw [qr_]
 exact ⟨fun h j hj=>h j (Nat.zero_le _) (by omega),fun h j _ hj=>h j (by omega)⟩
theorem qyP {p q:Nat→Bool} {n:Nat} (h:ZM p n 0=none) (hq:∀ j,j < n→p j=!q j):Jq q n=true:=
 qc9.2 fun j hj=>by
  have:=qlx h j (Nat.zero_le _) (by omega)
  rw [hq j hj] at this; simpa using this
theorem qyW {p q:Nat→Bool} {n i:Nat} (h:ZM p n 0=some i) (hq:∀ j,j < n→p j=!q j):Jq q n=false:=by
 obtain ⟨h1,_,h2,_⟩:=qfp h
 cases e:Jq q n with
 | false=>rfl
 | true=>
  have:=qc9.1 e i (by omega)
  rw [hq i (by omega),this] at h1; simp at h1
theorem Kh {α Y : Type} {B : Int → Tree (Int ⊕ (α ⊕ (Int × Bool)))} {g : α ⊕ (Int × Bool) → Option Y} {q : Nat → Bool} {n : Nat} {hit : α}
    (h1:∀ k,k < n→(B (k:Int)).run some=some (if q k then .inl ((k + 1:Nat):Int) else .inr (.inl hit))) (h2:(B (n:Int)).run some=some (.inr (.inr (((n:Nat):Int),false)))) {N:Nat} (hN:n < N) :
    qY B g N ((0:Nat):Int)=g (if Jq q n then .inr (((n:Nat):Int),false) else .inl hit):=by
 rw [qjB (p:=fun k=>!q k) (hit:=fun _=>.inl hit) (fin:=.inr (((n:Nat):Int),false)) (n:=n) (fun k hk=>by rw [h1 k hk]; cases q k<;>rfl) h2 N 0 (Nat.zero_le _) (by omega),Nat.sub_zero]
 cases e:ZM (fun k=>!q k) n 0 with
 | none=>rw [qyP e fun _ _=>rfl]; rfl
 | some i=>rw [qyW e fun _ _=>rfl]; rfl
class Jn (N:Nat):Prop where
 h:100000≤N
theorem Jn.of {N:Nat} (h:100000≤N):Jn N:=⟨h⟩
theorem big (N:Nat) [Jn N]:100000≤N:=Jn.h
abbrev zSt:qd:=((0:Int),(0:Int))
theorem qAz {c n:Nat}:decide (((c:Nat):Int) < ((n:Nat):Int))=!decide (n≤c):=by
 by_cases h:n≤c
 ·rw [decide_eq_true h,decide_eq_false (by omega)]; rfl
 ·rw [decide_eq_false h,decide_eq_true (by omega)]; rfl
section n
variable {N:Nat} [Jn N]
def stB (a:qd):Bool:=decide (a=zSt)||(decide (0 < a.1)&&decide (a.1≤1099511627776)&&decide (0≤a.2)&&decide (a.2 < 8))
def slB (a b:qd):Bool:=decide (a.1 < b.1∨(a.1=b.1∧a.2 < b.2))
theorem qoL (a b:qd):eqE ql a b=decide (a=b):=Bool.eq_iff_iff.2 ((QE ql a b).trans (decide_eq_true_iff (p:=(a:Int×Int)=b)).symm)
theorem qBG (a b:Vector UInt8 16):eqE (.ba 16) a b=decide (a=b):=Bool.eq_iff_iff.2 ((QE (.ba 16) a b).trans (decide_eq_true_iff (p:=(a:Vector UInt8 16)=b)).symm)
theorem qmb (a:qd):Kj a=some (stB a):=by
 unfold Kj qes
 have e:=qoL a (qd.mk 0 0)
 simp only [Tree.run,e]
 show (bif decide (a=zSt) then _ else _)=some (decide (a=zSt)||_)
 cases decide (a=zSt) with
 | true=>rfl
 | false=>
  show (bif decide (0 < a.1) then _ else _)=_
  cases decide (0 < a.1) with
  | false=>rfl
  | true=>
   show (bif decide (a.1≤1099511627776) then _ else _)=_
   cases decide (a.1≤1099511627776) with
   | false=>rfl
   | true=>
    show (bif decide (0≤a.2) then _ else _)=_
    cases decide (0≤a.2)<;>rfl
def sgn (a b:Int):Int:=if a < b then -1 else if b < a then 1 else 0
theorem qD6 (a b:Int):JQ a b=some (sgn a b):=by
 unfold JQ Ym YY K3
 simp only [Tree.run,Option.bind_some,decide_true,Bool.not_true,cond_false,sgn]
 by_cases h:a < b
 ·simp [h]
 ·by_cases h2:b < a
  ·simp [h,h2]
  ·simp [h,h2]
theorem qwN (a b:Int):qag N [a,b]=some (if a=0 then b else a):=by
 obtain ⟨n,rfl⟩:∃ n,N=n + 3:=⟨N - 3,by have:=big N; omega⟩
 have e:qbS (n + 3) [a,b] ((([a,b]:List Int).length:Nat):Int) 0=qY (Qx (n + 3) [a,b] 2) some (n + 3) 0:=rfl
 have r0:(Qx (n + 3) [a,b] 2 0).run some=if a=0 then some (.inl 1) else some (.inr (.inl a)):=by
  unfold Qx
  have g:zp [a,b] 0=some a:=rfl
  have c:qx ((0:Int) + 1):=by unfold qx; omega
  rw [qE,show decide ((0:Int) < 2)=true from rfl,cond_true,run_bind,g,Option.bind_some,qE,zr,qj c]
  by_cases h:a=0
  ·rw [if_pos h,decide_eq_true h]; rfl
  ·rw [if_neg h,decide_eq_false h]; rfl
 have r1:(Qx (n + 3) [a,b] 2 1).run some=if b=0 then some (.inl 2) else some (.inr (.inl b)):=by
  unfold Qx
  have g:zp [a,b] 1=some b:=rfl
  have c:qx ((1:Int) + 1):=by unfold qx; omega
  rw [qE,show decide ((1:Int) < 2)=true from rfl,cond_true,run_bind,g,Option.bind_some,qE,zr,qj c]
  by_cases h:b=0
  ·rw [if_pos h,decide_eq_true h]; rfl
  ·rw [if_neg h,decide_eq_false h]; rfl
 have r2:(Qx (n + 3) [a,b] 2 2).run some=some (.inr (.inr (2,false))):=rfl
 unfold qag qdr
 rw [run_bind,e]
 by_cases h:a=0
 ·rw [if_pos h] at r0
  rw [JF r0,if_pos h]
  by_cases h2:b=0
  ·rw [if_pos h2] at r1
   rw [JF r1,zK r2,h2]; rfl
  ·rw [if_neg h2] at r1
   rw [zK r1]; rfl
 ·rw [if_neg h] at r0
  rw [zK r0,if_neg h]; rfl
theorem qEY (a b:Int):sgn a b=-1∨sgn a b=0∨sgn a b=1:=by
 unfold sgn; split
 ·exact .inl rfl
 ·split
  ·exact .inr (.inr rfl)
  ·exact .inr (.inl rfl)
theorem qbp (a b:qd):Qr N a b=some (slB a b):=by
 obtain ⟨a1,a2⟩:=a
 obtain ⟨b1,b2⟩:=b
 unfold Qr qcW
 simp only [Tree.run,qoL,qD6,Option.bind_some]
 by_cases h:((a1,a2):qd)=(b1,b2)
 ·cases h
  have:slB ((a1,a2):qd) (a1,a2)=false:=decide_eq_false (by simp only; omega)
  rw [this,decide_eq_true rfl]; rfl
 ·rw [decide_eq_false h]
  simp only [Bool.not_false,cond_true]
  show ((qag N [sgn a1 b1,sgn a2 b2]).bind _)=_
  have hs:=qEY a2 b2
  by_cases h1:a1 < b1
  ·rw [show sgn a1 b1=-1 from if_pos h1,qwN,show slB ((a1,a2):qd) (b1,b2)=true from decide_eq_true (.inl h1)]; rfl
  ·by_cases h2:b1 < a1
   ·rw [show sgn a1 b1=1 by unfold sgn; rw [if_neg h1,if_pos h2],qwN,show slB ((a1,a2):qd) (b1,b2)=false from decide_eq_false (by simp only; omega)]; rfl
   ·have he:a1=b1:=by omega
    rw [show sgn a1 b1=0 by unfold sgn; rw [if_neg h1,if_neg h2],qwN,if_pos rfl,Option.bind_some]
    congr 1
    show decide (sgn a2 b2 < 0)=decide (a1 < b1∨(a1=b1∧a2 < b2))
    rw [decide_eq_decide]
    simp only [he,Int.lt_irrefl,false_or,true_and]
    unfold sgn
    split
    ·rename_i h3; simp [h3]
    ·rename_i h3
     split
     ·simp; omega
     ·simp; omega
end n
end Go.Rx
end
set_option maxRecDepth 100000
noncomputable section
namespace Go.Rx
open Go.Proofs
def lbB (a b:Vector UInt8 16):Bool:=!decide (a=b)&&decide (Go.Lib.compareBytes a.toList b.toList < 0)
section n
variable {N:Nat} [Jn N]
theorem qty {k:Nat} (h:0 < k):(k:Int) - 1=((k - 1:Nat):Int):=by omega
theorem qCL {k:Nat}:decide ((0:Int) < (k:Int))=!decide (k=0):=by
 by_cases h:k=0
 ·subst h; rfl
 ·rw [decide_eq_false h,decide_eq_true (by omega)]; rfl
theorem qB5 (a b:Vector UInt8 16):qd4 a b=some (lbB a b):=by
 unfold qd4 qeD Xq KP qz_ lbB
 simp only [Tree.run,Option.bind_some,qBG]
 cases decide (a=b)<;>rfl
end n
theorem qaW (a:Vector UInt8 16):lbB a a=false:=by unfold lbB; rw [decide_eq_true rfl]; rfl
end Go.Rx
end
set_option maxRecDepth 100000
noncomputable section
namespace Go.Rx
abbrev c32 (x:UInt32):Int:=((x.toNat:Nat):Int)
theorem qAt (x:UInt32):x.toNat < 4294967296:=x.toNat_lt
theorem qgq (n:Nat):IntKind.u32.wrap ((n:Nat):Int)=((n % 4294967296:Nat):Int):=by rw [IntKind.wrap_u32']; omega
theorem KA (x:UInt32):BitVec.ofInt 32 (c32 x)=x.toBitVec:=by
 apply BitVec.eq_of_toNat_eq
 rw [ofInt_u32 _ (qAt x)]
 rfl
theorem qmq (x:UInt32):IntKind.u32.wrap ((x.toNat:Nat):Int)=c32 x:=by rw [qgq,Nat.mod_eq_of_lt (qAt x)]
theorem qwU (x y:UInt32):Y9 .u32 (c32 x) (c32 y)=c32 (x + y):=by
 unfold Y9
 show IntKind.u32.wrap (((x.toNat:Nat):Int) + ((y.toNat:Nat):Int))=_
 rw [← Int.natCast_add,qgq,c32,UInt32.toNat_add]
theorem qx5 (x y:UInt32):Y3 .u32 (c32 x) (c32 y)=c32 (x ^^^ y):=by
 unfold Y3
 rw [show IntKind.u32.bits=32 from rfl,KA,KA]
 exact qmq (x ^^^ y)
theorem qEO (x y:UInt32):qcV .u32 (c32 x) (c32 y)=c32 (x &&& y):=by
 unfold qcV
 rw [show IntKind.u32.bits=32 from rfl,KA,KA]
 exact qmq (x &&& y)
theorem qEG (x y:UInt32):uOr .u32 (c32 x) (c32 y)=c32 (x ||| y):=by
 unfold uOr
 rw [show IntKind.u32.bits=32 from rfl,KA,KA]
 exact qmq (x ||| y)
theorem qEI (x:UInt32):Y3 .u32 4294967295 (c32 x)=c32 (~~~x):=by
 have h:(4294967295:Int)=c32 4294967295:=rfl
 rw [h,qx5]
 congr 2
theorem qry (x:UInt32) (n:Nat) (h:n < 32):qpD .u32 (c32 x) n=c32 (x <<< UInt32.ofNat n):=by
 unfold qpD
 rw [show c32 x * 2 ^ n=((x.toNat * 2 ^ n:Nat):Int) by push_cast; rfl,qgq,c32,UInt32.toNat_shiftLeft,UInt32.toNat_ofNat_of_lt' (show n < UInt32.size by unfold UInt32.size; omega),Nat.mod_eq_of_lt h,Nat.shiftLeft_eq]
theorem qrG (x:UInt32) (n:Nat) (h:n < 32):Zh (c32 x) n=c32 (x >>> UInt32.ofNat n):=by
 unfold Zh
 rw [show ((2:Int) ^ n)=((2 ^ n:Nat):Int) by push_cast; rfl,Int.fdiv_eq_ediv_of_nonneg _ (Int.natCast_nonneg _),c32,← Int.natCast_ediv,c32,UInt32.toNat_shiftRight,UInt32.toNat_ofNat_of_lt' (show n < UInt32.size by unfold UInt32.size; omega),Nat.mod_eq_of_lt h,Nat.shiftRight_eq_div_pow]
theorem qrv (x:UInt32):inW (c32 x):=⟨Int.natCast_nonneg _,by have:=qAt x; show ((x.toNat:Nat):Int) < _; omega⟩
def rot (x:UInt32) (n:Nat):UInt32:=(x <<< UInt32.ofNat (32 - n)) ||| (x >>> UInt32.ofNat n)
end Go.Rx
end
set_option maxRecDepth 100000
noncomputable section
namespace Go.Rx
open Go.Proofs
theorem qDP:∀ n < 32,0 < n→qcV .u64 (IntKind.u64.wrap (0 - ((n:Nat):Int))) 31=((32 - n:Nat):Int):=by decide +kernel
theorem qDF:∀ n < 32,0 < n→qEy .u64 (32:Int) ((32 - n:Nat):Int)=((n:Nat):Int):=by decide +kernel
theorem qcY (x:UInt32) (n:Nat) (h:n < 32) (h0:0 < n):zL (c32 x) ((n:Nat):Int)=some (c32 (rot x n)):=by
 unfold zL qe2 J3 Jc
 have h64:qx (0 - ((n:Nat):Int)):=by unfold qx; omega
 simp only [run_bind,zr,qP,qj h64,qDP n h h0,qDF n h h0]
 rw [qj (show (0:Int)≤((32 - n:Nat):Int) by omega),qj (show (0:Int)≤((n:Nat):Int) by omega),Int.toNat_natCast,Int.toNat_natCast,Nat.min_eq_left (show 32 - n≤32 by omega),Nat.min_eq_left (show n≤32 by omega),qry x _ (by omega),qrG x n h,qEG]
 rfl
abbrev wAt {n:Nat} (v:Vector UInt32 n) (k:Nat):UInt32:=v.toList.getD k 0
abbrev bAt (l:List UInt8) (k:Nat):UInt32:=(l.getD k 0).toUInt32
def qo1 (b:List UInt8) (k:Nat) (w:Vector UInt32 64):Vector UInt32 64:=
 if k < 16 then w.setIfInBounds k ((bAt b (4 * k) <<< UInt32.ofNat 24) ||| (bAt b (4 * k + 1) <<< UInt32.ofNat 16) ||| (bAt b (4 * k + 2) <<< UInt32.ofNat 8) ||| bAt b (4 * k + 3))
 else w.setIfInBounds k (wAt w (k - 16) + wAt w (k - 7) + (rot (wAt w (k - 15)) 7 ^^^ rot (wAt w (k - 15)) 18 ^^^ (wAt w (k - 15) >>> UInt32.ofNat 3)) + (rot (wAt w (k - 2)) 17 ^^^ rot (wAt w (k - 2)) 19 ^^^ (wAt w (k - 2) >>> UInt32.ofNat 10)))
def qmj (b:List UInt8):Vector UInt32 64:=JG (qo1 b) 64 0 (Vector.replicate 64 0)
theorem qEz (c:UInt8):IntKind.u32.wrap ((c.toNat:Nat):Int)=c32 c.toUInt32:=by
 rw [qgq,Nat.mod_eq_of_lt (by have:=c.toNat_lt; omega),c32,UInt8.toNat_toUInt32]
theorem qEx {N:Nat} {o:Vector UInt32 64} {b:List UInt8} {w:Vector UInt32 64} {k:Nat} (hb:b.length=64) (hk:k < 16):(vB N o b (w,(k:Int))).run some=some (.inl (qo1 b k w,((k + 1:Nat):Int))):=by
 have g:∀ j < 4,zp b ((4:Int) * (k:Int) + ((j:Nat):Int))=some (b.getD (4 * k + j) 0):=fun j hj=>by
  rw [show (4:Int) * (k:Int) + ((j:Nat):Int)=((4 * k + j:Nat):Int) by omega]; exact v3 (by omega)
 have g0:zp b ((4:Int) * (k:Int))=some (b.getD (4 * k) 0):=by have:=g 0 (by omega); simpa using this
 have g1:zp b ((4:Int) * (k:Int) + 1)=some (b.getD (4 * k + 1) 0):=g 1 (by omega)
 have g2:zp b ((4:Int) * (k:Int) + 2)=some (b.getD (4 * k + 2) 0):=g 2 (by omega)
 have g3:zp b ((4:Int) * (k:Int) + 3)=some (b.getD (4 * k + 3) 0):=g 3 (by omega)
 have c0:qx ((4:Int) * (k:Int)):=by unfold qx; omega
 have c1:qx ((4:Int) * (k:Int) + 1):=by unfold qx; omega
 have c2:qx ((4:Int) * (k:Int) + 2):=by unfold qx; omega
 have c3:qx ((4:Int) * (k:Int) + 3):=by unfold qx; omega
 have c4:qx ((k:Int) + 1):=by unfold qx; omega
 have d1:decide ((k:Int) < 64)=true:=decide_eq_true (by omega)
 have d2:decide ((k:Int) < 16)=true:=decide_eq_true (by omega)
 have p8:(0:Int)≤8:=by omega
 have p16:(0:Int)≤16:=by omega
 have p24:(0:Int)≤24:=by omega
 have pk:(0:Int)≤(k:Int)∧(k:Int) < ((64:Nat):Int):=by omega
 have pk2:k < 64:=by omega
 unfold vB qo1
 rw [if_pos hk]
 simp only [qE,run_bind,zr,qP,d1,d2,cond_true,qj c0,qj c1,qj c2,qj c3,g0,g1,g2,g3,Option.bind_some,qj p8,qj p16,qj p24,qEz,qry _ 24 (by omega),qry _ 16 (by omega),qry _ 8 (by omega),qEG,qj (qrv _),qj pk,UInt32.ofNat_toNat,Int.toNat_natCast,qj pk2,qj c4]
 rw [zD]
theorem qDV {N:Nat} {o:Vector UInt32 64} {b:List UInt8} {w:Vector UInt32 64} {k:Nat} (h1:¬ k < 16) (hk:k < 64):(vB N o b (w,(k:Int))).run some=some (.inl (qo1 b k w,((k + 1:Nat):Int))):=by
 have c4:qx ((k:Int) + 1):=by unfold qx; omega
 have d1:decide ((k:Int) < 64)=true:=decide_eq_true (by omega)
 have d2:decide ((k:Int) < 16)=false:=decide_eq_false (by omega)
 have e15:(k:Int) - 15=((k - 15:Nat):Int):=by omega
 have e2:(k:Int) - 2=((k - 2:Nat):Int):=by omega
 have e16:(k:Int) - 16=((k - 16:Nat):Int):=by omega
 have e7:(k:Int) - 7=((k - 7:Nat):Int):=by omega
 have i15:qx (((k - 15:Nat)):Int):=by unfold qx; omega
 have i2:qx (((k - 2:Nat)):Int):=by unfold qx; omega
 have i16:qx (((k - 16:Nat)):Int):=by unfold qx; omega
 have i7:qx (((k - 7:Nat)):Int):=by unfold qx; omega
 have p15:(0:Int)≤((k - 15:Nat):Int)∧((k - 15:Nat):Int) < ((64:Nat):Int):=by omega
 have p2:(0:Int)≤((k - 2:Nat):Int)∧((k - 2:Nat):Int) < ((64:Nat):Int):=by omega
 have p16:(0:Int)≤((k - 16:Nat):Int)∧((k - 16:Nat):Int) < ((64:Nat):Int):=by omega
 have p7:(0:Int)≤((k - 7:Nat):Int)∧((k - 7:Nat):Int) < ((64:Nat):Int):=by omega
 have q15:k - 15 < 64:=by omega
 have q2:k - 2 < 64:=by omega
 have q16:k - 16 < 64:=by omega
 have q7:k - 7 < 64:=by omega
 have p3:(0:Int)≤3:=by omega
 have p10:(0:Int)≤10:=by omega
 have pk:(0:Int)≤(k:Int)∧(k:Int) < ((64:Nat):Int):=by omega
 have r7:=fun x=>qcY x 7 (by omega) (by omega)
 have r18:=fun x=>qcY x 18 (by omega) (by omega)
 have r17:=fun x=>qcY x 17 (by omega) (by omega)
 have r19:=fun x=>qcY x 19 (by omega) (by omega)
 unfold vB qo1
 rw [if_neg h1]
 simp only [qE,run_bind,zr,qP,d1,d2,cond_true,cond_false]
 rw [e15,e2,e16,e7]
 rw [qj i15,qj p15,Int.toNat_natCast,qj q15,qj i2,qj p2,Int.toNat_natCast,qj q2,qj i16,qj p16,Int.toNat_natCast,qj q16,qj i7,qj p7,Int.toNat_natCast,qj q7]
 show (Option.bind (zL (c32 (wAt w (k - 15))) ((7:Nat):Int)) _)=_
 rw [r7,Option.bind_some]
 show (Option.bind (zL (c32 (wAt w (k - 15))) ((18:Nat):Int)) _)=_
 rw [r18,Option.bind_some,qj p3]
 show (Option.bind (zL (c32 (wAt w (k - 2))) ((17:Nat):Int)) _)=_
 rw [r17,Option.bind_some]
 show (Option.bind (zL (c32 (wAt w (k - 2))) ((19:Nat):Int)) _)=_
 rw [r19,Option.bind_some,qj p10,qj pk]
 simp only [qx5,qwU,qrG _ 3 (by omega),qrG _ 10 (by omega),qj (qrv _),Int.toNat_natCast,UInt32.ofNat_toNat,qj hk,qj c4]
 rw [zD]
theorem qAp {N:Nat} {b:List UInt8} (hN:64 < N) (hb:b.length=64):K9 N b=some (qmj b):=by
 have key:K1 N (Vector.replicate 64 0) b (Vector.replicate 64 0) 0=some (qmj b,(64:Int),false):=by
  refine (Zi (σ:=Vector UInt32 64) (B:=vB N (Vector.replicate 64 0) b) (g:=some) (at_:=fun k s=>(s,(k:Int))) (I:=fun _ _=>True) (f:=qo1 b) (n:=64)
   (fin:=fun s=>(s,(64:Int),false)) (fun k s hk _=>⟨?_,trivial⟩) (fun s _=>?_) N 0 (Vector.replicate 64 0) trivial (Nat.zero_le _) (by omega))
  ·by_cases h:k < 16
   ·exact qEx hb h
   ·exact qDV h hk
  ·unfold vB
   rfl
 unfold K9 qaN
 rw [run_bind,key,Option.bind_some,qP]
def tW (K w:Vector UInt32 64) (i:Nat) (x:Vector UInt32 8):UInt32:=wAt x 7 + (rot (wAt x 4) 6 ^^^ rot (wAt x 4) 11 ^^^ rot (wAt x 4) 25) + ((wAt x 4 &&& wAt x 5) ^^^ (~~~(wAt x 4) &&& wAt x 6)) + wAt K i + wAt w i
def uW (x:Vector UInt32 8):UInt32:=(rot (wAt x 0) 2 ^^^ rot (wAt x 0) 13 ^^^ rot (wAt x 0) 22) + ((wAt x 0 &&& wAt x 1) ^^^ (wAt x 0 &&& wAt x 2) ^^^ (wAt x 1 &&& wAt x 2))
def qsO (K w:Vector UInt32 64) (i:Nat) (x:Vector UInt32 8):Vector UInt32 8:=
 ((Xv x 1 7).setIfInBounds 0 (tW K w i x + uW x)).setIfInBounds 4 (wAt ((Xv x 1 7).setIfInBounds 0 (tW K w i x + uW x)) 4 + tW K w i x)
def qwB (x:Vector UInt32 8) (k:Nat) (s:Vector UInt32 8):Vector UInt32 8:=s.setIfInBounds k (wAt s k + wAt x k)
def qrw (s:Vector UInt32 8) (K:Vector UInt32 64) (b:List UInt8):Vector UInt32 8:=JG (qwB (JG (qsO K (qmj b)) 64 0 s)) 8 0 s
theorem qDY {N:Nat} {s:Vector UInt32 8} {K w:Vector UInt32 64} {x:Vector UInt32 8} {k:Nat} (hk:k < 64):(QV N s K w (x,(k:Int))).run some=some (.inl (qsO K w k x,((k + 1:Nat):Int))):=by
 have c4:qx ((k:Int) + 1):=by unfold qx; omega
 have d1:decide ((k:Int) < 64)=true:=decide_eq_true (by omega)
 have pk:(0:Int)≤(k:Int)∧(k:Int) < ((64:Nat):Int):=by omega
 have hj:∀ j < 8,(0:Int)≤((j:Nat):Int)∧((j:Nat):Int) < ((8:Nat):Int):=fun j hj=>by omega
 have j0:(0:Int)≤(0:Int)∧(0:Int) < ((8:Nat):Int):=hj 0 (by omega)
 have j1:(0:Int)≤(1:Int)∧(1:Int) < ((8:Nat):Int):=hj 1 (by omega)
 have j2:(0:Int)≤(2:Int)∧(2:Int) < ((8:Nat):Int):=hj 2 (by omega)
 have j4:(0:Int)≤(4:Int)∧(4:Int) < ((8:Nat):Int):=hj 4 (by omega)
 have j5:(0:Int)≤(5:Int)∧(5:Int) < ((8:Nat):Int):=hj 5 (by omega)
 have j6:(0:Int)≤(6:Int)∧(6:Int) < ((8:Nat):Int):=hj 6 (by omega)
 have j7:(0:Int)≤(7:Int)∧(7:Int) < ((8:Nat):Int):=hj 7 (by omega)
 have n0:0 < 8:=by omega
 have n1:1 < 8:=by omega
 have n2:2 < 8:=by omega
 have n4:4 < 8:=by omega
 have n5:5 < 8:=by omega
 have n6:6 < 8:=by omega
 have n7:7 < 8:=by omega
 have r:=fun x n h h0=>qcY x n h h0
 unfold QV qsO tW uW
 rw [qE,d1,cond_true]
 simp only [run_bind,zr,qP]
 rw [qj j0,qj n0,qj j4,qj n4,qj j7,qj n7]
 show (Option.bind (zL (c32 (wAt x 4)) ((6:Nat):Int)) _)=_
 rw [r _ 6 (by omega) (by omega),Option.bind_some]
 show (Option.bind (zL (c32 (wAt x 4)) ((11:Nat):Int)) _)=_
 rw [r _ 11 (by omega) (by omega),Option.bind_some]
 show (Option.bind (zL (c32 (wAt x 4)) ((25:Nat):Int)) _)=_
 rw [r _ 25 (by omega) (by omega),Option.bind_some,qj j5,qj n5,qj j6,qj n6,qj pk,Int.toNat_natCast,qj hk]
 rw [qj pk,qj hk]
 show (Option.bind (zL (c32 (wAt x 0)) ((2:Nat):Int)) _)=_
 rw [r _ 2 (by omega) (by omega),Option.bind_some]
 show (Option.bind (zL (c32 (wAt x 0)) ((13:Nat):Int)) _)=_
 rw [r _ 13 (by omega) (by omega),Option.bind_some]
 show (Option.bind (zL (c32 (wAt x 0)) ((22:Nat):Int)) _)=_
 rw [r _ 22 (by omega) (by omega),Option.bind_some]
 rw [qj j1,qj n1,qj j2,qj n2,qj j1,qj n1,qj j2,qj n2,qj j0]
 simp only [qx5,qEO,qEI,qwU,qj (qrv _),Int.toNat_natCast,UInt32.ofNat_toNat,qj n0,qj j4,qj n4,qj c4]
 rw [zD]
theorem qvV {N:Nat} {s:Vector UInt32 8} {K:Vector UInt32 64} {b:List UInt8} (hN:64 < N) (hb:b.length=64):Vs N s K b=some (qrw s K b):=by
 have k1:Yj N s K (qmj b) s 0=some (JG (qsO K (qmj b)) 64 0 s,(64:Int),false):=by
  refine (Zi (σ:=Vector UInt32 8) (B:=QV N s K (qmj b)) (g:=some) (at_:=fun k s=>(s,(k:Int))) (I:=fun _ _=>True) (f:=qsO K (qmj b)) (n:=64)
   (fin:=fun s=>(s,(64:Int),false)) (fun k x hk _=>⟨qDY hk,trivial⟩) (fun x _=>?_) N 0 s trivial (Nat.zero_le _) (by omega))
  unfold QV
  rfl
 have k2:∀ x:Vector UInt32 8,X6 N K x s 0=some (JG (qwB x) 8 0 s,(8:Int),false):=fun x=>by
  refine (Zi (σ:=Vector UInt32 8) (B:=ZS N K x) (g:=some) (at_:=fun k s=>(s,(k:Int))) (I:=fun _ _=>True) (f:=qwB x) (n:=8)
   (fin:=fun s=>(s,(8:Int),false)) (fun k y hk _=>⟨?_,trivial⟩) (fun y _=>?_) N 0 s trivial (Nat.zero_le _) (by omega))
  ·have c4:qx ((k:Int) + 1):=by unfold qx; omega
   have d1:decide ((k:Int) < 8)=true:=decide_eq_true (by omega)
   have pk:(0:Int)≤(k:Int)∧(k:Int) < ((8:Nat):Int):=by omega
   unfold ZS qwB
   simp only [qE,run_bind,zr,qP,d1,cond_true]
   rw [qj pk,Int.toNat_natCast,qj hk,qj pk,qj hk,qj pk]
   simp only [qwU,qj (qrv _),Int.toNat_natCast,UInt32.ofNat_toNat,qj hk,qj c4]
   rw [zD]
  ·unfold ZS
   rfl
 unfold Vs Y5
 rw [run_bind,qAp hN hb,Option.bind_some,run_bind,k1,Option.bind_some,run_bind,k2,Option.bind_some,qP]
 rfl
end Go.Rx
end
set_option maxRecDepth 100000
noncomputable section
namespace Go.Rx
open Go.Proofs
def qE0:Vector UInt32 8:=#v[1779033703,3144134277,1013904242,2773480762,1359893119,2600822924,528734635,1541459225]
def qEZ:Vector UInt32 64:=#v[1116352408,1899447441,3049323471,3921009573,961987163,1508970993,2453635748,2870763221,
 3624381080,310598401,607225278,1426881987,1925078388,2162078206,2614888103,3248222580,
 3835390401,4022224774,264347078,604807628,770255983,1249150122,1555081692,1996064986,
 2554220882,2821834349,2952996808,3210313671,3336571891,3584528711,113926993,338241895,
 666307205,773529912,1294757372,1396182291,1695183700,1986661051,2177026350,2456956037,
 2730485921,2820302411,3259730800,3345764771,3516065817,3600352804,4094571909,275423344,
 430227734,506948616,659060556,883997877,958139571,1322822218,1537002063,1747873779,
 1955562222,2024104815,2227730452,2361852424,2428436474,2756734187,3204031479,3329325298]
def XM (L:Nat):Nat:=(119 - L % 64) % 64
theorem qs3 (n:Int):inB (IntKind.u8.wrap n):=by
 unfold inB
 have:IntKind.u8.wrap n=n % 256:=by simp [IntKind.wrap,IntKind.bits,IntKind.signed]
 rw [this]; omega
theorem qAQ (a b:Nat):((a:Nat):Int).tmod ((b:Nat):Int)=((a % b:Nat):Int):=rfl
theorem qCf (a b:Nat):((a:Nat):Int).tdiv ((b:Nat):Int)=((a / b:Nat):Int):=rfl
theorem qxz {n k:Nat} (h:k≤2000000000):JV n n k 1:=⟨rfl,by unfold q6; omega⟩
theorem qEd {N:Nat} {o:Vector UInt8 32} {b:List UInt8} (hb:b.length≤1000000000) (hN:64 < N):qcl N o b (b++[128])=some (b++[128]++List.replicate (XM b.length) 0,false):=by
 have hz:XM b.length < 64:=Nat.mod_lt _ (by omega)
 have h56:(b.length + 1 + XM b.length) % 64=56:=by unfold XM; omega
 have hlen:∀ k,(b++[128]++List.replicate k (0:UInt8)).length=b.length + 1 + k:=fun k=>by simp; omega
 have hne:∀ k,k < XM b.length→(b.length + 1 + k) % 64≠56:=fun k hk=>by unfold XM at *; omega
 have e0:qcl N o b (b++[128])=qY (Wc N o b) some N (b++[128]++List.replicate 0 (0:UInt8)):=by rw [List.replicate_zero,List.append_nil]; rfl
 rw [e0]
 refine (Zi (σ:=Unit) (B:=Wc N o b) (g:=some) (at_:=fun k _=>b++[128]++List.replicate k (0:UInt8)) (I:=fun _ _=>True) (f:=fun _ s=>s) (n:=XM b.length)
  (fin:=fun _=>(b++[128]++List.replicate (XM b.length) 0,false)) (fun k s hk _=>⟨?_,trivial⟩) (fun s _=>?_) N 0 () trivial (Nat.zero_le _) (by omega))
 ·unfold Wc
  have c1:(64:Int)≠0:=by omega
  have e:decide ((((b++[128]++List.replicate k (0:UInt8)).length:Nat):Int).tmod 64=56)=false:=decide_eq_false (by
   rw [hlen]
   have:=hne k hk
   show ¬ (((b.length + 1 + k) % 64:Nat):Int)=56
   omega)
  have c2:JV (b++[128]++List.replicate k (0:UInt8)).length (b++[128]++List.replicate k (0:UInt8)).length ((b++[128]++List.replicate k (0:UInt8))++[UInt8.ofNat 0]).length 1:=qxz (by rw [List.length_append,hlen]; simp; omega)
  rw [zr,qj c1,qE,e,Bool.not_false,cond_true,zr,qj c2,qP]
  rw [List.replicate_succ',← List.append_assoc]
  rfl
 ·unfold Wc
  have c1:(64:Int)≠0:=by omega
  have e:decide ((((b++[128]++List.replicate (XM b.length) (0:UInt8)).length:Nat):Int).tmod 64=56)=true:=decide_eq_true (by
   rw [hlen]
   show (((b.length + 1 + XM b.length) % 64:Nat):Int)=56
   omega)
  rw [zr,qj c1,qE,e,Bool.not_true,cond_false,qP]
def qAy (L k:Nat):UInt8:=UInt8.ofNat (IntKind.u8.wrap (Zh (qEs .u64 (IntKind.u64.wrap ((L:Nat):Int)) 8) (min ((8:Int) * ((7:Int) - (k:Int))).toNat 64))).toNat
def qgE (L k:Nat) (l:List UInt8):List UInt8:=l++[qAy L k]
theorem qt6 {L:Nat}:∀ (m k:Nat) (l:List UInt8),(JG (qgE L) m k l).length=l.length + m
 | 0,_,_=>rfl
 | m + 1,k,l=>by
  show (JG (qgE L) m (k + 1) (qgE L k l)).length=_
  rw [qt6 m]; unfold qgE; rw [List.length_append]; simp; omega
theorem qDD {N:Nat} {o:Vector UInt8 32} {b l:List UInt8} (hl:l.length≤1500000000) (hN:64 < N):qgO N o b l 0=some (JG (qgE b.length) 8 0 l,(8:Int),false):=by
 refine (Zi (σ:=List UInt8) (B:=KR N o b) (g:=some) (at_:=fun k s=>(s,(k:Int))) (I:=fun k s=>s.length=l.length + k) (f:=qgE b.length) (n:=8)
  (fin:=fun s=>(s,(8:Int),false)) (fun k s hk hs=>⟨?_,?_⟩) (fun s _=>?_) N 0 l rfl (Nat.zero_le _) (by omega))
 ·have d1:decide ((k:Int) < 8)=true:=decide_eq_true (by omega)
  have c1:qx ((7:Int) - (k:Int)):=by unfold qx; omega
  have c2:qx ((8:Int) * ((7:Int) - (k:Int))):=by unfold qx; omega
  have c3:(0:Int)≤(8:Int) * ((7:Int) - (k:Int)):=by omega
  have c4:qx ((k:Int) + 1):=by unfold qx; omega
  have c5:JV s.length s.length (s++[qAy b.length k]).length 1:=qxz (by rw [List.length_append,hs]; simp; omega)
  unfold KR
  rw [qE,d1,cond_true]
  simp only [zr,qP]
  rw [qj c1,qj c2,qj c3,qj (qs3 _)]
  show chk (JV s.length s.length (s++[qAy b.length k]).length 1) _=_
  rw [qj c5,qj c4,zD]
  rfl
 ·unfold qgE; rw [List.length_append,hs]; simp; omega
 ·unfold KR
  rfl
def chF (K:Vector UInt32 64):Nat→Vector UInt32 8→List UInt8→Vector UInt32 8
 | 0,s,_=>s
 | m + 1,s,l=>chF K m (qrw s K (l.take 64)) (l.drop 64)
theorem qCB {N : Nat} {o : List UInt8} {o2 : Vector UInt8 32} {o3 : Vector UInt32 8} {K : Vector UInt32 64} (hN : 64 < N) : ∀ (m n : Nat) (s : Vector UInt32 8) (l : List UInt8), l.length = 64 * m → m < n →
    qY (V2 N o o2 o3 K) some n (s,l)=some (.inr (chF K m s l,[],false))
 | 0,n + 1,s,l,hl,_=>by
  have:l=[]:=List.length_eq_zero_iff.1 (by omega)
  subst this
  exact zK (by unfold V2; rfl) n
 | m + 1,n + 1,s,l,hl,hn=>by
  have d1:decide ((0:Int) < ((l.length:Nat):Int))=true:=decide_eq_true (by omega)
  have c1:(0:Int)≤0∧(0:Int)≤64∧(64:Int)≤((l.length:Nat):Int):=by omega
  have c2:(0:Int)≤64∧(64:Int)≤((l.length:Nat):Int):=by omega
  have ht:((l.take 64).drop 0).length=64:=by rw [List.drop_zero,List.length_take]; omega
  rw [JF (v':=(qrw s K (l.take 64),l.drop 64)) (by
   unfold V2
   rw [qE,d1,cond_true,zr,qj c1,run_bind,qvV hN ht,Option.bind_some,zr,qj c2,qP,List.drop_zero]) n]
  exact qCB hN m n _ _ (by rw [List.length_drop]; omega) (by omega)
 | _,0,_,_,_,hn=>by omega
theorem qz1 {N m : Nat} {all : List UInt8} {o2 : Vector UInt8 32} {s : Vector UInt32 8} {K : Vector UInt32 64} (hN : 64 < N) (hm : m + 1 < N) (hl : all.length = 64 * (m + 1)) :
    Ys N all o2 s K=some (.inr (chF K (m + 1) s all,[],false)):=by
 have d1:decide ((0:Int) < ((all.length:Nat):Int))=true:=decide_eq_true (by omega)
 have c1:(0:Int)≤0∧(0:Int)≤64∧(64:Int)≤((all.length:Nat):Int):=by omega
 have c2:(0:Int)≤64∧(64:Int)≤((all.length:Nat):Int):=by omega
 have ht:((all.take 64).drop 0).length=64:=by rw [List.drop_zero,List.length_take]; omega
 have hrun:(Y1 N all o2 s K ()).run some=some (.inr (.inl (qrw s K (all.take 64),all.drop 64))):=by
  unfold Y1
  rw [qE,d1,cond_true,zr,qj c1,zr,qj rfl,run_bind,qvV hN ht,Option.bind_some,zr,qj c2,zr,qj rfl,qP,List.drop_zero]
 obtain ⟨N',rfl⟩:∃ N',N=N' + 1:=⟨N - 1,by omega⟩
 have e:Ys (N' + 1) all o2 s K=qY (Y1 (N' + 1) all o2 s K) (qbV (N' + 1) (N' + 1) (all,o2,s,K)) (N' + 1) ():=rfl
 rw [e,zK hrun]
 exact qCB (o:=all) (o2:=o2) (o3:=s) hN m (N' + 1) _ _ (by rw [List.length_drop]; omega) (by omega)
def qD2 (s:Vector UInt32 8) (k:Nat):UInt8:=UInt8.ofNat (IntKind.u8.wrap (c32 (wAt s (k / 4) >>> UInt32.ofNat (24 - 8 * (k % 4))))).toNat
def qA0 (s:Vector UInt32 8) (k:Nat) (o:Vector UInt8 32):Vector UInt8 32:=o.setIfInBounds k (qD2 s k)
def qEb (s:Vector UInt32 8):Vector UInt8 32:=JG (qA0 s) 32 0 (Vector.replicate 32 0)
theorem qEq {N:Nat} {o:Vector UInt8 32} {s:Vector UInt32 8} (hN:64 < N):qa_ N o s (Vector.replicate 32 0) 0=some (qEb s,(32:Int),false):=by
 refine (Zi (σ:=Vector UInt8 32) (B:=YN N o s) (g:=some) (at_:=fun k s=>(s,(k:Int))) (I:=fun _ _=>True) (f:=qA0 s) (n:=32)
  (fin:=fun s=>(s,(32:Int),false)) (fun k x hk _=>⟨?_,trivial⟩) (fun x _=>?_) N 0 (Vector.replicate 32 0) trivial (Nat.zero_le _) (by omega))
 ·have d1:decide ((k:Int) < 32)=true:=decide_eq_true (by omega)
  have e1:(k:Int).tdiv 4=((k / 4:Nat):Int):=qCf k 4
  have e2:(k:Int).tmod 4=((k % 4:Nat):Int):=qAQ k 4
  have h4:(4:Int)≠0:=by omega
  have c1:qx (((k / 4:Nat)):Int):=by unfold qx; omega
  have c2:(0:Int)≤((k / 4:Nat):Int)∧((k / 4:Nat):Int) < ((8:Nat):Int):=by omega
  have c3:k / 4 < 8:=by omega
  have c4:qx ((8:Int) * ((k % 4:Nat):Int)):=by unfold qx; omega
  have e3:(24:Int) - (8:Int) * ((k % 4:Nat):Int)=((24 - 8 * (k % 4):Nat):Int):=by omega
  have c5:qx ((24 - 8 * (k % 4):Nat):Int):=by unfold qx; omega
  have c6:(0:Int)≤((24 - 8 * (k % 4):Nat):Int):=by omega
  have c7:(0:Int)≤(k:Int)∧(k:Int) < ((32:Nat):Int):=by omega
  have c8:qx ((k:Int) + 1):=by unfold qx; omega
  unfold YN qA0 qD2
  rw [qE,d1,cond_true]
  simp only [zr,qP]
  rw [e1,e2,e3,qj h4,qj c1,qj c2,Int.toNat_natCast,qj c3,qj h4,qj c4,qj c5,qj c6,qj c7,qj (qs3 _),Int.toNat_natCast,qj hk,qj c8,Int.toNat_natCast,Nat.min_eq_left (show 24 - 8 * (k % 4)≤32 by omega)]
  rw [zD]
  show some (Sum.inl (x.setIfInBounds k (UInt8.ofNat (IntKind.u8.wrap (Zh (c32 (wAt s (k / 4))) (24 - 8 * (k % 4)))).toNat),_))=_
  rw [qrG _ _ (by omega)]
 ·unfold YN
  rfl
def qlP (b:List UInt8):List UInt8:=JG (qgE b.length) 8 0 (b++[128]++List.replicate (XM b.length) 0)
def ZI (b:List UInt8):Vector UInt8 32:=qEb (chF qEZ ((qlP b).length / 64) qE0 (qlP b))
theorem qDl (b:List UInt8):∃ m,(qlP b).length=64 * (m + 1)∧m≤b.length:=by
 have h:(qlP b).length=b.length + 1 + XM b.length + 8:=by unfold qlP; rw [qt6]; simp; omega
 rw [h]
 refine ⟨(b.length + 1 + XM b.length + 8) / 64 - 1,?_,?_⟩
 ·unfold XM; omega
 ·unfold XM; omega
theorem qCl {l:List UInt8} (h:l.length≤1000000000):Vy l=some ():=by
 unfold Vy
 cases l with
 | nil=>kernel_rfl
 | cons x r=>
  show qeS (x::r)=_
  unfold qeS qbZ
  have h2:JV ([]:List UInt8).length 0 ([]++x::r).length 1:=⟨rfl,by rw [List.nil_append]; unfold q6; omega⟩
  rw [zr,qj (List.isEmpty_cons),zr,qj h2,qP]
theorem qiq {Z:Type} {a:Nat} {o:Option Z}:jF [(a,a)] o=o:=(jo rfl).trans (qyc o)
theorem qB1:qjk=some ():=by kernel_rfl
theorem qCg:qjI=some ():=by kernel_rfl
theorem qEk {N:Nat} {b:List UInt8} (hb:b.length≤1000000000) (hN:b.length + 100 < N):KD N b=some (ZI b):=by
 obtain ⟨m,hm,hmb⟩:=qDl b
 have c1:JV (([]:List UInt8)++b).length (([]:List UInt8)++b).length ((([]:List UInt8)++b)++[UInt8.ofNat 128]).length 1:=qxz (by rw [List.nil_append,List.length_append]; simp; omega)
 have hpad:=qEd (N:=N) (o:=Vector.replicate 32 0) hb (by omega)
 have hlen:=qDD (N:=N) (o:=Vector.replicate 32 0) (b:=b) (l:=b++[128]++List.replicate (XM b.length) 0) (by have:XM b.length < 64:=Nat.mod_lt _ (by omega); simp; omega) (by omega)
 have hch:∀ (s:Vector UInt32 8) (K:Vector UInt32 64),Ys N (JG (qgE b.length) 8 0 (b++[128]++List.replicate (XM b.length) 0)) (Vector.replicate 32 0) s K=some (.inr (chF K (m + 1) s (qlP b),[],false)):=fun s K=>qz1 (by omega) (by omega) hm
 have hd:(qlP b).length / 64=m + 1:=by rw [hm]; omega
 have e1:(([]:List UInt8)++b)++[UInt8.ofNat 128]=b++[128]:=rfl
 unfold KD qiD ZI
 rw [run_bind,qCl hb,Option.bind_some,zr,qj c1,run_bind,e1,qiq,hpad,Option.bind_some]
 dsimp only
 rw [run_bind,qiq,hlen,Option.bind_some]
 dsimp only
 rw [run_bind,qB1,Option.bind_some,run_bind,qCg,Option.bind_some,run_bind,qiq,hch,Option.bind_some,qCt,run_bind,qEq (by omega),Option.bind_some,qP,hd]
 rfl
end Go.Rx
end
set_option maxRecDepth 100000
noncomputable section
namespace Go.Rx
open Go.Proofs
section n
variable {N:Nat} [Jn N]
def KZ (c:qc):Bool:=!decide (c.S=zSt)&&(stB c.S&&decide (c.V.length≤200))
theorem qDA (c:qc):Y4 c=some (KZ c):=by
 unfold Y4 qgG KZ
 have e:eqE ql c.S (qd.mk 0 0)=decide (c.S=zSt):=qoL _ _
 have e2:decide (((c.V.length:Nat):Int)≤200)=decide (c.V.length≤200):=decide_eq_decide.2 (by omega)
 rw [qE,e,run_bind,qmb,Option.bind_some,qE,qP,e2,qP]
 cases decide (c.S=zSt)<;>cases stB c.S<;>rfl
end n
end Go.Rx
end
set_option maxRecDepth 100000
noncomputable section
namespace Go.Rx
open Go.Proofs
abbrev zF:qb:=qb.mk 0 (qc.mk zSt [])
abbrev zR:qa:=qa.mk (Vector.replicate 16 0) zSt []
def qiH (l:List qb) (dead:qd) (k:Nat):Bool:=
 (if k=0 then decide (0≤(l.getD k zF).No) else decide ((l.getD (k - 1) zF).No < (l.getD k zF).No))&&(!decide (8≤(l.getD k zF).No)&&(KZ (l.getD k zF).C&&slB dead (l.getD k zF).C.S))
def zY (r:qa):Bool:=stB r.qQ&&(!(decide (r.F.length=0)&&decide (r.qQ=zSt))&&Jq (qiH r.F r.qQ) r.F.length)
def qst (l:List qa) (k:Nat):Bool:=zY (l.getD k zR)&&(decide (k=0)||lbB (l.getD (k - 1) zR).ID (l.getD k zR).ID)
def je (b:qe):Bool:=Jq (qst b.R) b.R.length&&decide (b.R.length≤10)
section n
variable {N:Nat} [Jn N]
theorem qCh {f : qb} {dead : qd} {k : Nat} (h64 : qx ((k : Int) + 1)) :
    (Tree.cond (decide (((8:Int))≤(qb.No f))) (.ret (.inr (.inl ())))
     (Tree.bind (Y4 (qb.C f)) fun r2=>Tree.cond (!r2) (.ret (.inr (.inl ())))
      (Tree.bind (Qr N dead (qc.S (qb.C f))) fun r3=>Tree.cond (!r3) (.ret (.inr (.inl ())))
       (Tree.chk (qx ((k:Int) + 1)) (.ret (.inl ((k:Int) + 1):Int⊕(Unit⊕(Int×Bool)))))))).run some =
    some (if (!decide (8≤f.No)&&(KZ f.C&&slB dead f.C.S))=true then .inl ((k:Int) + 1) else .inr (.inl ())):=by
 rw [qE,qP,run_bind,qDA,Option.bind_some,qE,qP,run_bind,qbp,Option.bind_some,qE,qP,zr,qj h64,qP]
 cases decide (8≤f.No)<;>cases KZ f.C<;>cases slB dead f.C.S<;>rfl
theorem qC1 {r : qa} (hN : r.F.length < N) (h62 : r.F.length ≤ 4611686018427387904) :
    qcg N r r.F ((r.F.length:Nat):Int) 0=some (if Jq (qiH r.F r.qQ) r.F.length then .inr (((r.F.length:Nat):Int),false) else .inl ()):=by
 refine Kh (B:=qas N r r.F ((r.F.length:Nat):Int)) (g:=some) (q:=qiH r.F r.qQ) (fun k hk=>?_) ?_ hN
 ·have h64:qx ((k:Int) + 1):=by unfold qx; omega
  have ht:=qCh (N:=N) (f:=r.F.getD k zF) (dead:=r.qQ) h64
  unfold qas
  rw [qE,dec_lt hk,cond_true,run_bind,v3 (d:=zF) hk,Option.bind_some,← zD]
  unfold qiH
  by_cases h0:k=0
  ·have d0:decide ((k:Int)=0)=true:=decide_eq_true (by omega)
   rw [qE,d0,cond_true,if_pos h0,qE]
   by_cases h1:(0:Int)≤(r.F.getD k zF).No
   ·rw [decide_eq_true h1,cond_true,ht,Bool.true_and]
   ·have d1:decide ((0:Int) < (k:Int))=false:=decide_eq_false (by omega)
    rw [decide_eq_false h1,cond_false,qE,d1,cond_false,qP]
    rfl
  ·have d0:decide ((k:Int)=0)=false:=decide_eq_false (by omega)
   have d1:decide ((0:Int) < (k:Int))=true:=decide_eq_true (by omega)
   have hp:qx ((k:Int) - 1):=by unfold qx; omega
   have hk1:k - 1 < r.F.length:=by omega
   rw [qE,d0,cond_false,if_neg h0,qE,d1,cond_true,zr,qj hp,run_bind,qty (Nat.pos_of_ne_zero h0),v3 (d:=zF) hk1,Option.bind_some,qE]
   by_cases h2:(r.F.getD (k - 1) zF).No < (r.F.getD k zF).No
   ·rw [decide_eq_true h2,Bool.not_true,cond_false,ht,Bool.true_and]
   ·rw [decide_eq_false h2,Bool.not_false,cond_true,qP]
    rfl
 ·unfold qas
  rw [qE,vq (Nat.lt_irrefl _),cond_false,qP]
theorem qkq {r:qa} (hN:r.F.length < N) (h62:r.F.length≤4611686018427387904):qaM N r=some (zY r):=by
 have e0:eqE ql r.qQ (qd.mk 0 0)=decide (r.qQ=zSt):=qoL _ _
 have d0:decide (((r.F.length:Nat):Int)=0)=decide (r.F.length=0):=decide_eq_decide.2 (by omega)
 unfold qaM qih zY
 rw [run_bind,qmb,Option.bind_some,qE,qP,qE,d0,qE,e0,qP,run_bind,qC1 hN h62,Option.bind_some]
 cases stB r.qQ<;>cases decide (r.F.length=0)<;>cases decide (r.qQ=zSt)<;>cases Jq (qiH r.F r.qQ) r.F.length<;>rfl
theorem qCZ {b : qe} (hN : b.R.length < N) (h62 : b.R.length ≤ 4611686018427387904) (hF : ∀ k, k < b.R.length → (b.R.getD k zR).F.length < N ∧ (b.R.getD k zR).F.length ≤ 4611686018427387904) :
    qeK N b b.R ((b.R.length:Nat):Int) 0=some (if Jq (qst b.R) b.R.length then .inr (((b.R.length:Nat):Int),false) else .inl ()):=by
 refine Kh (B:=YM N b b.R ((b.R.length:Nat):Int)) (g:=some) (q:=qst b.R) (fun k hk=>?_) ?_ hN
 ·have h64:qx ((k:Int) + 1):=by unfold qx; omega
  unfold YM
  rw [qE,dec_lt hk,cond_true,run_bind,v3 (d:=zR) hk,Option.bind_some,run_bind,qkq (hF k hk).1 (hF k hk).2,Option.bind_some,qE,qP,qE,qCL,zr,zr,qj h64,qP,zD]
  unfold qst
  cases zY (b.R.getD k zR) with
  | false=>rfl
  | true=>
   by_cases h0:k=0
   ·rw [decide_eq_true h0]; rfl
   ·have hp:qx ((k:Int) - 1):=by unfold qx; omega
    have hk1:k - 1 < b.R.length:=by omega
    rw [decide_eq_false h0,Bool.not_true,cond_false,Bool.not_false,cond_true,qj hp,run_bind,qty (Nat.pos_of_ne_zero h0),v3 (d:=zR) hk1,Option.bind_some,run_bind,qB5,Option.bind_some,qE,qP,zr,qj (show qx ((k + 1:Nat):Int) by rw [← zD]; exact h64),qP]
    cases lbB (b.R.getD (k - 1) zR).ID (b.R.getD k zR).ID<;>rfl
 ·unfold YM
  rw [qE,vq (Nat.lt_irrefl _),cond_false,qP]
theorem qCP {b:qe} (hN:b.R.length < N) (h62:b.R.length≤4611686018427387904) (hF:∀ k,k < b.R.length→(b.R.getD k zR).F.length < N∧(b.R.getD k zR).F.length≤4611686018427387904):Wy N b=some (je b):=by
 have e2:decide (((b.R.length:Nat):Int)≤10)=decide (b.R.length≤10):=decide_eq_decide.2 (by omega)
 unfold Wy qhb je
 rw [run_bind,qCZ hN h62 hF,Option.bind_some]
 cases Jq (qst b.R) b.R.length with
 | false=>rfl
 | true=>show (Tree.run some (Tree.ret (decide (((b.R.length:Nat):Int)≤10))))=_; rw [qP,e2]; rfl
end n
theorem Wq {r:qa}:zY r=true↔stB r.qQ=true∧(r.F.length≠0∨r.qQ≠zSt)∧∀ k,k < r.F.length→qiH r.F r.qQ k=true:=by
 unfold zY
 rw [Bool.and_eq_true,Bool.and_eq_true,qc9,Bool.not_eq_true',Bool.and_eq_false_iff,decide_eq_false_iff_not,decide_eq_false_iff_not]
theorem V4 {l:List qb} {dead:qd} {k:Nat}:qiH l dead k=true↔(if k=0 then 0≤(l.getD k zF).No else (l.getD (k - 1) zF).No < (l.getD k zF).No)∧(l.getD k zF).No < 8∧KZ (l.getD k zF).C=true∧slB dead (l.getD k zF).C.S=true:=by
 unfold qiH
 rw [Bool.and_eq_true,Bool.and_eq_true,Bool.and_eq_true,Bool.not_eq_true',decide_eq_false_iff_not,Int.not_le]
 refine and_congr ?_ Iff.rfl
 split<;>exact decide_eq_true_iff
theorem qt3 {r:qa} (h:zY r=true):∀ k,k < r.F.length→(k:Int)≤(r.F.getD k zF).No
 | 0,hk=>by
  have:=(V4.1 ((Wq.1 h).2.2 0 hk)).1
  rw [if_pos rfl] at this; exact this
 | k + 1,hk=>by
  have:=(V4.1 ((Wq.1 h).2.2 (k + 1) hk)).1
  rw [if_neg (by omega)] at this
  have ih:=qt3 h k (by omega)
  rw [show k + 1 - 1=k by omega] at this
  omega
theorem qcI {r:qa} (h:zY r=true):r.F.length≤8:=by
 by_cases e:r.F.length=0
 ·omega
 ·have h1:=qt3 h (r.F.length - 1) (by omega)
  have h2:=(V4.1 ((Wq.1 h).2.2 (r.F.length - 1) (by omega))).2.1
  omega
theorem qi5 {b:qe}:je b=true↔(∀ k,k < b.R.length→zY (b.R.getD k zR)=true∧(k=0∨lbB (b.R.getD (k - 1) zR).ID (b.R.getD k zR).ID=true))∧b.R.length≤10:=by
 unfold je
 rw [Bool.and_eq_true,decide_eq_true_iff,qc9]
 refine and_congr (forall_congr' fun k=>imp_congr_right fun _=>?_) Iff.rfl
 show (zY (b.R.getD k zR)&&(decide (k=0)||lbB (b.R.getD (k - 1) zR).ID (b.R.getD k zR).ID))=true↔_
 rw [Bool.and_eq_true,Bool.or_eq_true,decide_eq_true_iff]
theorem qBL {c:qc} (h:KZ c=true):c.V.length≤200:=by
 unfold KZ at h
 simp only [Bool.and_eq_true,decide_eq_true_iff] at h
 exact h.2.2
end Go.Rx
end
set_option maxRecDepth 100000
noncomputable section
namespace Go.Rx
open Go.Proofs
section n
variable {N:Nat} [Jn N]
def Qo (N:Nat) (b:qe):Prop:=b.R.length < N∧b.R.length≤4611686018427387904∧∀ k,k < b.R.length→(b.R.getD k zR).F.length < N∧(b.R.getD k zR).F.length≤4611686018427387904
theorem qkn {b:qe} (h:Qo N b):Wy N b=some (je b):=qCP h.1 h.2.1 h.2.2
theorem qsG {l:List UInt8} (h:l.length≤50000):qjN N l=some (ZI l):=by
 unfold qjN qlL
 rw [zr,qj (show qkt l.length by unfold qkt; omega),run_bind,qEk (by omega) (by have:=big N; omega),Option.bind_some,qP]
end n
end Go.Rx
end
noncomputable section
namespace Go.Rx
section
variable {α R:Type} {n:α→Option R} {y:Option R}
theorem qZ {a:α} (h:n a=y):(Tree.ret a).run n=y:=h
theorem zd {p:Prop} [Decidable p] {t:Tree α} (h:p) (ht:t.run n=y):(Tree.chk p t).run n=y:=(qj h).trans ht
theorem qI {β:Type} {o:Option β} {k:β→Tree α} {x:β} (h:o=some x) (ht:(k x).run n=y):(Tree.bind o k).run n=y:=by subst h; exact ht
theorem w_t {b:Bool} {s t:Tree α} (h:b=true) (hs:s.run n=y):(Tree.cond b s t).run n=y:=by subst h; exact hs
theorem w_f {b:Bool} {s t:Tree α} (h:b=false) (ht:t.run n=y):(Tree.cond b s t).run n=y:=by subst h; exact ht
theorem qtt {β:Type} {o:Option β} {s:Tree α} {k:β→Tree α} (h:o=none) (hs:s.run n=y):(Tree.opt o s k).run n=y:=by subst h; exact hs
theorem qnP {β:Type} {o:Option β} {s:Tree α} {k:β→Tree α} {x:β} (h:o=some x) (hk:(k x).run n=y):(Tree.opt o s k).run n=y:=by subst h; exact hk
theorem w_l {β γ:Type} {z:β⊕γ} {f:β→Tree α} {g:γ→Tree α} {x:β} (h:z=.inl x) (hk:(f x).run n=y):(Tree.sum z f g).run n=y:=by subst h; exact hk
theorem w_r {β γ:Type} {z:β⊕γ} {f:β→Tree α} {g:γ→Tree α} {x:γ} (h:z=.inr x) (hk:(g x).run n=y):(Tree.sum z f g).run n=y:=by subst h; exact hk
theorem qEr {b:Bool} {s t:Tree α} {c:Bool} (h:b=c) (hs:c=true→s.run n=y) (ht:c=false→t.run n=y):(Tree.cond b s t).run n=y:=by
 subst h; cases b
 ·exact ht rfl
 ·exact hs rfl
end
theorem Z9 {k:Nat} (h:k≤4611686018427387904):qx ((k:Int) + 1):=by unfold qx; omega
end Go.Rx
end
set_option maxRecDepth 100000
noncomputable section
namespace Go.Rx
open Go.Proofs
open Go.Lib (compareBytes)
theorem qvB:∀ l:List UInt8,compareBytes l l=0
 | []=>rfl
 | x::l=>by
  unfold compareBytes
  rw [if_neg (UInt8.lt_irrefl x),if_neg (UInt8.lt_irrefl x)]
  exact qvB l
theorem qt4:∀ a b c:List UInt8,compareBytes a b < 0→compareBytes b c < 0→compareBytes a c < 0
 | [],[],_,h,_=>by simp [compareBytes] at h
 | [],_::_,[],_,h=>by simp [compareBytes] at h
 | [],_::_,_::_,_,_=>by simp [compareBytes]
 | _::_,[],_,h,_=>by simp [compareBytes] at h
 | _::_,_::_,[],_,h=>by simp [compareBytes] at h
 | x::a,y::b,z::c,h1,h2=>by
  unfold compareBytes at h1 h2 ⊢
  simp only [UInt8.lt_iff_toNat_lt] at h1 h2 ⊢
  by_cases hxy:x.toNat < y.toNat
  ·by_cases hyz:y.toNat < z.toNat
   ·rw [if_pos (by omega)]; decide
   ·rw [if_neg hyz] at h2
    by_cases hzy:z.toNat < y.toNat
    ·rw [if_pos hzy] at h2; simp at h2
    ·rw [if_pos (by omega)]; decide
  ·rw [if_neg hxy] at h1
   by_cases hyx:y.toNat < x.toNat
   ·rw [if_pos hyx] at h1; simp at h1
   ·rw [if_neg hyx] at h1
    by_cases hyz:y.toNat < z.toNat
    ·rw [if_pos (by omega)]; decide
    ·rw [if_neg hyz] at h2
     by_cases hzy:z.toNat < y.toNat
     ·rw [if_pos hzy] at h2; simp at h2
     ·rw [if_neg hzy] at h2
      rw [if_neg (by omega),if_neg (by omega)]
      exact qt4 a b c h1 h2
theorem qz5:∀ a b:List UInt8,(compareBytes a b < 0∧compareBytes b a > 0)∨a=b∨(compareBytes b a < 0∧compareBytes a b > 0)
 | [],[]=>.inr (.inl rfl)
 | [],_::_=>.inl ⟨by simp [compareBytes],by simp [compareBytes]⟩
 | _::_,[]=>.inr (.inr ⟨by simp [compareBytes],by simp [compareBytes]⟩)
 | x::a,y::b=>by
  unfold compareBytes
  by_cases h:x < y
  ·have h':¬ y < x:=fun h'=>by rw [UInt8.lt_iff_toNat_lt] at h h'; omega
   rw [if_pos h,if_neg h',if_pos h]
   exact .inl ⟨by omega,by omega⟩
  ·by_cases h':y < x
   ·rw [if_neg h,if_pos h',if_pos h']
    exact .inr (.inr ⟨by omega,by omega⟩)
   ·rw [if_neg h,if_neg h',if_neg h',if_neg h]
    have e:x=y:=by
     apply UInt8.toNat_inj.1
     rw [UInt8.lt_iff_toNat_lt] at h h'; omega
    subst e
    rcases qz5 a b with h1 | h1 | h1
    ·exact .inl h1
    ·exact .inr (.inl (by rw [h1]))
    ·exact .inr (.inr h1)
theorem qAG {n:Nat} (h:n < 18446744073709551616):IntKind.u64.wrap ((n:Nat):Int)=((n:Nat):Int):=by
 have:IntKind.u64.wrap (n:Int)=(n:Int) % 18446744073709551616:=by simp [IntKind.wrap,IntKind.bits,IntKind.signed]
 rw [this]; omega
def ltB (a b:List UInt8):Bool:=decide (compareBytes a b < 0)
theorem Vf (a:List UInt8):ltB a a=false:=by unfold ltB; rw [qvB]; rfl
theorem qi8 {a b c:List UInt8} (h1:ltB a b=true) (h2:ltB b c=true):ltB a c=true:=decide_eq_true (qt4 a b c (of_decide_eq_true h1) (of_decide_eq_true h2))
theorem qcH (a b:List UInt8):(ltB a b=true∧ltB b a=false)∨a=b∨(ltB b a=true∧ltB a b=false):=by
 rcases qz5 a b with h | h | h
 ·exact .inl ⟨decide_eq_true h.1,decide_eq_false (by omega)⟩
 ·exact .inr (.inl h)
 ·exact .inr (.inr ⟨decide_eq_true h.1,decide_eq_false (by omega)⟩)
theorem qm1:∀ a b:List UInt8,Op.bytesLess a b=ltB a b
 | [],[]=>rfl
 | [],_::_=>rfl
 | _::_,[]=>rfl
 | x::a,y::b=>by
  have ih:=qm1 a b
  unfold Op.bytesLess
  rw [ih]
  unfold ltB
  rw [show compareBytes (x::a) (y::b)=if x < y then -1 else if y < x then 1 else compareBytes a b from rfl]
  by_cases h:x < y
  ·rw [if_pos h,decide_eq_true h]; rfl
  ·rw [if_neg h,decide_eq_false h,Bool.false_or]
   by_cases h':y < x
   ·rw [if_pos h']
    have:(x == y)=false:=by
     rw [beq_eq_false_iff_ne]
     intro e; subst e; exact h h'
    rw [this]; rfl
   ·have e : x = y := by
       apply UInt8.toNat_inj.1
       rw [UInt8.lt_iff_toNat_lt] at h h'; omega
    subst e
    rw [if_neg h]
    simp
theorem qkp (a b:Vector UInt8 16):lbB a b=ltB a.toList b.toList:=by
 unfold lbB
 by_cases h:a=b
 ·subst h; rw [decide_eq_true rfl,Vf]; rfl
 ·rw [decide_eq_false h]; rfl
def ltD (a b:Vector UInt8 32):Bool:=ltB a.toList b.toList
theorem eqD (a b:Vector UInt8 32):eqE (.ba 32) a b=decide (a=b):=Bool.eq_iff_iff.2 ((QE (.ba 32) a b).trans (decide_eq_true_iff (p:=(a:Vector UInt8 32)=b)).symm)
def jz (a b:qc):Bool:=if a.S=b.S then (if ZI a.V=ZI b.V then ltB a.V b.V else ltD (ZI a.V) (ZI b.V)) else slB a.S b.S
def cJ (a b:qc):qc:=if jz a b=true then b else a
def mxS (a b:qd):qd:=if slB a b=true then b else a
theorem WR (a b:qd):(slB a b=true∧slB b a=false)∨a=b∨(slB b a=true∧slB a b=false):=by
 obtain ⟨a1,a2⟩:=a
 obtain ⟨b1,b2⟩:=b
 unfold slB
 simp only [decide_eq_true_iff,decide_eq_false_iff_not,Prod.mk.injEq]
 omega
theorem QZ (a:qd):slB a a=false:=by
 unfold slB
 exact decide_eq_false (by omega)
theorem KC {a b c:qd} (h1:slB a b=true) (h2:slB b c=true):slB a c=true:=by
 unfold slB at *
 rw [decide_eq_true_iff] at *
 omega
end Go.Rx
end
set_option maxRecDepth 100000
noncomputable section
namespace Go.Rx
open Go.Proofs
section n
variable {N:Nat} [Jn N]
def qE4:Option Nat→Int
 | some i=>(i:Int)
 | none=>-1
theorem qD4 {p:Nat→Bool} {n i:Nat} (h:ZM p n 0=some i):i < n∧p i=true:=by
 obtain ⟨h1,_,h2,_⟩:=qfp h
 exact ⟨by omega,h1⟩
end n
end Go.Rx
end
set_option maxRecDepth 100000
noncomputable section
namespace Go.Rx
open Go.Proofs
section n
variable {N:Nat} [Jn N]
theorem qvx (r:qa):∃ b,vg N r=some b:=by
 unfold vg Wm
 by_cases h:r.F.length≤12
 ·have d:decide ((12:Int) < ((r.F.length:Nat):Int))=false:=decide_eq_false (by omega)
  have key:XG N r 0=some (if Jq (fun k=>decide ((r.F.getD k zF).C.V.length≤300)) r.F.length then .inr (((r.F.length:Nat):Int),false) else .inl ()):=by
   refine Kh (B:=ZC N r) (g:=some) (q:=fun k=>decide ((r.F.getD k zF).C.V.length≤300)) (fun k hk=>?_) ?_ (by have:=big N; omega)
   ·unfold ZC
    have e:decide ((300:Int) < (((r.F.getD k zF).C.V.length:Nat):Int))=!decide ((r.F.getD k zF).C.V.length≤300):=qAz (c:=300)
    rw [qE,dec_lt hk,cond_true,run_bind,v3 (d:=zF) hk,Option.bind_some,qE,qP,e,zr,qj (show qx ((k:Int) + 1) by unfold qx; omega),qP,zD]
    cases decide ((r.F.getD k zF).C.V.length≤300)<;>rfl
   ·unfold ZC
    rw [qE,vq (Nat.lt_irrefl _),cond_false,qP]
  rw [qE,d,cond_false,run_bind,key,Option.bind_some]
  cases Jq (fun k=>decide ((r.F.getD k zF).C.V.length≤300)) r.F.length
  ·exact ⟨_,rfl⟩
  ·exact ⟨_,rfl⟩
 ·have d:decide ((12:Int) < ((r.F.length:Nat):Int))=true:=decide_eq_true (by omega)
  exact ⟨false,by rw [qE,d,cond_true,qP]⟩
theorem qCX (b:qe):∃ x,VN N b=some x:=by
 unfold VN WC
 by_cases h:b.R.length≤14
 ·have d:decide ((14:Int) < ((b.R.length:Nat):Int))=false:=decide_eq_false (by omega)
  have key:XI N b 0=some (if Jq (fun k=>(vg N (b.R.getD k zR)).getD false) b.R.length then .inr (((b.R.length:Nat):Int),false) else .inl ()):=by
   refine Kh (B:=Zv N b) (g:=some) (q:=fun k=>(vg N (b.R.getD k zR)).getD false) (fun k hk=>?_) ?_ (by have:=big N; omega)
   ·obtain ⟨x,e⟩:=qvx (N:=N) (b.R.getD k zR)
    unfold Zv
    rw [qE,dec_lt hk,cond_true,run_bind,v3 (d:=zR) hk,Option.bind_some,run_bind,e,Option.bind_some,qE,qP,zr,qj (show qx ((k:Int) + 1) by unfold qx; omega),qP,zD]
    cases x<;>rfl
   ·unfold Zv
    rw [qE,vq (Nat.lt_irrefl _),cond_false,qP]
  rw [qE,d,cond_false,run_bind,key,Option.bind_some]
  cases Jq (fun k=>(vg N (b.R.getD k zR)).getD false) b.R.length
  ·exact ⟨_,rfl⟩
  ·exact ⟨_,rfl⟩
 ·have d:decide ((14:Int) < ((b.R.length:Nat):Int))=true:=decide_eq_true (by omega)
  exact ⟨false,by rw [qE,d,cond_true,qP]⟩
end n
theorem qqd:∀ l:List qa,∃ M:Nat,∀ k,k < l.length→(l.getD k zR).F.length≤M
 | []=>⟨0,fun k hk=>by simp at hk⟩
 | r::l=>by
  obtain ⟨M,h⟩:=qqd l
  refine ⟨r.F.length + M,fun k hk=>?_⟩
  cases k with
  | zero=>simp
  | succ k=>
   have:=h k (by simpa using hk)
   simp only [List.getD_cons_succ]; omega
theorem qEP (b:qe) (h1:b.R.length≤4611686018427387904) (h2:∀ k,k < b.R.length→(b.R.getD k zR).F.length≤4611686018427387904):∃ M:Nat,∀ N,M≤N→Qo N b:=by
 obtain ⟨M,h⟩:=qqd b.R
 refine ⟨M + b.R.length + 1,fun N hN=>⟨by omega,h1,fun k hk=>⟨by have:=h k hk; omega,h2 k hk⟩⟩⟩
end Go.Rx
end
set_option maxRecDepth 100000
noncomputable section
namespace Go.Rx
open Go.Proofs
def qmu (l:List qa) (id:Vector UInt8 16):Option Nat:=ZM (fun k=>decide ((l.getD k zR).ID=id)) l.length 0
def recAt (b:qe) (id:Vector UInt8 16):qa×Bool:=match qmu b.R id with
 | some i=>(b.R.getD i zR,true)
 | none=>(zR,false)
end Go.Rx
end
set_option maxRecDepth 100000
noncomputable section
namespace Go.Rx
open Go.Proofs
theorem qy7 {α:Type} {d:α} {l:List α} {k:Nat} (h:k < l.length):l.drop k=l.getD k d::l.drop (k + 1):=by
 rw [List.drop_eq_getElem_cons h,List.getD_eq_getElem?_getD,List.getElem?_eq_getElem h]; rfl
theorem qnz {α:Type} {p:α→Bool} {d:α} {l:List α}:∀ {m k:Nat},k + m=l.length→(ZM (fun j=>p (l.getD j d)) m k).map (fun i=>l.getD i d)=(l.drop k).find? p
 | 0,k,h=>by rw [List.drop_of_length_le (by omega)]; rfl
 | m + 1,k,h=>by
  rw [qy7 (d:=d) (by omega),List.find?_cons]
  unfold ZM
  cases hp:p (l.getD k d) with
  | true=>rw [if_pos rfl]; rfl
  | false=>rw [if_neg (by simp)]; exact qnz (by omega)
def cO (l:List qb) (no:Int):Option qc:=(l.find? fun f=>decide (f.No=no)).map fun f=>f.C
theorem qfW {no:Int}:cO [] no=none:=rfl
theorem Jw {f:qb} {l:List qb} {no:Int}:cO (f::l) no=if f.No=no then some f.C else cO l no:=by
 unfold cO
 rw [List.find?_cons]
 by_cases h:f.No=no
 ·rw [decide_eq_true h,if_pos h]; rfl
 ·rw [decide_eq_false h,if_neg h]
theorem Kv {l:List qb} {no:Int} {c:qc} (h:cO l no=some c):∃ f,f∈l∧f.No=no∧f.C=c:=by
 unfold cO at h
 obtain ⟨f,h1,h2⟩:=Option.map_eq_some_iff.1 h
 exact ⟨f,List.mem_of_find?_eq_some h1,of_decide_eq_true (List.find?_some (p:=fun f:qb=>decide (f.No=no)) h1),h2⟩
def jC:Option qc→Option qc→Option qc
 | some x,some y=>some (cJ x y)
 | some x,none=>some x
 | none,y=>y
def JO (g:Int→Option qc) (f:qb) (no:Int):Option qc:=if f.No=no then jC (g no) (some f.C) else g no
theorem qsN {g:Int→Option qc} {f:qb} {no:Int}:JO g f no=if f.No=no then jC (g no) (some f.C) else g no:=rfl
theorem qoF:∀ {l:List qb} {g:Int→Option qc} {no:Int},(l.map fun f=>f.No).Nodup→l.foldl JO g no=jC (g no) (cO l no)
 | [],g,no,_=>by rw [qfW]; show g no=_; cases g no<;>rfl
 | f::l,g,no,h=>by
  rw [List.map_cons,List.nodup_cons] at h
  rw [List.foldl_cons,qoF h.2,Jw]
  unfold JO
  by_cases e:f.No=no
  ·rw [if_pos e,if_pos e]
   have:cO l no=none:=by
    cases hc:cO l no with
    | none=>rfl
    | some c=>
     obtain ⟨x,hx,hx2,_⟩:=Kv hc
     exact (h.1 (List.mem_map.2 ⟨x,hx,by rw [hx2,e]⟩)).elim
   rw [this]
   cases g no<;>rfl
  ·rw [if_neg e,if_neg e]
def Wo (no:Int) (M:List (Int×qc×Nat)):Option qc:=(fnd (β:=qc) (.i .i64) no M).map (·.1)
theorem quc {q k:Int} {p:qc} {c:Nat} {M:List (Int×qc×Nat)}:Wo q (Ql (β:=qc) (.i .i64) k p c M).2=if q=k then some p else Wo q M:=by
 have:=@qmm (El (.i .i64)) qc (JX (.i .i64)) k q p c M
 rw [show Wo q (Ql (β:=qc) (.i .i64) k p c M).2=@qmt (El (.i .i64)) qc (JX (.i .i64)) q (@qcS (El (.i .i64)) qc (JX (.i .i64)) k p c M).2 from rfl,this]
 by_cases h:q=k
 ·rw [if_pos h]; exact if_pos h
 ·rw [if_neg h]; exact if_neg h
def qdY (dead:qd) (k:Nat):Option qc→List qb
 | some c=>if slB dead c.S=true then [qb.mk (k:Int) c] else []
 | none=>[]
def QJ (g:Int→Option qc) (dead:qd):Nat→Nat→List qb
 | 0,_=>[]
 | m + 1,k=>qdY dead k (g (k:Int))++QJ g dead m (k + 1)
theorem qio {g:Int→Option qc} {dead:qd}:∀ {m k:Nat} {s:List qb},JG (fun k s=>s++qdY dead k (g (k:Int))) m k s=s++QJ g dead m k
 | 0,_,s=>by unfold JG QJ; rw [List.append_nil]
 | m + 1,k,s=>by
  unfold JG QJ
  rw [qio,List.append_assoc]
theorem qqk {dead:qd} {k:Nat} {c:Option qc}:(qdY dead k c).length≤1:=by
 cases c with
 | none=>exact Nat.zero_le _
 | some c=>
  show (if slB dead c.S=true then [qb.mk (k:Int) c] else []).length≤1
  by_cases h:slB dead c.S=true
  ·rw [if_pos h]; exact Nat.le_refl _
  ·rw [if_neg h]; exact Nat.zero_le _
def rJ (a b:qa):qa:=qa.mk a.ID (mxS a.qQ b.qQ) (QJ (fun no=>jC (cO a.F no) (cO b.F no)) (mxS a.qQ b.qQ) 8 0)
theorem qti {r:qa} (h:zY r=true):(r.F.map fun f=>f.No).Nodup:=by
 have hlt:∀ (d a:Nat),a + d + 1 < r.F.length→(r.F.getD a zF).No < (r.F.getD (a + d + 1) zF).No:=by
  intro d
  induction d with
  | zero=>
   intro a ha
   have:=(V4.1 ((Wq.1 h).2.2 (a + 0 + 1) ha)).1
   rw [if_neg (by omega),show a + 0 + 1 - 1=a by omega] at this
   exact this
  | succ d ih=>
   intro a ha
   have h1:=ih a (by omega)
   have:=(V4.1 ((Wq.1 h).2.2 (a + (d + 1) + 1) ha)).1
   rw [if_neg (by omega),show a + (d + 1) + 1 - 1=a + d + 1 by omega] at this
   omega
 rw [List.nodup_iff_pairwise_ne,List.pairwise_iff_getElem]
 intro i j hi hj hij
 rw [List.length_map] at hi hj
 have:=hlt (j - i - 1) i (by omega)
 rw [show i + (j - i - 1) + 1=j by omega,List.getD_eq_getElem?_getD,List.getD_eq_getElem?_getD,List.getElem?_eq_getElem hi,List.getElem?_eq_getElem hj] at this
 rw [List.getElem_map,List.getElem_map]
 show r.F[i].No≠r.F[j].No
 have:r.F[i].No < r.F[j].No:=this
 omega
def qcq (g:Int→Option qc):Prop:=∀ no c,g no=some c→c.V.length≤200
theorem qCG (a b:qc):cJ a b=a∨cJ a b=b:=by
 unfold cJ
 split
 ·exact .inr rfl
 ·exact .inl rfl
theorem qxD {g:Int→Option qc} {f:qb} (hg:qcq g) (hf:f.C.V.length≤200):qcq (JO g f):=by
 intro no c h
 unfold JO at h
 split at h
 ·cases e:g no with
  | none=>rw [e] at h; obtain rfl:=Option.some.inj h; exact hf
  | some x=>
   rw [e] at h
   obtain rfl:=Option.some.inj h
   rcases qCG x f.C with h1 | h1
   ·rw [h1]; exact hg no x e
   ·rw [h1]; exact hf
 ·exact hg no c h
end Go.Rx
end
set_option maxRecDepth 100000
noncomputable section
namespace Go.Rx
open Go.Proofs
open Go.Lib (compareBytes)
theorem qiz {a b c:Vector UInt8 16} (h1:lbB a b=true) (h2:lbB b c=true):lbB a c=true:=by
 rw [qkp] at *; exact qi8 h1 h2
theorem qDw (a b:Vector UInt8 16):(lbB a b=true∧lbB b a=false)∨a=b∨(lbB b a=true∧lbB a b=false):=by
 rw [qkp,qkp]
 rcases qcH a.toList b.toList with h | h | h
 ·exact .inl h
 ·exact .inr (.inl (Vector.toList_inj.1 h))
 ·exact .inr (.inr h)
end Go.Rx
end
set_option maxRecDepth 100000
noncomputable section
namespace Go.Rx
open Go.Proofs
theorem qcN {α:Type} {l:List α} {d:α} {P:α→Prop}:(∀ k,k < l.length→P (l.getD k d))↔∀ x∈l,P x:=by
 constructor
 ·intro h x hx
  obtain ⟨i,hi,rfl⟩:=List.getElem_of_mem hx
  have:=h i hi
  rw [List.getD_eq_getElem?_getD,List.getElem?_eq_getElem hi] at this
  exact this
 ·intro h k hk
  rw [List.getD_eq_getElem?_getD,List.getElem?_eq_getElem hk]
  exact h _ (List.getElem_mem hk)
theorem qd3 {α:Type} {R:α→α→Prop} (ht:∀ a b c,R a b→R b c→R a c) {d:α} {l:List α}:(∀ k,k + 1 < l.length→R (l.getD k d) (l.getD (k + 1) d))↔l.Pairwise R:=by
 have gd:∀ k (h:k < l.length),l.getD k d=l[k]:=fun k h=>by rw [List.getD_eq_getElem?_getD,List.getElem?_eq_getElem h]; rfl
 rw [List.pairwise_iff_getElem]
 constructor
 ·intro h i j hi hj hij
  have key:∀ m,∀ hm:i + m + 1 < l.length,R l[i] l[i + m + 1]:=by
   intro m
   induction m with
   | zero=>
    intro hm
    have:=h i hm
    rw [gd i hi,gd (i + 1) hm] at this; exact this
   | succ m ih=>
    intro hm
    have h1:=ih (by omega)
    have h2:=h (i + m + 1) hm
    rw [gd (i + m + 1) (by omega),gd (i + m + 1 + 1) hm] at h2
    exact ht _ _ _ h1 h2
  have:=key (j - i - 1) (by omega)
  have e:i + (j - i - 1) + 1=j:=by omega
  simp only [e] at this
  exact this
 ·intro h k hk
  rw [gd k (by omega),gd (k + 1) hk]
  exact h k (k + 1) (by omega) hk (by omega)
abbrev qfE (l:List qb):Prop:=l.Pairwise fun f g=>f.No < g.No
theorem WI {r:qa}:zY r=true↔stB r.qQ=true∧(r.F≠[]∨r.qQ≠zSt)∧qfE r.F∧∀ f∈r.F,0≤f.No∧f.No < 8∧KZ f.C=true∧slB r.qQ f.C.S=true:=by
 have hne:r.F.length≠0↔r.F≠[]:=by
  rw [Ne,Ne,List.length_eq_zero_iff]
 constructor
 ·intro h
  have hr:=Wq.1 h
  refine ⟨hr.1,hr.2.1.imp hne.1 id,(qd3 (R:=fun f g:qb=>f.No < g.No) (fun a b c h1 h2=>Int.lt_trans h1 h2) (d:=zF)).1 fun k hk=>?_,(qcN (d:=zF)).1 fun k hk=>?_⟩
  ·have:=(V4.1 (hr.2.2 (k + 1) hk)).1
   rw [if_neg (by omega)] at this
   exact this
  ·have h1:=V4.1 (hr.2.2 k hk)
   have h2:=qt3 h k hk
   exact ⟨by omega,h1.2.1,h1.2.2.1,h1.2.2.2⟩
 ·rintro ⟨h1,h2,h3,h4⟩
  refine Wq.2 ⟨h1,h2.imp hne.2 id,fun k hk=>V4.2 ⟨?_,?_⟩⟩
  ·by_cases h0:k=0
   ·rw [if_pos h0]; exact ((qcN (d:=zF)).2 h4 k hk).1
   ·rw [if_neg h0]
    have:=(qd3 (R:=fun f g:qb=>f.No < g.No) (fun a b c h1 h2=>Int.lt_trans h1 h2) (d:=zF)).2 h3 (k - 1) (by omega)
    rw [show k - 1 + 1=k by omega] at this
    exact this
  ·have:=(qcN (d:=zF)).2 h4 k hk
   exact this.2
theorem K2 {g:Int→Option qc} {dead:qd}:∀ {m k:Nat} {f:qb},f∈QJ g dead m k→(k:Int)≤f.No∧f.No < ((k + m:Nat):Int)∧g f.No=some f.C∧slB dead f.C.S=true
 | 0,_,_,h=>absurd h List.not_mem_nil
 | m + 1,k,f,h=>by
  unfold QJ at h
  rcases List.mem_append.1 h with h | h
  ·cases e:g (k:Int) with
   | none=>rw [e] at h; exact absurd h List.not_mem_nil
   | some c=>
    rw [e] at h
    have h:f∈(if slB dead c.S=true then [qb.mk (k:Int) c] else []):=h
    split at h
    ·rename_i hs
     obtain rfl:=List.mem_singleton.1 h
     exact ⟨Int.le_refl _,by show (k:Int) < _; omega,e,hs⟩
    ·exact absurd h List.not_mem_nil
  ·have:=K2 h
   exact ⟨by omega,by omega,this.2.2⟩
theorem qhC {g:Int→Option qc} {dead:qd}:∀ {m k:Nat},qfE (QJ g dead m k)
 | 0,_=>List.Pairwise.nil
 | m + 1,k=>by
  unfold QJ
  refine List.pairwise_append.2 ⟨?_,qhC,fun a ha b hb=>?_⟩
  ·have:=qqk (dead:=dead) (k:=k) (c:=g (k:Int))
   match hk:qdY dead k (g (k:Int)),this with
   | [],_=>exact List.Pairwise.nil
   | [x],_=>exact List.pairwise_singleton _ _
  ·have h1:=K2 hb
   cases e:g (k:Int) with
   | none=>rw [e] at ha; exact absurd ha List.not_mem_nil
   | some c=>
    rw [e] at ha
    have ha:a∈(if slB dead c.S=true then [qb.mk (k:Int) c] else []):=ha
    split at ha
    ·obtain rfl:=List.mem_singleton.1 ha
     show (k:Int) < b.No
     omega
    ·exact absurd ha List.not_mem_nil
theorem qy1 {l:List qb} (h:qfE l) {f:qb} (hf:f∈l):cO l f.No=some f.C:=by
 induction l with
 | nil=>exact absurd hf List.not_mem_nil
 | cons x l ih=>
  rw [Jw]
  have hp:=List.pairwise_cons.1 h
  rcases List.mem_cons.1 hf with rfl | hf
  ·rw [if_pos rfl]
  ·have:=hp.1 f hf
   rw [if_neg (by omega),ih hp.2 hf]
theorem qgh {r:qa} (h:zY r=true) {no:Int} {c:qc} (hc:cO r.F no=some c):0≤no∧no < 8∧KZ c=true∧slB r.qQ c.S=true:=by
 obtain ⟨f,hf,rfl,rfl⟩:=Kv hc
 exact (WI.1 h).2.2.2 f hf
theorem qzX {g:Int→Option qc} {dead:qd} {no:Int} (h0:0≤no) (h8:no < 8):cO (QJ g dead 8 0) no=(g no).filter fun c=>slB dead c.S:=by
 have key:∀ (m k:Nat),(k:Int)≤no→no < ((k + m:Nat):Int)→cO (QJ g dead m k) no=(g no).filter fun c=>slB dead c.S:=by
  intro m
  induction m with
  | zero=>intro k h1 h2; omega
  | succ m ih=>
   intro k h1 h2
   unfold QJ
   have app:∀ (a b:List qb),cO (a++b) no=(cO a no).or (cO b no):=by
    intro a b
    unfold cO
    rw [List.find?_append]
    cases List.find? (fun f:qb=>decide (f.No=no)) a<;>rfl
   rw [app]
   by_cases e:no=(k:Int)
   ·subst e
    have hn:cO (QJ g dead m (k + 1)) (k:Int)=none:=by
     cases hc:cO (QJ g dead m (k + 1)) (k:Int) with
     | none=>rfl
     | some c=>
      obtain ⟨f,hf,h3,_⟩:=Kv hc
      have:=(K2 hf).1
      omega
    rw [hn]
    cases hg:g (k:Int) with
    | none=>rfl
    | some c=>
     show (cO (if slB dead c.S=true then [qb.mk (k:Int) c] else []) (k:Int)).or none=_
     rw [Option.or_none]
     by_cases hs:slB dead c.S=true
     ·rw [if_pos hs,Jw,if_pos (show (qb.mk (k:Int) c).No=(k:Int) from rfl),Option.filter_some,if_pos hs]; rfl
     ·rw [if_neg hs,qfW,Option.filter_some,if_neg hs]
   ·have hn : cO (qdY dead k (g (k : Int))) no = none := by
       cases hg:g (k:Int) with
       | none=>rfl
       | some c=>
        show cO (if slB dead c.S=true then [qb.mk (k:Int) c] else []) no=none
        by_cases hs:slB dead c.S=true
        ·rw [if_pos hs,Jw,if_neg (fun h=>e h.symm),qfW]
        ·rw [if_neg hs,qfW]
    rw [hn,Option.none_or,ih (k + 1) (by omega) (by omega)]
 exact key 8 0 (by omega) (by omega)
theorem qD3 (a b:qd):mxS a b=a∨mxS a b=b:=by
 unfold mxS
 split
 ·exact .inr rfl
 ·exact .inl rfl
theorem qtI {s:qd} (h:stB s=true) (hz:s≠zSt):slB zSt s=true:=by
 unfold stB at h
 rw [decide_eq_false hz] at h
 simp only [Bool.false_or,Bool.and_eq_true,decide_eq_true_iff] at h
 unfold slB
 exact decide_eq_true (.inl h.1.1.1)
theorem qE7 {x y:qc}:slB (cJ x y).S x.S=false∧slB (cJ x y).S y.S=false:=by
 unfold cJ
 by_cases h:jz x y=true
 ·rw [if_pos h]
  unfold jz at h
  by_cases e:x.S=y.S
  ·rw [e]; exact ⟨QZ _,QZ _⟩
  ·rw [if_neg e] at h
   rcases WR x.S y.S with h1 | h1 | h1
   ·exact ⟨h1.2,QZ _⟩
   ·exact (e h1).elim
   ·rw [h] at h1; simp at h1
 ·rw [if_neg h]
  unfold jz at h
  by_cases e:x.S=y.S
  ·rw [e]; exact ⟨QZ _,QZ _⟩
  ·rw [if_neg e] at h
   rcases WR x.S y.S with h1 | h1 | h1
   ·exact (h h1.1).elim
   ·exact (e h1).elim
   ·exact ⟨QZ _,h1.2⟩
theorem qEp {a b c:qd} (h1:slB b a=false) (h2:slB c a=true):slB c b=true:=by
 rcases WR a b with h | h | h
 ·exact KC h2 h.1
 ·subst h; exact h2
 ·rw [h1] at h; simp at h
theorem qtm {a b:qa} (ha:zY a=true) (hb:zY b=true) {no:Int} {c:qc} (h:jC (cO a.F no) (cO b.F no)=some c):0≤no∧no < 8∧KZ c=true:=by
 cases ea:cO a.F no with
 | none=>
  rw [ea] at h
  cases eb:cO b.F no with
  | none=>rw [eb] at h; cases h
  | some y=>
   rw [eb] at h
   obtain rfl:=Option.some.inj h
   have:=qgh hb eb; exact ⟨this.1,this.2.1,this.2.2.1⟩
 | some x=>
  have hx:=qgh ha ea
  rw [ea] at h
  cases eb:cO b.F no with
  | none=>
   rw [eb] at h
   obtain rfl:=Option.some.inj h
   exact ⟨hx.1,hx.2.1,hx.2.2.1⟩
  | some y=>
   have hy:=qgh hb eb
   rw [eb] at h
   obtain rfl:=Option.some.inj h
   refine ⟨hx.1,hx.2.1,?_⟩
   rcases qCG x y with e | e
   ·rw [e]; exact hx.2.2.1
   ·rw [e]; exact hy.2.2.1
theorem qw1 (a b:qa):(rJ a b).F=QJ (fun no=>jC (cO a.F no) (cO b.F no)) (mxS a.qQ b.qQ) 8 0:=rfl
theorem qdX {a b:qa} (ha:zY a=true) (hb:zY b=true) (no:Int):cO (rJ a b).F no=(jC (cO a.F no) (cO b.F no)).filter fun c=>slB (mxS a.qQ b.qQ) c.S:=by
 by_cases h:0≤no∧no < 8
 ·rw [qw1,qzX h.1 h.2]
 ·have e1 : jC (cO a.F no) (cO b.F no) = none := by
     cases e:jC (cO a.F no) (cO b.F no) with
     | none=>rfl
     | some c=>have:=qtm ha hb e; exact (h ⟨this.1,this.2.1⟩).elim
  rw [e1]
  cases e:cO (rJ a b).F no with
  | none=>rfl
  | some c=>
   obtain ⟨f,hf,h3,_⟩:=Kv e
   rw [qw1] at hf
   have:=K2 (m:=8) (k:=0) hf
   exact (h ⟨by omega,by omega⟩).elim
theorem qEQ (a b:qa):(rJ a b).ID=a.ID:=rfl
theorem qkg (a b:qa):(rJ a b).qQ=mxS a.qQ b.qQ:=rfl
theorem qz9 {a b:qd} (ha:stB a=true) (hb:stB b=true) (h:mxS a b=zSt):a=zSt∧b=zSt:=by
 by_cases e:b=zSt
 ·subst e
  unfold mxS at h
  by_cases hs:slB a zSt=true
  ·exfalso
   by_cases ea:a=zSt
   ·subst ea; rw [QZ] at hs; simp at hs
   ·have:=KC (qtI ha ea) hs
    rw [QZ] at this; simp at this
  ·rw [if_neg hs] at h; exact ⟨h,rfl⟩
 ·exfalso
  unfold mxS at h
  by_cases hs:slB a b=true
  ·rw [if_pos hs] at h; exact e h
  ·rw [if_neg hs] at h
   subst h
   exact hs (qtI hb e)
theorem ZD {a b:qa} (ha:zY a=true) (hb:zY b=true):zY (rJ a b)=true:=by
 have hA:=WI.1 ha
 have hB:=WI.1 hb
 refine WI.2 ⟨?_,?_,by rw [qw1]; exact qhC,fun f hf=>?_⟩
 ·rw [qkg]
  rcases qD3 a.qQ b.qQ with e | e
  ·rw [e]; exact hA.1
  ·rw [e]; exact hB.1
 ·by_cases hz:(rJ a b).qQ=zSt
  ·left
   intro hF
   obtain ⟨za,zb⟩:=qz9 hA.1 hB.1 hz
   have hne:a.F≠[]:=hA.2.1.resolve_right (fun h=>h za)
   obtain ⟨f,l,e⟩:=List.exists_cons_of_ne_nil hne
   have hf:f∈a.F:=by rw [e]; exact List.mem_cons_self ..
   have hca:=qy1 hA.2.2.1 hf
   have hfl:=(hA.2.2.2 f hf).2.2.2
   have hn:cO (rJ a b).F f.No=none:=by rw [hF]; rfl
   rw [qdX ha hb,hca] at hn
   rw [qkg] at hz
   rw [hz] at hn
   rw [za] at hfl
   cases hcb:cO b.F f.No with
   | none=>
    rw [hcb] at hn
    have hn:(some f.C).filter (fun c=>slB zSt c.S)=none:=hn
    rw [Option.filter_some,if_pos hfl] at hn; cases hn
   | some y=>
    rw [hcb] at hn
    have hn:(some (cJ f.C y)).filter (fun c=>slB zSt c.S)=none:=hn
    rw [Option.filter_some,if_pos (qEp qE7.1 hfl)] at hn; cases hn
  ·exact .inr hz
 ·rw [qw1] at hf
  have h1:=K2 (m:=8) (k:=0) hf
  have h2:=qtm ha hb h1.2.2.1
  exact ⟨h2.1,h2.2.1,h2.2.2,h1.2.2.2⟩
theorem qox:∀ {l l':List qb},qfE l→qfE l'→(∀ no,cO l no=cO l' no)→l=l'
 | [],[],_,_,_=>rfl
 | [],y::l',_,h',h=>by
  have:=h y.No
  rw [qfW,Jw,if_pos rfl] at this; cases this
 | x::l,[],hl,_,h=>by
  have:=h x.No
  rw [qfW,Jw,if_pos rfl] at this; cases this
 | x::l,y::l',hl,hl',h=>by
  have pl:=List.pairwise_cons.1 hl
  have pl':=List.pairwise_cons.1 hl'
  have hno:x.No=y.No:=by
   have h1:=h x.No
   rw [Jw,if_pos rfl] at h1
   have h2:=h y.No
   rw [Jw (f:=y),if_pos rfl] at h2
   obtain ⟨f,hf,e,_⟩:=Kv h1.symm
   obtain ⟨g,hg,e',_⟩:=Kv h2
   rcases List.mem_cons.1 hf with rfl | hf
   ·exact e.symm
   ·rcases List.mem_cons.1 hg with rfl | hg
    ·exact e'
    ·have:=pl'.1 f hf
     have:=pl.1 g hg
     omega
  have hc:x.C=y.C:=by
   have h1:=h x.No
   rw [Jw,if_pos rfl,Jw,if_pos hno.symm] at h1
   exact Option.some.inj h1
  have hxy:x=y:=by
   obtain ⟨n,c⟩:=x
   obtain ⟨n',c'⟩:=y
   have hno:n=n':=hno
   have hc:c=c':=hc
   rw [hno,hc]
  subst hxy
  rw [qox pl.2 pl'.2 fun no=>?_]
  by_cases e:x.No=no
  ·have n1 : cO l no = none := by
      cases hc:cO l no with
      | none=>rfl
      | some c=>
       obtain ⟨f,hf,e',_⟩:=Kv hc
       have:=pl.1 f hf; omega
   have n2:cO l' no=none:=by
    cases hc:cO l' no with
    | none=>rfl
    | some c=>
     obtain ⟨f,hf,e',_⟩:=Kv hc
     have:=pl'.1 f hf; omega
   rw [n1,n2]
  ·have:=h no
   rw [Jw,Jw,if_neg e,if_neg e] at this; exact this
theorem qpr {r s:qa} (hr:zY r=true) (hs:zY s=true) (h1:r.ID=s.ID) (h2:r.qQ=s.qQ) (h3:∀ no,cO r.F no=cO s.F no):r=s:=by
 have:=qox (WI.1 hr).2.2.1 (WI.1 hs).2.2.1 h3
 obtain ⟨a,b,c⟩:=r
 obtain ⟨a',b',c'⟩:=s
 have h1:a=a':=h1
 have h2:b=b':=h2
 have this:c=c':=this
 rw [h1,h2,this]
def rO (l:List qa) (id:Vector UInt8 16):Option qa:=l.find? fun r=>decide (r.ID=id)
theorem qt1 {id:Vector UInt8 16}:rO [] id=none:=rfl
theorem Vh {r:qa} {l:List qa} {id:Vector UInt8 16}:rO (r::l) id=if r.ID=id then some r else rO l id:=by
 unfold rO
 rw [List.find?_cons]
 by_cases h:r.ID=id
 ·rw [decide_eq_true h,if_pos h]
 ·rw [decide_eq_false h,if_neg h]
theorem QB {l:List qa} {id:Vector UInt8 16} {r:qa} (h:rO l id=some r):r∈l∧r.ID=id:=
 ⟨List.mem_of_find?_eq_some h,of_decide_eq_true (List.find?_some (p:=fun r:qa=>decide (r.ID=id)) h)⟩
theorem qEB {l:List qa} {id:Vector UInt8 16}:(qmu l id).map (fun i=>l.getD i zR)=rO l id:=by
 unfold qmu rO
 have:=qnz (p:=fun r:qa=>decide (r.ID=id)) (d:=zR) (l:=l) (m:=l.length) (k:=0) (by omega)
 rw [List.drop_zero] at this
 exact this
abbrev Kn (l:List qa):Prop:=l.Pairwise fun a b=>lbB a.ID b.ID=true
def qoj (l:List qa):Prop:=Kn l∧∀ r∈l,zY r=true
theorem ZW {b:qe}:je b=true↔qoj b.R∧b.R.length≤10:=by
 rw [qi5]
 refine and_congr ?_ Iff.rfl
 have ht:∀ a b c:qa,lbB a.ID b.ID=true→lbB b.ID c.ID=true→lbB a.ID c.ID=true:=fun _ _ _ h1 h2=>qiz h1 h2
 constructor
 ·intro h
  refine ⟨(qd3 (R:=fun a b:qa=>lbB a.ID b.ID=true) ht (d:=zR)).1 fun k hk=>?_,(qcN (d:=zR)).1 fun k hk=>(h k hk).1⟩
  rcases (h (k + 1) hk).2 with e | e
  ·omega
  ·exact e
 ·rintro ⟨h1,h2⟩ k hk
  refine ⟨(qcN (d:=zR)).2 h2 k hk,?_⟩
  by_cases h0:k=0
  ·exact .inl h0
  ·have:=(qd3 (R:=fun a b:qa=>lbB a.ID b.ID=true) ht (d:=zR)).2 h1 (k - 1) (by omega)
   rw [show k - 1 + 1=k by omega] at this
   exact .inr this
theorem qqn {l:List qa} (h:Kn l) {r:qa} (hr:r∈l):rO l r.ID=some r:=by
 induction l with
 | nil=>exact absurd hr List.not_mem_nil
 | cons x l ih=>
  rw [Vh]
  have hp:=List.pairwise_cons.1 h
  rcases List.mem_cons.1 hr with rfl | hr
  ·rw [if_pos rfl]
  ·have:=hp.1 r hr
   rw [if_neg (fun e=>by rw [e,qaW] at this; cases this),ih hp.2 hr]
theorem qt8:∀ {l l':List qa},Kn l→Kn l'→(∀ id,rO l id=rO l' id)→l=l'
 | [],[],_,_,_=>rfl
 | [],y::l',_,h',h=>by
  have:=h y.ID
  rw [qt1,Vh,if_pos rfl] at this; cases this
 | x::l,[],hl,_,h=>by
  have:=h x.ID
  rw [qt1,Vh,if_pos rfl] at this; cases this
 | x::l,y::l',hl,hl',h=>by
  have pl:=List.pairwise_cons.1 hl
  have pl':=List.pairwise_cons.1 hl'
  have h1:=h x.ID
  rw [Vh,if_pos rfl] at h1
  have h2:=h y.ID
  rw [Vh (r:=y),if_pos rfl] at h2
  have hxy:x=y:=by
   rcases List.mem_cons.1 (QB h1.symm).1 with e | hf
   ·exact e
   ·rcases List.mem_cons.1 (QB h2).1 with e | hg
    ·exact e.symm
    ·have a1:=pl'.1 x hf
     have a2:=pl.1 y hg
     have:=qiz a1 a2
     rw [qaW] at this; cases this
  subst hxy
  rw [qt8 pl.2 pl'.2 fun id=>?_]
  by_cases e:x.ID=id
  ·have n1 : rO l id = none := by
      cases hc:rO l id with
      | none=>rfl
      | some c=>
       have:=pl.1 c (QB hc).1
       rw [e,(QB hc).2,qaW] at this; cases this
   have n2:rO l' id=none:=by
    cases hc:rO l' id with
    | none=>rfl
    | some c=>
     have:=pl'.1 c (QB hc).1
     rw [e,(QB hc).2,qaW] at this; cases this
   rw [n1,n2]
  ·have:=h id
   rw [Vh,Vh,if_neg e,if_neg e] at this; exact this
def jR:Option qa→Option qa→Option qa
 | some x,some y=>some (rJ x y)
 | some x,none=>some x
 | none,y=>y
def qcX (a b c:List qa):Prop:=Kn c∧∀ id,rO c id=jR (rO a id) (rO b id)
theorem qwM {a b c d:List qa} (h:qcX a b c) (h':qcX a b d):c=d:=qt8 h.1 h'.1 fun id=>(h.2 id).trans (h'.2 id).symm
theorem qyn {a b c:List qa} (ha:qoj a) (hb:qoj b) (h:qcX a b c):qoj c:=by
 refine ⟨h.1,fun r hr=>?_⟩
 have e:=h.2 r.ID
 rw [qqn h.1 hr] at e
 cases ea:rO a r.ID with
 | none=>
  rw [ea] at e
  have e:some r=rO b r.ID:=e
  exact hb.2 r (QB e.symm).1
 | some x=>
  rw [ea] at e
  cases eb:rO b r.ID with
  | none=>
   rw [eb] at e
   obtain rfl:=Option.some.inj e
   exact ha.2 r (QB ea).1
  | some y=>
   rw [eb] at e
   obtain rfl:=Option.some.inj e
   exact ZD (ha.2 x (QB ea).1) (hb.2 y (QB eb).1)
end Go.Rx
end
set_option maxRecDepth 100000
noncomputable section
namespace Go.Rx
open Go.Proofs
theorem qCV {a b:qc} (h1:a.S=b.S) (h2:a.V=b.V):a=b:=by
 obtain ⟨s,v⟩:=a
 obtain ⟨s',v'⟩:=b
 have h1:s=s':=h1
 have h2:v=v':=h2
 rw [h1,h2]
theorem qDg (a b:Vector UInt8 32):(ltD a b=true∧ltD b a=false)∨a=b∨(ltD b a=true∧ltD a b=false):=by
 rcases qcH a.toList b.toList with h | h | h
 ·exact .inl h
 ·exact .inr (.inl (Vector.toList_inj.1 h))
 ·exact .inr (.inr h)
theorem qjb (a b:qc):(jz a b=true∧jz b a=false)∨a=b∨(jz b a=true∧jz a b=false):=by
 unfold jz
 by_cases h1:a.S=b.S
 ·rw [if_pos h1,if_pos h1.symm]
  by_cases h2:ZI a.V=ZI b.V
  ·rw [if_pos h2,if_pos h2.symm]
   rcases qcH a.V b.V with h | h | h
   ·exact .inl h
   ·exact .inr (.inl (qCV h1 h))
   ·exact .inr (.inr h)
  ·rw [if_neg h2,if_neg (fun h=>h2 h.symm)]
   rcases qDg (ZI a.V) (ZI b.V) with h | h | h
   ·exact .inl h
   ·exact (h2 h).elim
   ·exact .inr (.inr h)
 ·rw [if_neg h1,if_neg (fun h=>h1 h.symm)]
  rcases WR a.S b.S with h | h | h
  ·exact .inl h
  ·exact (h1 h).elim
  ·exact .inr (.inr h)
theorem qyT {a b c:Vector UInt8 32} (h1:ltD a b=true) (h2:ltD b c=true):ltD a c=true:=qi8 h1 h2
theorem qEc {a b:Vector UInt8 32} (h:ltD a b=true):a≠b:=fun e=>by subst e; unfold ltD at h; rw [Vf] at h; cases h
theorem qD1 {a b:qd} (h:slB a b=true):a≠b:=fun e=>by subst e; rw [QZ] at h; cases h
theorem qli {a b c:qc} (h1:jz a b=true) (h2:jz b c=true):jz a c=true:=by
 unfold jz at *
 by_cases e1:a.S=b.S
 ·by_cases e2:b.S=c.S
  ·rw [if_pos e1] at h1
   rw [if_pos e2] at h2
   rw [if_pos (e1.trans e2)]
   by_cases d1:ZI a.V=ZI b.V
   ·by_cases d2:ZI b.V=ZI c.V
    ·rw [if_pos d1] at h1
     rw [if_pos d2] at h2
     rw [if_pos (d1.trans d2)]
     exact qi8 h1 h2
    ·rw [if_neg d2] at h2
     rw [if_neg (fun h=>d2 (d1.symm.trans h)),d1]
     exact h2
   ·rw [if_neg d1] at h1
    by_cases d2:ZI b.V=ZI c.V
    ·rw [if_neg (fun h=>d1 (h.trans d2.symm)),← d2]
     exact h1
    ·rw [if_neg d2] at h2
     have:=qyT h1 h2
     rw [if_neg (qEc this)]
     exact this
  ·rw [if_neg e2] at h2
   rw [if_neg (fun h=>e2 (e1.symm.trans h)),e1]
   exact h2
 ·rw [if_neg e1] at h1
  by_cases e2:b.S=c.S
  ·rw [if_neg (fun h=>e1 (h.trans e2.symm)),← e2]
   exact h1
  ·rw [if_neg e2] at h2
   have:=KC h1 h2
   rw [if_neg (qD1 this)]
   exact this
theorem qyL (a:qc):jz a a=false:=by
 rcases qjb a a with h | h | h
 ·exact h.2
 ·unfold jz; rw [if_pos rfl,if_pos rfl,Vf]
 ·exact h.2
theorem qbu {a b:qc} (h:jz a b=true):cJ a b=b:=if_pos h
theorem KU {a b:qc} (h:jz a b=false):cJ a b=a:=if_neg (by rw [h]; simp)
theorem qCW (a:qc):cJ a a=a:=KU (qyL a)
theorem qCU (a b:qc):cJ a b=cJ b a:=by
 rcases qjb a b with h | h | h
 ·rw [qbu h.1,KU h.2]
 ·subst h; rfl
 ·rw [KU h.2,qbu h.1]
theorem qAJ (a b c:qc):cJ (cJ a b) c=cJ a (cJ b c):=by
 cases h1:jz a b with
 | true=>
  rw [qbu h1]
  cases h2:jz b c with
  | true=>rw [qbu h2,qbu (qli h1 h2)]
  | false=>rw [KU h2,qbu h1]
 | false=>
  rw [KU h1]
  cases h2:jz b c with
  | true=>rw [qbu h2]
  | false=>
   rw [KU h2,KU h1]
   refine KU ?_
   cases h3:jz a c with
   | false=>rfl
   | true=>
    rcases qjb a b with h | h | h
    ·rw [h1] at h; exact absurd h.1 (by simp)
    ·subst h; rw [h3] at h2; cases h2
    ·have:=qli h.1 h3; rw [h2] at this; cases this
theorem qC5 (o:Option qc):jC o o=o:=by
 cases o with
 | none=>rfl
 | some c=>exact congrArg some (qCW c)
theorem qpe (o p:Option qc):jC o p=jC p o:=by
 cases o<;>cases p<;>first | rfl | exact congrArg some (qCU _ _)
theorem qAR (o p q:Option qc):jC (jC o p) q=jC o (jC p q):=by
 cases o<;>cases p<;>cases q<;>first | rfl | exact congrArg some (qAJ _ _ _)
theorem Ku {a b:qd} (h:slB a b=true):mxS a b=b:=if_pos h
theorem WU {a b:qd} (h:slB a b=false):mxS a b=a:=if_neg (by rw [h]; simp)
theorem qmc (a:qd):mxS a a=a:=WU (QZ a)
theorem qlI (a b:qd):mxS a b=mxS b a:=by
 rcases WR a b with h | h | h
 ·rw [Ku h.1,WU h.2]
 ·subst h; rfl
 ·rw [WU h.2,Ku h.1]
theorem qp0 (a b c:qd):mxS (mxS a b) c=mxS a (mxS b c):=by
 cases h1:slB a b with
 | true=>
  rw [Ku h1]
  cases h2:slB b c with
  | true=>rw [Ku h2,Ku (KC h1 h2)]
  | false=>rw [WU h2,Ku h1]
 | false=>
  rw [WU h1]
  cases h2:slB b c with
  | true=>rw [Ku h2]
  | false=>
   rw [WU h2,WU h1]
   refine WU ?_
   cases h3:slB a c with
   | false=>rfl
   | true=>
    rcases WR a b with h | h | h
    ·rw [h1] at h; exact absurd h.1 (by simp)
    ·subst h; rw [h3] at h2; cases h2
    ·have:=KC h.1 h3; rw [h2] at this; cases this
theorem qyJ (a b:qd):slB (mxS a b) a=false:=by
 rcases WR a b with h | h | h
 ·rw [Ku h.1]; exact h.2
 ·subst h; rw [qmc,QZ]
 ·rw [WU h.2,QZ]
abbrev fl (d:qd) (o:Option qc):Option qc:=o.filter fun c=>slB d c.S
theorem qfT {d:qd} {c:qc}:fl d (some c)=if slB d c.S=true then some c else none:=by
 show Option.filter _ (some c)=_
 rw [Option.filter_some]
theorem qDi {a b:qc} (h:jz a b=false):slB a.S b.S=false:=by
 unfold jz at h
 by_cases e:a.S=b.S
 ·rw [e,QZ]
 ·rw [if_neg e] at h; exact h
theorem qmN {a b c:qd} (h1:slB a b=false) (h2:slB b c=false):slB a c=false:=by
 cases h:slB a c with
 | false=>rfl
 | true=>
  rcases WR a b with h' | h' | h'
  ·rw [h1] at h'; exact absurd h'.1 (by simp)
  ·subst h'; rw [h] at h2; cases h2
  ·have:=KC h'.1 h; rw [h2] at this; cases this
theorem qvU {d d1:qd} (hd:slB d d1=false) (u z:Option qc):fl d (jC (fl d1 u) z)=fl d (jC u z):=by
 cases u with
 | none=>rfl
 | some c=>
  rw [qfT]
  by_cases h:slB d1 c.S=true
  ·rw [if_pos h]
  ·rw [if_neg h]
   have hc:slB d c.S=false:=qmN hd (by cases e:slB d1 c.S with | false=>rfl | true=>exact (h e).elim)
   cases z with
   | none=>
    show none=fl d (some c)
    rw [qfT,if_neg (by rw [hc]; simp)]
   | some y=>
    show fl d (some y)=fl d (some (cJ c y))
    cases hl:jz c y with
    | true=>rw [qbu hl]
    | false=>
     have:slB d y.S=false:=qmN hc (qDi hl)
     rw [KU hl,qfT,qfT,if_neg (by rw [this]; simp),if_neg (by rw [hc]; simp)]
theorem qAn {d d1:qd} (hd:slB d d1=false) (u z:Option qc):fl d (jC z (fl d1 u))=fl d (jC z u):=by
 rw [qpe,qvU hd,qpe]
theorem qDL {r:qa} (h:zY r=true) (no:Int):fl r.qQ (cO r.F no)=cO r.F no:=by
 cases e:cO r.F no with
 | none=>rfl
 | some c=>rw [qfT,if_pos (qgh h e).2.2.2]
theorem qDb {r:qa} (h:zY r=true):rJ r r=r:=
 qpr (ZD h h) h rfl (qmc _) fun no=>by rw [qdX h h,qC5,qmc]; exact qDL h no
theorem qC9 {r s:qa} (h:zY r=true) (h':zY s=true) (hid:r.ID=s.ID):rJ r s=rJ s r:=
 qpr (ZD h h') (ZD h' h) hid (qlI _ _) fun no=>by rw [qdX h h',qdX h' h,qpe,qlI]
theorem qCy {r s t:qa} (h:zY r=true) (h':zY s=true) (h'':zY t=true):rJ (rJ r s) t=rJ r (rJ s t):=
 qpr (ZD (ZD h h') h'') (ZD h (ZD h' h'')) rfl (qp0 _ _ _) fun no=>by
  rw [qdX (ZD h h') h'',qdX h (ZD h' h''),qdX h h',qdX h' h'',qkg,qkg]
  have e1:=qvU (d:=mxS (mxS r.qQ s.qQ) t.qQ) (d1:=mxS r.qQ s.qQ) (qyJ _ _) (jC (cO r.F no) (cO s.F no)) (cO t.F no)
  have e2:=qAn (d:=mxS r.qQ (mxS s.qQ t.qQ)) (d1:=mxS s.qQ t.qQ) (by rw [qlI]; exact qyJ _ _) (jC (cO s.F no) (cO t.F no)) (cO r.F no)
  show fl (mxS (mxS r.qQ s.qQ) t.qQ) (jC (fl (mxS r.qQ s.qQ) (jC (cO r.F no) (cO s.F no))) (cO t.F no))=fl (mxS r.qQ (mxS s.qQ t.qQ)) (jC (cO r.F no) (fl (mxS s.qQ t.qQ) (jC (cO s.F no) (cO t.F no))))
  rw [e1,e2,qp0,qAR]
def VO (id:Vector UInt8 16) (o:Option qa):Prop:=∀ r,o=some r→zY r=true∧r.ID=id
theorem qDM {id:Vector UInt8 16}:VO id none:=fun _ h=>by cases h
theorem qCF {l:List qa} (h:∀ r∈l,zY r=true) (id:Vector UInt8 16):VO id (rO l id):=fun r hr=>⟨h r (QB hr).1,(QB hr).2⟩
theorem qrI {id:Vector UInt8 16} {o p:Option qa} (ho:VO id o) (hp:VO id p):VO id (jR o p):=by
 cases o with
 | none=>exact hp
 | some r=>
  cases p with
  | none=>exact ho
  | some s=>
   intro t ht
   obtain rfl:=Option.some.inj ht
   exact ⟨ZD (ho r rfl).1 (hp s rfl).1,(ho r rfl).2⟩
theorem qvu {id:Vector UInt8 16} {o:Option qa} (ho:VO id o):jR o o=o:=by
 cases o with
 | none=>rfl
 | some r=>exact congrArg some (qDb (ho r rfl).1)
theorem qCO {id:Vector UInt8 16} {o p:Option qa} (ho:VO id o) (hp:VO id p):jR o p=jR p o:=by
 cases o with
 | none=>cases p<;>rfl
 | some r=>
  cases p with
  | none=>rfl
  | some s=>exact congrArg some (qC9 (ho r rfl).1 (hp s rfl).1 ((ho r rfl).2.trans (hp s rfl).2.symm))
theorem qc6 {id:Vector UInt8 16} {o p q:Option qa} (ho:VO id o) (hp:VO id p) (hq:VO id q):jR (jR o p) q=jR o (jR p q):=by
 cases o with
 | none=>rfl
 | some r=>
  cases p with
  | none=>rfl
  | some s=>
   cases q with
   | none=>rfl
   | some t=>exact congrArg some (qCy (ho r rfl).1 (hp s rfl).1 (hq t rfl).1)
theorem qvF {id:Vector UInt8 16} {o p:Option qa} (ho:VO id o) (hp:VO id p):jR (jR o p) p=jR o p:=by
 rw [qc6 ho hp hp,qvu hp]
theorem qDv {id:Vector UInt8 16} {o p q:Option qa} (ho:VO id o) (hp:VO id p) (hq:VO id q):jR (jR (jR o p) q) p=jR (jR o p) q:=by
 rw [qc6 (qrI ho hp) hq hp,qCO hq hp,← qc6 (qrI ho hp) hp hq,qvF ho hp]
theorem qC8 {id:Vector UInt8 16} {o p:Option qa} (ho:VO id o) (hp:VO id p):jR o (jR o p)=jR o p:=by
 rw [← qc6 ho ho hp,qvu ho]
theorem qt_ {α:Type} [DecidableEq α]:∀ {l m:List α},l.Nodup→(∀ x∈l,x∈m)→l.length≤m.length
 | [],_,_,_=>Nat.zero_le _
 | x::l,m,h,hm=>by
  rw [List.nodup_cons] at h
  have hx:=hm x (List.mem_cons_self ..)
  have:=qt_ (l:=l) (m:=m.erase x) h.2 fun y hy=>(List.mem_erase_of_ne (fun e=>by subst e; exact h.1 hy)).2 (hm y (List.mem_cons_of_mem _ hy))
  rw [List.length_erase_of_mem hx] at this
  have hp:0 < m.length:=List.length_pos_of_mem hx
  rw [List.length_cons]; omega
theorem qzb {l:List qa} (h:Kn l):(l.map fun r=>r.ID).Nodup:=by
 rw [List.nodup_iff_pairwise_ne,List.pairwise_map]
 refine h.imp fun {a b} hab e=>?_
 rw [e,qaW] at hab; cases hab
end Go.Rx
end
set_option maxRecDepth 100000
noncomputable section
namespace Go.Rx
open Go.Proofs
open Go.Lib (compareBytes)
section g
variable {α:Type}
theorem qsf {p q:List α} {x:α} {n:Nat} (h:(p++x::q).length=n):Yl (p++x::q) n p.length=some x:=by
 unfold Yl
 rw [if_pos h,List.getElem?_append_right (Nat.le_refl _),Nat.sub_self]; rfl
theorem qpc {x y:α} {q:List α}:∀ {p:List α},(p++x::q).set p.length y=p++y::q
 | []=>rfl
 | z::p=>by
  show z::(p++x::q).set p.length y=_
  rw [qpc]; rfl
end g
def VG (rp:List (Vector UInt8 16)) (x:Vector UInt8 16) (q:List (Vector UInt8 16)):List (Vector UInt8 16):=match rp with
 | []=>x::q
 | y::r=>if lbB x y=true then VG r x (y::q) else (y::r).reverse++x::q
def vu (l:List (Vector UInt8 16)):List (Vector UInt8 16):=l.foldl (fun p x=>VG p.reverse x []) []
theorem qju {x:Vector UInt8 16}:∀ {rp q:List (Vector UInt8 16)},(VG rp x q).Perm (x::(rp++q))
 | [],q=>List.Perm.refl _
 | y::r,q=>by
  unfold VG
  split
  ·exact qju.trans (List.Perm.cons _ List.perm_middle)
  ·exact List.perm_middle.trans (List.Perm.cons _ ((List.reverse_perm _).append_right _))
theorem qqh {x:Vector UInt8 16} {s:List (Vector UInt8 16)}:∀ {rp q:List (Vector UInt8 16)},VG rp x (q++s)=VG rp x q++s
 | [],q=>rfl
 | y::r,q=>by
  unfold VG
  split
  ·exact qqh (q:=y::q)
  ·rw [List.append_assoc]; rfl
abbrev qcE (l:List (Vector UInt8 16)):Prop:=l.Pairwise fun a b=>lbB a b=true
theorem qle {x:Vector UInt8 16}:∀ {rp q:List (Vector UInt8 16)},qcE (rp.reverse++q)→(∀ y∈q,lbB x y=true)→x∉rp→qcE (VG rp x q)
 | [],q,h,hq,_=>List.pairwise_cons.2 ⟨hq,h⟩
 | y::r,q,h,hq,hx=>by
  rw [List.mem_cons,not_or] at hx
  unfold VG
  split
  ·rename_i hlt
   refine qle (rp:=r) (q:=y::q) ?_ (fun z hz=>?_) hx.2
   ·rw [List.reverse_cons,List.append_assoc] at h; exact h
   ·rcases List.mem_cons.1 hz with rfl | hz
    ·exact hlt
    ·exact hq z hz
  ·rename_i hlt
   have hyx:lbB y x=true:=by
    rcases qDw x y with h1 | h1 | h1
    ·exact (hlt h1.1).elim
    ·exact (hx.1 h1).elim
    ·exact h1.1
   obtain ⟨h1,h2,h3⟩:=List.pairwise_append.1 h
   refine List.pairwise_append.2 ⟨h1,List.pairwise_cons.2 ⟨hq,h2⟩,fun a ha b hb=>?_⟩
   have hay:lbB a x=true:=by
    rw [List.reverse_cons,List.mem_append,List.mem_singleton] at ha
    rcases ha with ha | rfl
    ·rw [List.reverse_cons] at h1
     exact qiz ((List.pairwise_append.1 h1).2.2 a ha y (List.mem_singleton.2 rfl)) hyx
    ·exact hyx
   rcases List.mem_cons.1 hb with rfl | hb
   ·exact hay
   ·exact h3 a ha b hb
theorem qpT:∀ {l p:List (Vector UInt8 16)},qcE p→(p++l).Nodup→qcE (l.foldl (fun p x=>VG p.reverse x []) p)∧(l.foldl (fun p x=>VG p.reverse x []) p).Perm (p++l)
 | [],p,h,_=>⟨h,by rw [List.append_nil]; exact List.Perm.refl _⟩
 | x::l,p,h,hn=>by
  have hp:(VG p.reverse x []).Perm (x::p):=qju.trans (List.Perm.cons _ (by rw [List.append_nil]; exact List.reverse_perm _))
  have hx:x∉p:=fun hx=>by
   have:=(List.nodup_append.1 hn).2.2 x hx x (List.mem_cons_self ..)
   exact this rfl
  have hs:qcE (VG p.reverse x []):=qle (by rw [List.reverse_reverse,List.append_nil]; exact h) (fun y hy=>absurd hy (List.not_mem_nil)) (by rw [List.mem_reverse]; exact hx)
  have hpl:(VG p.reverse x []++l).Perm (p++x::l):=(hp.append_right l).trans List.perm_middle.symm
  obtain ⟨h1,h2⟩:=qpT (l:=l) hs (hpl.nodup_iff.2 hn)
  exact ⟨h1,h2.trans hpl⟩
theorem qAW {l:List (Vector UInt8 16)} (h:l.Nodup):qcE (vu l)∧(vu l).Perm l:=by
 have:=qpT (l:=l) (p:=[]) List.Pairwise.nil (by simpa using h)
 rw [List.nil_append] at this
 exact this
section
variable {N:Nat} [Jn N]
theorem qB4 (a b:Vector UInt8 16):∃ n:Int,qdu a b=some n∧decide (n < 0)=lbB a b:=by
 refine ⟨compareBytes a.toList b.toList,rfl,?_⟩
 rw [qkp]; rfl
theorem qvt {s2 s8 : Int} : ∀ (rp : List (Vector UInt8 16)) (x : Vector UInt8 16) (q : List (Vector UInt8 16)) (n m : Nat), (rp.reverse ++ x :: q).length = n → n ≤ 1000 → rp.length < m →
    ∃ j b,qY (zP N n 0 s2 s8) some m (rp.reverse++x::q,(rp.length:Int))=some (VG rp x q,j,b)
 | _,_,_,_,0,_,_,hm=>by omega
 | [],x,q,n,m + 1,hn,hs,hm=>by
  refine ⟨((0:Nat):Int),false,?_⟩
  rw [zK (x:=(([]:List (Vector UInt8 16)).reverse++x::q,((0:Nat):Int),false)) (by unfold zP; exact w_f rfl (qZ rfl)) m]
  rfl
 | y::r,x,q,n,m + 1,hn,hs,hm=>by
  have hl:(y::r).reverse.length=r.length + 1:=by simp
  have e0:(y::r).reverse++x::q=r.reverse++y::(x::q):=by rw [List.reverse_cons,List.append_assoc]; rfl
  have hrl:r.reverse.length=r.length:=List.length_reverse
  have hnl:r.length + 1 < n:=by rw [← hn,List.length_append,hl,List.length_cons]; omega
  obtain ⟨c,hc,hlt⟩:=qB4 x y
  have c0:(0:Int)≤((r.length + 1:Nat):Int)∧((r.length + 1:Nat):Int) < ((n:Nat):Int):=by omega
  have c1:qx (((r.length + 1:Nat):Int) - 1):=by unfold qx; omega
  have c2:(0:Int)≤((r.length + 1:Nat):Int) - 1∧((r.length + 1:Nat):Int) - 1 < ((n:Nat):Int):=by omega
  have g1:Yl ((y::r).reverse++x::q) n (((r.length + 1:Nat):Int)).toNat=some x:=by
   have:=qsf (p:=(y::r).reverse) (x:=x) (q:=q) hn
   rw [hl] at this; exact this
  have t1:(((r.length + 1:Nat):Int) - 1).toNat=r.length:=by omega
  have g2:Yl ((y::r).reverse++x::q) n (((r.length + 1:Nat):Int) - 1).toNat=some y:=by
   rw [t1,e0]
   have:=qsf (p:=r.reverse) (x:=y) (q:=x::q) (n:=n) (by rw [← e0]; exact hn)
   rw [hrl] at this; exact this
  cases hb:lbB x y with
  | false=>
   refine ⟨((r.length + 1:Nat):Int),decide (c < 0),?_⟩
   rw [zK (x:=((y::r).reverse++x::q,((r.length + 1:Nat):Int),decide (c < 0))) (by
    unfold zP
    exact w_t (decide_eq_true (by show (0:Int) < ((r.length + 1:Nat):Int); omega)) (zd c0 (qI g1 (zd c1 (zd c2 (qI g2 (qI hc (w_f (hlt.trans hb) (qZ rfl)))))))) ) m]
   unfold VG
   rw [if_neg (by rw [hb]; simp)]
  | true=>
   obtain ⟨j,b,h⟩:=qvt r x (y::q) n m (by rw [← hn,e0]; simp) hs (by simp at hm; omega)
   refine ⟨j,b,?_⟩
   have s1:((y::r).reverse++x::q).set (((r.length + 1:Nat):Int)).toNat y=(y::r).reverse++y::q:=by
    have:=qpc (p:=(y::r).reverse) (x:=x) (y:=y) (q:=q)
    rw [hl] at this; exact this
   have s2:((y::r).reverse++y::q).set (((r.length + 1:Nat):Int) - 1).toNat x=r.reverse++x::(y::q):=by
    rw [t1,show (y::r).reverse++y::q=r.reverse++y::(y::q) by rw [List.reverse_cons,List.append_assoc]; rfl]
    have:=qpc (p:=r.reverse) (x:=y) (y:=x) (q:=y::q)
    rw [hrl] at this; exact this
   have v1:qee ((y::r).reverse++x::q).length n (((r.length + 1:Nat):Int)).toNat:=⟨hn,by omega⟩
   have v2:qee (((y::r).reverse++x::q).set (((r.length + 1:Nat):Int)).toNat y).length n (((r.length + 1:Nat):Int) - 1).toNat:=⟨by rw [List.length_set]; exact hn,by omega⟩
   rw [JF (v':=(r.reverse++x::(y::q),(r.length:Int))) (by
    unfold zP
    refine w_t (decide_eq_true (by show (0:Int) < ((r.length + 1:Nat):Int); omega)) (zd c0 (qI g1 (zd c1 (zd c2 (qI g2 (qI hc (w_t (hlt.trans hb) (zd c1 (zd c1 (zd c2 (qI g2 (zd c0 (qI g1 (zd c0 (zd v1 (zd c2 (zd v2 (zd c1 (qZ ?_)))))))))))))))))))
    show some (Sum.inl ((((y::r).reverse++x::q).set (((r.length + 1:Nat):Int)).toNat y).set (((r.length + 1:Nat):Int) - 1).toNat x,((r.length + 1:Nat):Int) - 1))=_
    rw [s1,s2,show ((r.length + 1:Nat):Int) - 1=(r.length:Int) by omega]) m]
   unfold VG
   rw [if_pos hb]
   exact h
theorem qxR {l:List (Vector UInt8 16)} (hs:l.length≤1000) (h0:l≠[]):zA N l 0 (l.length:Int)=some (vu l):=by
 have hN:=big N
 have hpos:0 < l.length:=List.length_pos_iff.2 h0
 have key:jt N l.length 0 (l.length:Int) l 1=some (vu l,(l.length:Int),false):=by
  have h:=qgF (B:=zj N l.length 0 (l.length:Int)) (g:=some) (I:=fun v=>∃ k:Nat,1≤k∧k≤l.length∧v=(vu (l.take k)++l.drop k,(k:Int))) (Q:=fun y=>y=(vu l,(l.length:Int),false)) (fun v=>l.length - v.2.toNat) ?_ N (l,((1:Nat):Int))
   ⟨1,Nat.le_refl _,hpos,by
    cases l with
    | nil=>exact (h0 rfl).elim
    | cons x r=>rfl⟩ (by simp; omega)
  ·obtain ⟨y,e,rfl⟩:=h
   exact e
  rintro v ⟨k,h1,hk,rfl⟩
  have hlen:∀ j,j≤l.length→(vu (l.take j)).length=j:=by
   intro j hj
   have:∀ (m p:List (Vector UInt8 16)),(m.foldl (fun p x=>VG p.reverse x []) p).length=p.length + m.length:=by
    intro m
    induction m with
    | nil=>intro p; rfl
    | cons x m ih=>
     intro p
     rw [List.foldl_cons,ih,qju.length_eq]
     simp; omega
   unfold vu
   rw [this]; simp; omega
  by_cases h:k < l.length
  ·left
   have ed:l.drop k=l.getD k (Vector.replicate 16 0)::l.drop (k + 1):=by
    rw [List.drop_eq_getElem_cons h,List.getD_eq_getElem?_getD,List.getElem?_eq_getElem h]; rfl
   have et:vu (l.take (k + 1))=VG (vu (l.take k)).reverse (l.getD k (Vector.replicate 16 0)) []:=by
    unfold vu
    rw [List.take_succ_eq_append_getElem h,List.foldl_append,List.getD_eq_getElem?_getD,List.getElem?_eq_getElem h]; rfl
   have hll:(vu (l.take k)).reverse.length=k:=by rw [List.length_reverse,hlen k hk]
   obtain ⟨j,b,e⟩:=qvt (N:=N) (s2:=(l.length:Int)) (s8:=(k:Int)) (vu (l.take k)).reverse (l.getD k (Vector.replicate 16 0)) (l.drop (k + 1)) l.length N (by
    rw [List.reverse_reverse,← ed,List.length_append,hlen k hk,List.length_drop]; omega) hs (by omega)
   rw [List.reverse_reverse,← ed,hll] at e
   have er:VG (vu (l.take k)).reverse (l.getD k (Vector.replicate 16 0)) (l.drop (k + 1))=vu (l.take (k + 1))++l.drop (k + 1):=by
    rw [et,← qqh]; rfl
   rw [er] at e
   refine ⟨(vu (l.take (k + 1))++l.drop (k + 1),((k + 1:Nat):Int)),?_,⟨k + 1,by omega,h,rfl⟩,by simp only [Int.toNat_natCast]; omega⟩
   unfold zj
   exact w_t (dec_lt h) (qI e (zd (Z9 (by omega)) (qZ (by rw [zD]))))
  ·right
   obtain rfl:k=l.length:=by omega
   refine ⟨(vu l,(l.length:Int),false),_,?_,rfl,rfl⟩
   unfold zj
   refine w_f (vq (Nat.lt_irrefl _)) (qZ ?_)
   dsimp only
   rw [vq (Nat.lt_irrefl _),List.take_of_length_le (Nat.le_refl _),List.drop_of_length_le (Nat.le_refl _),List.append_nil]
 unfold zA jy
 exact zd (by unfold qx; omega) (qI key (qZ rfl))
theorem quP:zA N [] 0 ((([]:List (Vector UInt8 16)).length:Nat):Int)=some []:=by
 have key:jt N 0 0 ((0:Nat):Int) [] 1=some ([],1,false):=by
  obtain ⟨M,hM⟩:∃ M,N=M + 1:=⟨N - 1,by have:=big N; omega⟩
  show qY (zj N 0 0 ((0:Nat):Int)) some N ([],1)=_
  have:∀ K,K=M + 1→qY (zj N 0 0 ((0:Nat):Int)) some K ([],1)=some ([],1,false):=by
   rintro K rfl
   rw [zK (x:=([],1,false)) (by unfold zj; exact w_f rfl (qZ rfl))]
  exact this N hM
 unfold zA jy
 exact zd (by unfold qx; omega) (qI key (qZ rfl))
theorem qCT {l:List (Vector UInt8 16)} (h:l.length≤12):Jy N l=some (vu l):=by
 have e1:zA N l 0 ((l.length:Nat):Int)=some (vu l):=by
  cases l with
  | nil=>exact quP
  | cons x r=>exact qxR (by omega) (by simp)
 have e2:∀ z:Int,Qq N l 0 ((l.length:Nat):Int) z=some (vu l):=fun z=>by
  have key:Zg N l 0 ((l.length:Nat):Int) z=some (vu l):=by
   obtain ⟨M,hM⟩:∃ M,N=M + 1:=⟨N - 1,by have:=big N; omega⟩
   show qY (j9 N l 0 ((l.length:Nat):Int) z) some N ()=_
   have:∀ K,K=M + 1→qY (j9 N l 0 ((l.length:Nat):Int) z) some K ()=some (vu l):=by
    rintro K rfl
    rw [zK (x:=vu l) (by unfold j9; exact zd (by unfold qx; omega) (w_t (decide_eq_true (by omega)) (qI ((jo rfl).trans e1) (qZ rfl))))]
   exact this N hM
  unfold Qq ZF
  exact qI ((jo rfl).trans key) (qZ rfl)
 have e3:∃ z,YS (IntKind.u64.wrap ((l.length:Nat):Int))=some z:=by
  rw [qAG (by omega)]
  have:∀ k,k≤12→(YS ((k:Nat):Int)).isSome=true:=by decide +kernel
  exact Option.isSome_iff_exists.1 (this _ h)
 obtain ⟨z,e3⟩:=e3
 unfold Jy Xe
 exact qI e3 (qI ((jo rfl).trans (e2 z)) (qZ rfl))
end
end Go.Rx
end
set_option maxRecDepth 100000
noncomputable section
namespace Go.Rx
open Go.Proofs
open Go.Lib (compareBytes)
section
variable {N:Nat} [Jn N]
theorem qoo (a b:Vector UInt8 32):qcM a b=some (ltD a b):=by
 unfold qcM qhe ltD
 rw [qE,eqD]
 by_cases h:a=b
 ·subst h; rw [decide_eq_true rfl,Vf]; rfl
 ·rw [decide_eq_false h]; rfl
end
end Go.Rx
end
set_option maxRecDepth 100000
noncomputable section
namespace Go.Rx
open Go.Proofs
open Go.Lib (compareBytes)
section
variable {N:Nat} [Jn N]
theorem qAj {x y : Bool} {p : Prop} (h : (x = true ∧ y = false) ∨ p ∨ (y = true ∧ x = false)) (hp : p → x = false ∧ y = false) :
    ∃ n:Int,(Tree.cond x (.ret (-1:Int)) (.cond y (.ret 1) (.ret 0))).run some=some n∧(decide (n=0)=true↔p)∧(¬ p→decide (n < 0)=x):=by
 rcases h with ⟨h1,h2⟩ | h1 | ⟨h1,h2⟩
 ·subst h1; subst h2
  exact ⟨-1,rfl,⟨fun h=>by simp at h,fun h=>by have:=(hp h).1; simp at this⟩,fun _=>rfl⟩
 ·obtain ⟨h2,h3⟩:=hp h1
  subst h2; subst h3
  exact ⟨0,rfl,⟨fun _=>h1,fun _=>rfl⟩,fun h=>(h h1).elim⟩
 ·subst h1; subst h2
  exact ⟨1,rfl,⟨fun h=>by simp at h,fun h=>by have:=(hp h).2; simp at this⟩,fun _=>rfl⟩
theorem qzO (a b:qd):∃ n:Int,VZ N a b=some n∧(decide (n=0)=true↔a=b)∧(a≠b→decide (n < 0)=slB a b):=by
 obtain ⟨n,h1,h2,h3⟩:=qAj (WR a b) fun h=>by subst h; exact ⟨QZ a,QZ a⟩
 refine ⟨n,?_,h2,h3⟩
 unfold VZ WA
 rw [run_bind,qbp,Option.bind_some,← h1,qE,qE,run_bind,qbp,Option.bind_some]
theorem qyl (a b:Vector UInt8 32):∃ n:Int,J_ a b=some n∧(decide (n=0)=true↔a=b)∧(a≠b→decide (n < 0)=ltD a b):=by
 have ht:(ltD a b=true∧ltD b a=false)∨a=b∨(ltD b a=true∧ltD a b=false):=by
  rcases qcH a.toList b.toList with h | h | h
  ·exact .inl h
  ·exact .inr (.inl (Vector.toList_inj.1 h))
  ·exact .inr (.inr h)
 obtain ⟨n,h1,h2,h3⟩:=qAj ht fun h=>by subst h; exact ⟨Vf _,Vf _⟩
 refine ⟨n,?_,h2,h3⟩
 unfold J_ XJ
 rw [run_bind,qoo,Option.bind_some,← h1,qE,qE,run_bind,qoo,Option.bind_some]
theorem qDe (a b:List UInt8):∃ n:Int,JP a b=some n∧(decide (n=0)=true↔a=b)∧(a≠b→decide (n < 0)=ltB a b):=by
 have e:∀ x:List UInt8,V_ x=some ():=fun x=>rfl
 have g:(!(Op.bytesLess a b||decide (a=b)))=ltB b a:=by
  rw [qm1]
  rcases qcH a b with h | h | h
  ·rw [h.1,h.2]; rfl
  ·subst h; rw [decide_eq_true rfl,Vf]; rfl
  ·have:a≠b:=fun e=>by subst e; rw [Vf] at h; simp at h
   rw [h.1,h.2,decide_eq_false this]; rfl
 obtain ⟨n,h1,h2,h3⟩:=qAj (qcH a b) fun h=>by subst h; exact ⟨Vf _,Vf _⟩
 refine ⟨n,?_,h2,h3⟩
 unfold JP V8
 refine qI (e a) (qI (e b) (w_f (by rw [decide_eq_true rfl]; rfl) (w_f (by rw [decide_eq_true rfl]; rfl) ?_)))
 rw [← h1,qE,qE,qE,qE,qm1 a b,← g,qm1 a b]
theorem qAY {a b:qc} (ha:a.V.length≤50000) (hb:b.V.length≤50000):qeo N a b=some (jz a b):=by
 obtain ⟨n1,e1,z1,l1⟩:=qzO (N:=N) a.S b.S
 obtain ⟨n2,e2,z2,l2⟩:=qyl (ZI a.V) (ZI b.V)
 obtain ⟨n3,e3,z3,l3⟩:=qDe a.V b.V
 have f1:qa8 N a b=some n1:=by unfold qa8 qbO; exact qI e1 (qZ rfl)
 have f2:qa9 N a b=some n2:=by unfold qa9 qbP; exact qI (qsG ha) (qI (qsG hb) (qI e2 (qZ rfl)))
 have f3:qbb a b=some n3:=by unfold qbb qbG; exact qI e3 (qZ rfl)
 have key:∃ M,N=M + 1:=⟨N - 1,by have:=big N; omega⟩
 obtain ⟨M,hM⟩:=key
 have z:∀ {n:Int} {p:Prop},(decide (n=0)=true↔p)→p→(!decide (n=0))=false:=fun h hp=>by rw [h.2 hp]; rfl
 have nz:∀ {n:Int} {p:Prop},(decide (n=0)=true↔p)→¬ p→(!decide (n=0))=true:=fun {n} {p} h hp=>by
  cases e:decide (n=0) with
  | false=>rfl
  | true=>exact (hp (h.1 e)).elim
 have hl:qak N a b=some (if a.S=b.S∧ZI a.V=ZI b.V∧a.V=b.V then .inr () else .inl (jz a b)):=by
  have s1:qak N a b=qY (W4 N a b) (qaL N N (a,b)) (M + 1) ():=by rw [← hM]; rfl
  rw [s1]
  by_cases h1:a.S=b.S
  ·rw [zK (x:=.inl ()) (by unfold W4; exact zd (by omega) (qI f1 (w_f (z z1 h1) (qZ rfl))))]
   show qY (QC N a b) (ZP N N (a,b)) N ()=_
   rw [show qY (QC N a b) (ZP N N (a,b)) N ()=qY (QC N a b) (ZP N N (a,b)) (M + 1) () by rw [← hM]]
   by_cases h2:ZI a.V=ZI b.V
   ·rw [zK (x:=.inl ()) (by unfold QC; exact zd (by omega) (qI f2 (w_f (z z2 h2) (qZ rfl))))]
    show qY (QF N a b) (ZQ N N (a,b)) N ()=_
    rw [show qY (QF N a b) (ZQ N N (a,b)) N ()=qY (QF N a b) (ZQ N N (a,b)) (M + 1) () by rw [← hM]]
    by_cases h3:a.V=b.V
    ·rw [zK (x:=.inl ()) (by unfold QF; exact zd (by omega) (qI f3 (w_f (z z3 h3) (qZ rfl))))]
     show qY (ZR N a b) some N ()=_
     rw [show qY (ZR N a b) some N ()=qY (ZR N a b) some (M + 1) () by rw [← hM]]
     rw [zK (x:=.inr ()) (by unfold ZR; exact qZ rfl),if_pos ⟨h1,h2,h3⟩]
    ·rw [zK (x:=.inr (.inl (decide (n3 < 0)))) (by unfold QF; exact zd (by omega) (qI f3 (w_t (nz z3 h3) (qZ rfl)))),if_neg (fun h=>h3 h.2.2)]
     show some (Sum.inl (decide (n3 < 0)))=_
     rw [l3 h3]
     unfold jz
     rw [if_pos h1,if_pos h2]
   ·rw [zK (x:=.inr (.inl (decide (n2 < 0)))) (by unfold QC; exact zd (by omega) (qI f2 (w_t (nz z2 h2) (qZ rfl)))),if_neg (fun h=>h2 h.2.1)]
    show some (Sum.inl (decide (n2 < 0)))=_
    rw [l2 h2]
    unfold jz
    rw [if_pos h1,if_neg h2]
  ·rw [zK (x:=.inr (.inl (decide (n1 < 0)))) (by unfold W4; exact zd (by omega) (qI f1 (w_t (nz z1 h1) (qZ rfl)))),if_neg (fun h=>h1 h.1)]
   show some (Sum.inl (decide (n1 < 0)))=_
   rw [l1 h1]
   unfold jz
   rw [if_neg h1]
 unfold qeo qev
 refine qI hl ?_
 by_cases h:a.S=b.S∧ZI a.V=ZI b.V∧a.V=b.V
 ·rw [if_pos h]
  show some false=_
  unfold jz
  rw [if_pos h.1,if_pos h.2.1,h.2.2,Vf]
 ·rw [if_neg h]; rfl
theorem qEM {a b:qc} (ha:a.V.length≤50000) (hb:b.V.length≤50000):qd1 N a b=some (cJ a b):=by
 unfold qd1 qe3 cJ
 refine qI (qAY ha hb) ?_
 cases jz a b<;>rfl
theorem qEi (a b:qd):qdV N a b=some (mxS a b):=by
 unfold qdV qfj mxS
 refine qI (qbp _ _) ?_
 cases slB a b<;>rfl
end
end Go.Rx
end
set_option maxRecDepth 100000
noncomputable section
namespace Go.Rx
open Go.Proofs
section
variable {N:Nat} [Jn N]
theorem qDH {l : List qb} (h8 : l.length ≤ 600) (hV : ∀ k, k < l.length → (l.getD k zF).C.V.length ≤ 200) {c : Nat} {M : List (Int × qc × Nat)} {g : Int → Option qc} (hM : ∀ no, Wo no M = g no) (hg : qcq g) :
    ∃ c' M',XH N l ((l.length:Nat):Int) c M 0=some (c',M',((l.length:Nat):Int),false)∧(∀ no,Wo no M'=l.foldl JO g no)∧qcq (l.foldl JO g):=by
 have key:∃ y,qY (v_ N l ((l.length:Nat):Int)) some N (c,M,((0:Nat):Int))=some y∧∃ c' M',y=(c',M',((l.length:Nat):Int),false)∧(∀ no,Wo no M'=l.foldl JO g no)∧qcq (l.foldl JO g):=by
  refine qgF (I:=fun v=>∃ (k c':Nat) (M':List (Int×qc×Nat)),k≤l.length∧v=(c',M',(k:Int))∧(∀ no,Wo no M'=(l.take k).foldl JO g no)∧qcq ((l.take k).foldl JO g)) (fun v=>l.length - v.2.2.toNat) ?_ N _ ⟨0,c,M,Nat.zero_le _,rfl,hM,hg⟩ (by have:=big N; simp; omega)
  rintro v ⟨k,c',M',hk,rfl,hi,hs⟩
  by_cases h:k < l.length
  ·left
   have et:(l.take (k + 1)).foldl JO g=JO ((l.take k).foldl JO g) (l.getD k zF):=by
    rw [List.take_succ_eq_append_getElem h,List.foldl_append,List.getD_eq_getElem?_getD,List.getElem?_eq_getElem h]; rfl
   have hs':qcq ((l.take (k + 1)).foldl JO g):=by rw [et]; exact qxD hs (hV k h)
   have hno:=hi (l.getD k zF).No
   unfold Wo at hno
   cases e:fnd (β:=qc) (.i .i64) (l.getD k zF).No M' with
   | none=>
    rw [e] at hno
    refine ⟨((Ql (.i .i64) (qb.No (l.getD k zF)) (qb.C (l.getD k zF)) c' M').1,(Ql (.i .i64) (qb.No (l.getD k zF)) (qb.C (l.getD k zF)) c' M').2,((k + 1:Nat):Int)),?_,⟨k + 1,_,_,h,rfl,?_,hs'⟩,by simp only [Int.toNat_natCast]; omega⟩
    ·unfold v_
     exact w_t (dec_lt h) (qI (v3 (d:=zF) h) (qtt e (zd (Z9 (by omega)) (qZ (by rw [zD])))))
    ·intro no
     rw [quc,et,qsN]
     by_cases hq:no=(l.getD k zF).No
     ·rw [if_pos hq,if_pos hq.symm,hq,← hno]; rfl
     ·rw [if_neg hq,if_neg (fun e=>hq e.symm),hi no]
   | some x=>
    rw [e] at hno
    have hx:x.1.V.length≤200:=hs _ _ hno.symm
    refine ⟨((Ql (.i .i64) (qb.No (l.getD k zF)) (cJ x.1 (qb.C (l.getD k zF))) c' M').1,(Ql (.i .i64) (qb.No (l.getD k zF)) (cJ x.1 (qb.C (l.getD k zF))) c' M').2,((k + 1:Nat):Int)),?_,⟨k + 1,_,_,h,rfl,?_,hs'⟩,by simp only [Int.toNat_natCast]; omega⟩
    ·unfold v_
     exact w_t (dec_lt h) (qI (v3 (d:=zF) h) (qnP e (qI (qEM (by omega) (by have:(l.getD k zF).C.V.length≤200:=hV k h; omega)) (zd (Z9 (by omega)) (qZ (by rw [zD]))))))
    ·intro no
     rw [quc,et,qsN]
     by_cases hq:no=(l.getD k zF).No
     ·rw [if_pos hq,if_pos hq.symm,hq,← hno]; rfl
     ·rw [if_neg hq,if_neg (fun e=>hq e.symm),hi no]
  ·right
   obtain rfl:k=l.length:=by omega
   refine ⟨(c',M',((l.length:Nat):Int),false),_,?_,rfl,c',M',rfl,?_⟩
   ·unfold v_
    exact w_f (vq (Nat.lt_irrefl _)) (qZ (by rw [vq (Nat.lt_irrefl _)]))
   ·rw [List.take_of_length_le (Nat.le_refl _)] at hi hs
    exact ⟨hi,hs⟩
 obtain ⟨y,e,c',M',rfl,h⟩:=key
 exact ⟨c',M',e,h⟩
theorem qvP {r : qa} (hr : zY r = true) {c : Nat} {M : List (Int × qc × Nat)} {g : Int → Option qc} (hM : ∀ no, Wo no M = g no) (hg : qcq g) :
    ∃ c' M',Je N c M r=some (c',M')∧(∀ no,Wo no M'=jC (g no) (cO r.F no))∧qcq (r.F.foldl JO g):=by
 have h8:=qcI hr
 obtain ⟨c',M',e,h,hs⟩:=qDH (N:=N) (l:=r.F) (by omega) (fun k hk=>qBL (V4.1 ((Wq.1 hr).2.2 k hk)).2.2.1) (c:=c) hM hg
 refine ⟨c',M',?_,fun no=>?_,hs⟩
 ·unfold Je Wu
  exact qI e (qZ rfl)
 ·rw [h,qoF (qti hr)]
theorem qyg {o : List qb} {c : Nat} {M : List (Int × qc × Nat)} {o5 : Vector UInt8 16} {o6 : qd} {o7 : Vector UInt8 16} {o8 dead : qd} :
    Zt N o [] c M o5 o6 o7 o8 dead=some (QJ (fun no=>Wo no M) dead 8 0):=by
 have key:Ji N o c M o5 o6 o7 o8 dead [] 0=some (JG (fun k s=>s++qdY dead k (Wo (k:Int) M)) 8 0 [],(8:Int),false):=by
  refine Zi (σ:=List qb) (B:=vU N o c M o5 o6 o7 o8 dead) (g:=some) (at_:=fun k s=>(s,(k:Int))) (I:=fun k s=>s.length≤k) (f:=fun k s=>s++qdY dead k (Wo (k:Int) M)) (n:=8)
   (fin:=fun s=>(s,(8:Int),false)) (fun k s hk hs=>⟨?_,?_⟩) (fun s _=>?_) N 0 [] (Nat.le_refl _) (Nat.zero_le _) (by have:=big N; omega)
  ·have d8:decide ((k:Int) < 8)=true:=decide_eq_true (by omega)
   unfold vU
   refine w_t d8 ?_
   unfold Wo
   cases e:fnd (β:=qc) (.i .i64) (k:Int) M with
   | none=>exact qtt rfl (zd (Z9 (by omega)) (qZ (by rw [zD]; show _=some (Sum.inl (s++[],_)); rw [List.append_nil])))
   | some x=>
    refine qnP rfl (qI (qbp _ _) ?_)
    have hk2:qdY dead k (Option.map (fun x=>x.1) (some x))=if slB dead x.1.S=true then [qb.mk (k:Int) x.1] else []:=rfl
    rw [hk2]
    cases hb:slB dead (qc.S x.1) with
    | false=>
     rw [if_neg (by simp),List.append_nil]
     exact w_f rfl (zd (Z9 (by omega)) (qZ (by rw [zD])))
    | true=>
     rw [if_pos rfl]
     have er:Xb o s c M o5 o6 o7 o8 dead (qb.mk (k:Int) x.1)=some ():=by
      unfold Xb WB
      exact zd ⟨rfl,by rw [List.length_append]; unfold q6; simp; omega⟩ (qZ rfl)
     exact w_t rfl (qI ((jo rfl).trans ((jo rfl).trans er)) (zd (Z9 (by omega)) (qZ (by rw [zD]))))
  ·have:=qqk (dead:=dead) (k:=k) (c:=Wo (k:Int) M)
   rw [List.length_append]; omega
  ·unfold vU
   exact w_f rfl (qZ rfl)
 unfold Zt Jp
 refine qI ((jo rfl).trans ((jo rfl).trans key)) (qZ ?_)
 rw [qio (g:=fun no=>Wo no M),List.nil_append]
theorem qES {a b:qa} (ha:zY a=true) (hb:zY b=true) (hid:a.ID=b.ID):qgw N a b=some (rJ a b,true):=by
 have hN:=big N
 have h8a:=qcI ha
 have h8b:=qcI hb
 obtain ⟨c1,M1,e1,h1,s1⟩:=qvP (N:=N) ha (c:=0) (M:=[]) (g:=fun _=>none) (fun no=>rfl) (fun no c h=>by cases h)
 obtain ⟨c2,M2,e2,h2,_⟩:=qvP (N:=N) hb (c:=c1) (M:=M1) (g:=fun no=>cO a.F no) (fun no=>by rw [h1]; rfl) (by
  have:(a.F.foldl JO fun _=>none)=fun no=>cO a.F no:=by funext no; rw [qoF (qti ha)]; rfl
  rw [← this]; exact s1)
 have ef:=qyg (N:=N) (o:=[]) (c:=c2) (M:=M2) (o5:=Vector.replicate 16 0) (o6:=qd.mk 0 0) (o7:=a.ID) (o8:=mxS a.qQ b.qQ) (dead:=mxS a.qQ b.qQ)
 have eg:(fun no=>Wo no M2)=fun no=>jC (cO a.F no) (cO b.F no):=funext h2
 rw [eg] at ef
 unfold qgw qgf
 exact qI (qkq (by omega) (by omega)) (w_f (by rw [ha]; rfl) (qI (qkq (by omega) (by omega)) (w_f (by rw [hb]; rfl) (w_f (by rw [qBG]; show (!decide (a.ID=b.ID))=false; rw [decide_eq_true hid]; rfl)
  (qI e1 (qI e2 (qI (qEi _ _) (qI rfl (qI ((jo rfl).trans ((jo rfl).trans ef)) (zd rfl (qZ rfl)))))))))))
end
end Go.Rx
end
