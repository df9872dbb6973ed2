/- A part of the proof of AboveTells: the law returns true for every input, and its arguments read as before. No condition. -/
import Derived.Test.YtmnngfcoenhhkaaGreatProg
import Derived.Test.YtmnngfcoenhhkaaGreatComE
set_option linter.unusedSimpArgs false
set_option linter.unusedVariables false
set_option linter.unusedSectionVars false
noncomputable section
namespace Go.Rx
theorem qb5 {α R:Type} (n:α→Option R):∀ t:Tree α,t.run n=(t.run some).bind n
 | .ret a=>rfl
 | .no=>rfl
 | .cond b s t=>by
  simp only [Tree.run]
  cases b
  ·exact qb5 n t
  ·exact qb5 n s
 | @Tree.chk _ p d t=>by
  simp only [Tree.run,chk]
  split
  ·exact qb5 n t
  ·rfl
 | .bind o k=>by
  simp only [Tree.run]
  cases o with
  | none=>rfl
  | some x=>exact qb5 n (k x)
 | .opt o s k=>by
  simp only [Tree.run]
  cases o with
  | none=>exact qb5 n s
  | some x=>exact qb5 n (k x)
 | .sum x f g=>by
  cases x with
  | inl a=>exact qb5 n (f a)
  | inr b=>exact qb5 n (g b)
section r
variable {α R:Type} {n:α→Option R}
theorem zc {a:α}:(Tree.ret a).run n=n a:=rfl
theorem qL {b:Bool} {s t:Tree α}:(Tree.cond b s t).run n=bif b then s.run n else t.run n:=rfl
theorem qS {p:Prop} [Decidable p] {t:Tree α}:(Tree.chk p t).run n=chk p (t.run n):=rfl
theorem run_bind {β:Type} {o:Option β} {k:β→Tree α}:(Tree.bind o k).run n=o.bind fun x=>(k x).run n:=rfl
theorem qTH {β γ:Type} {x:γ} {f:β→Tree α} {g:γ→Tree α}:(Tree.sum (.inr x) f g).run n=(g x).run n:=rfl
end r
theorem Zt {V W Y:Type} {B:V→Tree (V⊕W)} {g:W→Option Y} {v v':V} (h:(B v).run some=some (.inl v')) (N:Nat):qQ B g (N + 1) v=qQ B g N v':=by
 simp only [qQ]
 rw [qb5,h]; rfl
theorem zu {V W Y:Type} {B:V→Tree (V⊕W)} {g:W→Option Y} {v:V} {x:W} (h:(B v).run some=some (.inr x)) (N:Nat):qQ B g (N + 1) v=g x:=by
 simp only [qQ]
 rw [qb5,h]; rfl
theorem qjL {V W Y : Type} {B : V → Tree (V ⊕ W)} {g : W → Option Y} {I : V → Prop} {Q : Y → Prop} (m : V → Nat)
    (h:∀ v,I v→(∃ v',(B v).run some=some (.inl v')∧I v'∧m v' < m v)∨∃ x y,(B v).run some=some (.inr x)∧g x=some y∧Q y) :
    ∀ (N:Nat) (v:V),I v→m v < N→∃ y,qQ B g N v=some y∧Q y
 | 0,v,_,hm=>by omega
 | N + 1,v,hi,hm=>by
  rcases h v hi with ⟨v',h1,h2,h3⟩ | ⟨x,y,h1,h2,h3⟩
  ·rw [Zt h1]
   exact qjL m h N v' h2 (by omega)
  ·rw [zu h1]
   exact ⟨y,h2,h3⟩
theorem qdo {W Y : Type} {B : Int → Tree (Int ⊕ W)} {g : W → Option Y} {p : Nat → Bool} {n : Nat} {hit : Nat → W} {fin : W}
    (h1:∀ k,k < n→(B (k:Int)).run some=some (if p k then .inr (hit k) else .inl ((k + 1:Nat):Int))) (h2:(B (n:Int)).run some=some (.inr fin)) :
    ∀ (N k:Nat),k≤n→n < N + k→qQ B g N (k:Int)=g (match Zk p (n - k) k with | some j=>hit j | none=>fin)
 | 0,k,hk,hN=>by omega
 | N + 1,k,hk,hN=>by
  by_cases e:k=n
  ·subst e
   rw [zu h2,Nat.sub_self]; rfl
  ·obtain ⟨m,hm⟩:∃ m,n - k=m + 1:=⟨n - k - 1,by omega⟩
   have h3:=h1 k (by omega)
   rw [hm]
   unfold Zk
   cases hp:p k with
   | true=>
    rw [hp,if_pos rfl] at h3
    rw [zu h3,if_pos rfl]
   | false=>
    rw [hp,if_neg (by simp)] at h3
    rw [Zt h3,qdo h1 h2 N (k + 1) (by omega) (by omega),if_neg (by simp),show n - (k + 1)=m by omega]
def zY {σ:Type} (f:Nat→σ→σ):Nat→Nat→σ→σ
 | 0,_,s=>s
 | m + 1,k,s=>zY f m (k + 1) (f k s)
theorem jd {σ W Y : Type} {V : Type} {B : V → Tree (V ⊕ W)} {g : W → Option Y} {at_ : Nat → σ → V} {I : Nat → σ → Prop} {f : Nat → σ → σ} {n : Nat} {fin : σ → W}
    (h1:∀ k s,k < n→I k s→(B (at_ k s)).run some=some (.inl (at_ (k + 1) (f k s)))∧I (k + 1) (f k s)) (h2:∀ s,I n s→(B (at_ n s)).run some=some (.inr (fin s))) :
    ∀ (N k:Nat) (s:σ),I k s→k≤n→n < N + k→qQ B g N (at_ k s)=g (fin (zY f (n - k) k s))
 | 0,k,s,_,hk,hN=>by omega
 | N + 1,k,s,hi,hk,hN=>by
  by_cases e:k=n
  ·subst e
   rw [zu (h2 s hi),Nat.sub_self]; rfl
  ·obtain ⟨m,hm⟩:∃ m,n - k=m + 1:=⟨n - k - 1,by omega⟩
   obtain ⟨h3,h4⟩:=h1 k s (by omega) hi
   rw [Zt h3,jd h1 h2 N (k + 1) _ h4 (by omega) (by omega),hm,show n - (k + 1)=m by omega]
   rfl
theorem qVd {α:Type} {l:List α} {k:Nat} (h:k < l.length):jy l l.length k=some l[k]:=by
 unfold jy; rw [if_pos rfl,List.getElem?_eq_getElem h]
theorem qP8 {α:Type} {l:List α} {k n:Nat} {d:α} (hn:l.length=n) (h:k < l.length):jy l n k=some (l.getD k d):=by
 unfold jy; rw [if_pos hn,List.getElem?_eq_getElem h]; simp [List.getD,List.getElem?_eq_getElem h]
theorem qi {α:Type} {p:Prop} [Decidable p] {x:Option α} (h:p):chk p x=x:=if_pos h
theorem qyM {Z:Type} (o:Option Z):zV [] o=o:=rfl
theorem zl {Z:Type} {a b:Nat} {ps:List (Nat×Nat)} {o:Option Z} (h:a=b):zV ((a,b)::ps) o=zV ps o:=if_pos h
end Go.Rx
end
noncomputable section
namespace Go.Rx
def qh:Ty:=.ag [.i .i64,.i .i64]
abbrev qc:=Int×Int
def qc.N (x:qc):Int:=x.1
def qc.Rep (x:qc):Int:=x.2
def qc.mk (x0:Int) (x1:Int):qc:=(x0,x1)
instance qc.dec:DecidableEq qc:=Ww qh
def qq:Ty:=.ag [qh,.s]
abbrev qe:=qc×List UInt8
def qe.S (x:qe):qc:=x.1
def qe.V (x:qe):List UInt8:=x.2
def qe.mk (x0:qc) (x1:List UInt8):qe:=(x0,x1)
instance qe.dec:DecidableEq qe:=Ww qq
def qB:Ty:=.ag [.i .i64,qq]
abbrev qd:=Int×qe
def qd.No (x:qd):Int:=x.1
def qd.C (x:qd):qe:=x.2
def qd.mk (x0:Int) (x1:qe):qd:=(x0,x1)
instance qd.dec:DecidableEq qd:=Ww qB
def qf:Ty:=.ag [.ba 16,qh,.sl 4 qB]
abbrev qa:=Vector UInt8 16×qc×List qd
def qa.ID (x:qa):Vector UInt8 16:=x.1
def qa.qz (x:qa):qc:=x.2.1
def qa.F (x:qa):List qd:=x.2.2
def qa.mk (x0:Vector UInt8 16) (x1:qc) (x2:List qd):qa:=(x0,x1,x2)
instance qa.dec:DecidableEq qa:=Ww qf
def qj:Ty:=.ag [.sl 19 qf]
abbrev qb:=List qa
def qb.R (x:qb):List qa:=x
def qb.mk (x0:List qa):qb:=(x0)
instance qb.dec:DecidableEq qb:=Ww qj
def VB:Ty:=.ag [.i .u32,.ba 32]
abbrev zy:=Int×Vector UInt8 32
def zy.v3 (x:zy):Int:=x.1
def zy.qVL (x:zy):Vector UInt8 32:=x.2
def zy.mk (x0:Int) (x1:Vector UInt8 32):zy:=(x0,x1)
instance zy.dec:DecidableEq zy:=Ww VB
def qX:Ty:=.ag [.i .i64,qh,.i .i64,.ba 32,.sl 33 VB]
abbrev qm:=Int×qc×Int×Vector UInt8 32×List zy
def qm.No (x:qm):Int:=x.1
def qm.S (x:qm):qc:=x.2.1
def qm.Len (x:qm):Int:=x.2.2.1
def qm.D (x:qm):Vector UInt8 32:=x.2.2.2.1
def qm.B (x:qm):List zy:=x.2.2.2.2
def qm.mk (x0:Int) (x1:qc) (x2:Int) (x3:Vector UInt8 32) (x4:List zy):qm:=(x0,x1,x2,x3,x4)
instance qm.dec:DecidableEq qm:=Ww qX
def qZ:Ty:=.ag [.ba 16,qh,.sl 37 qX]
abbrev qn:=Vector UInt8 16×qc×List qm
def qn.ID (x:qn):Vector UInt8 16:=x.1
def qn.qz (x:qn):qc:=x.2.1
def qn.F (x:qn):List qm:=x.2.2
def qn.mk (x0:Vector UInt8 16) (x1:qc) (x2:List qm):qn:=(x0,x1,x2)
instance qn.dec:DecidableEq qn:=Ww qZ
def qo:Ty:=.ag [.ba 32,.sl 19 qZ]
abbrev qg:=Vector UInt8 32×List qn
def qg.qWR (x:qg):Vector UInt8 32:=x.1
def qg.L (x:qg):List qn:=x.2
def qg.mk (x0:Vector UInt8 32) (x1:List qn):qg:=(x0,x1)
instance qg.dec:DecidableEq qg:=Ww qo
end Go.Rx
end
set_option maxRecDepth 100000
noncomputable section
namespace Go.Rx
open Go.Proofs
theorem qk:Tryz.prog.follows .mixedOrders=true:=by kernel_rfl
noncomputable instance qWW:CT:=⟨ctF Tryz.prog⟩
def qPH:Ent:=qVP 128
theorem qVj:zf Tryz.prog qPH:=qU5 (fn:=Tryz.f128) (by kernel_rfl) (by kernel_rfl) (by kernel_rfl) (by kernel_rfl) (by kernel_rfl)
noncomputable def qPy:Code:=Tryz.f111.body.getD .skip
theorem qyl:FnF Tryz.prog 111 Tryz.f111 qPy:=⟨qk,by kernel_rfl,by kernel_rfl,by kernel_rfl⟩
def qHg:TH:={ live:=[(0,[0]),(1,[0,4]),(2,[2]),(3,[2])],vecs:=[5],esc:=true }
def qHp (N:Nat):List Ent:=[]
theorem qEP (N:Nat):qU Tryz.prog (qHp N):=trivial
def qvl (a0:List UInt8) (z:Unit):TV×THp:=(.v 100050 (((([]:List UInt8))++a0).length),[(100050,.vec false 1 .bl ((([]:List UInt8))++a0:List UInt8))])
def qlu (a0:List UInt8):Tree (Unit):=
 .chk (List.isEmpty a0=false) <|
 .chk (zU ((([]:List UInt8)).length) 0 (((([]:List UInt8))++a0).length) 1) <|
 .ret ()
def qrj (a0:List UInt8):Option (Unit):=(qlu a0).run some
def qHI:List (Nat×qw):=[]
theorem qDG:qbq Tryz.prog ⟨111,[],[.x .bl],[],[]⟩ [.bl] (fun x=>qlu x.1) (fun x=>qvl x.1):=
 Yp (H:=qHg) (L:=qJ (qHI)) 0 qyl (qEP 0) (qt (by kernel_rfl) trivial) (rg0 (by kernel_rfl)) fun x=>by kernel_rfl
def qE7:TH:={ live:=[(0,[0]),(1,[0,4]),(2,[2]),(3,[2])],vecs:=[5],esc:=true }
def qC_ (N:Nat):List Ent:=[]
theorem qz3 (N:Nat):qU Tryz.prog (qC_ N):=trivial
def qEn (z:Unit):TV×THp:=(.v 100050 0,[(100050,.vec false 1 .bl ([]:List UInt8))])
def qoT:Tree (Unit):=
 .chk (0=0) <|
 .ret ()
def qHV:Option (Unit):=(qoT).run some
def qDa:List (Nat×qw):=[]
theorem qzX:qbq Tryz.prog ⟨111,[],[.k (.es 0)],[],[]⟩ [] (fun x=>qoT) (fun _=>qEn):=
 Yp (H:=qE7) (L:=qJ (qDa)) 0 qyl (qz3 0) (qt (by kernel_rfl) trivial) (rg0 (by kernel_rfl)) fun x=>by kernel_rfl
def qDi:TH:={ live:=[(0,[0]),(1,[0,4]),(2,[2]),(3,[2])],vecs:=[5],esc:=true }
def qDc (N:Nat):List Ent:=[]
theorem qzW (N:Nat):qU Tryz.prog (qDc N):=trivial
def qDx (z:Unit):TV×THp:=(.nils,[])
def qoW:Tree (Unit):=
 .ret ()
def qHF:Option (Unit):=(qoW).run some
def qDT:List (Nat×qw):=[]
theorem qAw:qbq Tryz.prog ⟨111,[],[.k (.es 1)],[],[]⟩ [] (fun x=>qoW) (fun _=>qDx):=
 Yp (H:=qDi) (L:=qJ (qDT)) 0 qyl (qzW 0) (qt (by kernel_rfl) trivial) (rg0 (by kernel_rfl)) fun x=>by kernel_rfl
def qoS (z:Unit):Unit:=()
def qC9 (z:Unit):Unit:=()
def qas (a0:List UInt8):Option (Unit):=
 bif a0.isEmpty then
  (qHV).bind fun z0=>(qHF).bind fun z1=>chk (qoS z0=qC9 z1) (some (qoS z0))
 else qrj a0
def qrY:Ent:=smF ⟨111,[],[.x .bl],[],[]⟩ [.bl] (Unit) (fun x=>qas x.1) cs1 fun x=>qvl x.1
theorem qDl:zf Tryz.prog (qrY):=qkJ fun x z h l=>by
 obtain ⟨a0,_⟩:=x
 replace h:qas a0=some z:=h
 unfold qas at h
 rcases qkl h with ⟨e,h2⟩ | ⟨_,h2⟩<;>clear h
 ·have e:=List.isEmpty_iff.1 e
  subst e
  obtain ⟨z0,c0,h2⟩:=bind_some h2
  obtain ⟨z1,c1,h2⟩:=bind_some h2
  obtain ⟨hE,h2⟩:=qj3 h2
  obtain rfl:=Option.some.inj h2
  refine qkT (t:=.bl) (x:=[]) rfl (TV.ers []) (TV.ers []) (by exact qzX (()) _ c0 l) ?_
  rw [hE]
  exact (qLZ (n:=100050) (sz:=1) (x:=qG .bl ([]:List UInt8)) rfl (by kernel_rfl) (by kernel_rfl) (qAw (()) _ c1 l))
 ·exact qDG (a0,()) z h2 l
noncomputable def qP0:Code:=Tryz.f112.body.getD .skip
theorem qPR:FnF Tryz.prog 112 Tryz.f112 qP0:=⟨qk,by kernel_rfl,by kernel_rfl,by kernel_rfl⟩
def qLL:TH:={ live:=[(0,[0]),(1,[0])] }
def qLm (N:Nat):List Ent:=[]
theorem qHZ (N:Nat):qU Tryz.prog (qLm N):=trivial
def qK4 (z:Unit):TV×THp:=(.tv (.wa 8) ((((((((((Vector.replicate 8 0)).setIfInBounds 0 ((UInt32.ofNat 1779033703))).setIfInBounds 1 ((UInt32.ofNat 3144134277))).setIfInBounds 2 ((UInt32.ofNat 1013904242))).setIfInBounds 3 ((UInt32.ofNat 2773480762))).setIfInBounds 4 ((UInt32.ofNat 1359893119))).setIfInBounds 5 ((UInt32.ofNat 2600822924))).setIfInBounds 6 ((UInt32.ofNat 528734635))).setIfInBounds 7 ((UInt32.ofNat 1541459225)):Vector UInt32 8),[])
def qAX:Tree (Unit):=
 .chk (0 < 8) <|
 .chk (1 < 8) <|
 .chk (2 < 8) <|
 .chk (3 < 8) <|
 .chk (4 < 8) <|
 .chk (5 < 8) <|
 .chk (6 < 8) <|
 .chk (7 < 8) <|
 .ret ()
def qy1:Option (Unit):=(qAX).run some
def qKV:List (Nat×qw):=[]
def qBb:Ent:=smF ⟨112,[],[],[],[]⟩ [] (Unit) (fun x=>qy1) cs1 fun _=>qK4
theorem qKs:zf Tryz.prog (qBb):=
 zd (H:=qLL) (L:=qJ (qKV)) (ts:=[]) (T:=fun x=>qAX) 0 qPR (qHZ 0) (qt (by kernel_rfl) trivial) (rg0 (by kernel_rfl)) fun x=>by kernel_rfl
noncomputable def qQb:Code:=Tryz.f113.body.getD .skip
theorem qQk:FnF Tryz.prog 113 Tryz.f113 qQb:=⟨qk,by kernel_rfl,by kernel_rfl,by kernel_rfl⟩
def qLi:TH:={ live:=[(0,[0]),(1,[0])] }
def qLr (N:Nat):List Ent:=[]
theorem qHW (N:Nat):qU Tryz.prog (qLr N):=trivial
def qLb (z:Unit):TV×THp:=(.tv (.wa 64) ((((((((((((((((((((((((((((((((((((((((((((((((((((((((((((((((((Vector.replicate 64 0)).setIfInBounds 0 ((UInt32.ofNat 1116352408))).setIfInBounds 1 ((UInt32.ofNat 1899447441))).setIfInBounds 2 ((UInt32.ofNat 3049323471))).setIfInBounds 3 ((UInt32.ofNat 3921009573))).setIfInBounds 4 ((UInt32.ofNat 961987163))).setIfInBounds 5 ((UInt32.ofNat 1508970993))).setIfInBounds 6 ((UInt32.ofNat 2453635748))).setIfInBounds 7 ((UInt32.ofNat 2870763221))).setIfInBounds 8 ((UInt32.ofNat 3624381080))).setIfInBounds 9 ((UInt32.ofNat 310598401))).setIfInBounds 10 ((UInt32.ofNat 607225278))).setIfInBounds 11 ((UInt32.ofNat 1426881987))).setIfInBounds 12 ((UInt32.ofNat 1925078388))).setIfInBounds 13 ((UInt32.ofNat 2162078206))).setIfInBounds 14 ((UInt32.ofNat 2614888103))).setIfInBounds 15 ((UInt32.ofNat 3248222580))).setIfInBounds 16 ((UInt32.ofNat 3835390401))).setIfInBounds 17 ((UInt32.ofNat 4022224774))).setIfInBounds 18 ((UInt32.ofNat 264347078))).setIfInBounds 19 ((UInt32.ofNat 604807628))).setIfInBounds 20 ((UInt32.ofNat 770255983))).setIfInBounds 21 ((UInt32.ofNat 1249150122))).setIfInBounds 22 ((UInt32.ofNat 1555081692))).setIfInBounds 23 ((UInt32.ofNat 1996064986))).setIfInBounds 24 ((UInt32.ofNat 2554220882))).setIfInBounds 25 ((UInt32.ofNat 2821834349))).setIfInBounds 26 ((UInt32.ofNat 2952996808))).setIfInBounds 27 ((UInt32.ofNat 3210313671))).setIfInBounds 28 ((UInt32.ofNat 3336571891))).setIfInBounds 29 ((UInt32.ofNat 3584528711))).setIfInBounds 30 ((UInt32.ofNat 113926993))).setIfInBounds 31 ((UInt32.ofNat 338241895))).setIfInBounds 32 ((UInt32.ofNat 666307205))).setIfInBounds 33 ((UInt32.ofNat 773529912))).setIfInBounds 34 ((UInt32.ofNat 1294757372))).setIfInBounds 35 ((UInt32.ofNat 1396182291))).setIfInBounds 36 ((UInt32.ofNat 1695183700))).setIfInBounds 37 ((UInt32.ofNat 1986661051))).setIfInBounds 38 ((UInt32.ofNat 2177026350))).setIfInBounds 39 ((UInt32.ofNat 2456956037))).setIfInBounds 40 ((UInt32.ofNat 2730485921))).setIfInBounds 41 ((UInt32.ofNat 2820302411))).setIfInBounds 42 ((UInt32.ofNat 3259730800))).setIfInBounds 43 ((UInt32.ofNat 3345764771))).setIfInBounds 44 ((UInt32.ofNat 3516065817))).setIfInBounds 45 ((UInt32.ofNat 3600352804))).setIfInBounds 46 ((UInt32.ofNat 4094571909))).setIfInBounds 47 ((UInt32.ofNat 275423344))).setIfInBounds 48 ((UInt32.ofNat 430227734))).setIfInBounds 49 ((UInt32.ofNat 506948616))).setIfInBounds 50 ((UInt32.ofNat 659060556))).setIfInBounds 51 ((UInt32.ofNat 883997877))).setIfInBounds 52 ((UInt32.ofNat 958139571))).setIfInBounds 53 ((UInt32.ofNat 1322822218))).setIfInBounds 54 ((UInt32.ofNat 1537002063))).setIfInBounds 55 ((UInt32.ofNat 1747873779))).setIfInBounds 56 ((UInt32.ofNat 1955562222))).setIfInBounds 57 ((UInt32.ofNat 2024104815))).setIfInBounds 58 ((UInt32.ofNat 2227730452))).setIfInBounds 59 ((UInt32.ofNat 2361852424))).setIfInBounds 60 ((UInt32.ofNat 2428436474))).setIfInBounds 61 ((UInt32.ofNat 2756734187))).setIfInBounds 62 ((UInt32.ofNat 3204031479))).setIfInBounds 63 ((UInt32.ofNat 3329325298)):Vector UInt32 64),[])
def qA5:Tree (Unit):=
 .chk (0 < 64) <|
 .chk (1 < 64) <|
 .chk (2 < 64) <|
 .chk (3 < 64) <|
 .chk (4 < 64) <|
 .chk (5 < 64) <|
 .chk (6 < 64) <|
 .chk (7 < 64) <|
 .chk (8 < 64) <|
 .chk (9 < 64) <|
 .chk (10 < 64) <|
 .chk (11 < 64) <|
 .chk (12 < 64) <|
 .chk (13 < 64) <|
 .chk (14 < 64) <|
 .chk (15 < 64) <|
 .chk (16 < 64) <|
 .chk (17 < 64) <|
 .chk (18 < 64) <|
 .chk (19 < 64) <|
 .chk (20 < 64) <|
 .chk (21 < 64) <|
 .chk (22 < 64) <|
 .chk (23 < 64) <|
 .chk (24 < 64) <|
 .chk (25 < 64) <|
 .chk (26 < 64) <|
 .chk (27 < 64) <|
 .chk (28 < 64) <|
 .chk (29 < 64) <|
 .chk (30 < 64) <|
 .chk (31 < 64) <|
 .chk (32 < 64) <|
 .chk (33 < 64) <|
 .chk (34 < 64) <|
 .chk (35 < 64) <|
 .chk (36 < 64) <|
 .chk (37 < 64) <|
 .chk (38 < 64) <|
 .chk (39 < 64) <|
 .chk (40 < 64) <|
 .chk (41 < 64) <|
 .chk (42 < 64) <|
 .chk (43 < 64) <|
 .chk (44 < 64) <|
 .chk (45 < 64) <|
 .chk (46 < 64) <|
 .chk (47 < 64) <|
 .chk (48 < 64) <|
 .chk (49 < 64) <|
 .chk (50 < 64) <|
 .chk (51 < 64) <|
 .chk (52 < 64) <|
 .chk (53 < 64) <|
 .chk (54 < 64) <|
 .chk (55 < 64) <|
 .chk (56 < 64) <|
 .chk (57 < 64) <|
 .chk (58 < 64) <|
 .chk (59 < 64) <|
 .chk (60 < 64) <|
 .chk (61 < 64) <|
 .chk (62 < 64) <|
 .chk (63 < 64) <|
 .ret ()
def qwT:Option (Unit):=(qA5).run some
def qKU:List (Nat×qw):=[]
def qA6:Ent:=smF ⟨113,[],[],[],[]⟩ [] (Unit) (fun x=>qwT) cs1 fun _=>qLb
theorem qJd:zf Tryz.prog (qA6):=
 zd (H:=qLi) (L:=qJ (qKU)) (ts:=[]) (T:=fun x=>qA5) 0 qQk (qHW 0) (qt (by kernel_rfl) trivial) (rg0 (by kernel_rfl)) fun x=>by kernel_rfl
noncomputable def qQo:Code:=Tryz.f145.body.getD .skip
theorem qP3:FnF Tryz.prog 145 Tryz.f145 qQo:=⟨qk,by kernel_rfl,by kernel_rfl,by kernel_rfl⟩
def qnQ:TH:={ live:=[(0,[0,1]),(1,[0,5]),(2,[4])] }
def qnX (N:Nat):List Ent:=[]
theorem qlp (N:Nat):qU Tryz.prog (qnX N):=trivial
def qnt (z:Int):TV×THp:=(.tv (.i .u32) z,[])
def Yr (a0:Int) (a1:Int):Tree (Int):=
 .chk (0≤(Ko .u64 (IntKind.u64.wrap a1) 31)) <|
 let w1:Int:=qBg .u32 a0 (min (Ko .u64 (IntKind.u64.wrap a1) 31).toNat 32)
 let w2:Int:=qpG .u64 ((32:Int)) (Ko .u64 (IntKind.u64.wrap a1) 31)
 .chk (0≤w2) <|
 .ret (uOr .u32 w1 (Jm a0 (min w2.toNat 32)))
def KF (a0:Int) (a1:Int):Option (Int):=(Yr a0 a1).run some
def qng:List (Nat×qw):=[]
def qdu:Ent:=smF ⟨145,[],[.x (.i .u32),.x (.i .i64)],[],[]⟩ [(.i .u32),(.i .i64)] (Int) (fun x=>KF x.1 x.2.1) cs1 fun _=>qnt
theorem qmm:zf Tryz.prog (qdu):=
 zd (H:=qnQ) (L:=qJ (qng)) (ts:=[(.i .u32),(.i .i64)]) (T:=fun x=>Yr x.1 x.2.1) 0 qP3 (qlp 0) (qt (by kernel_rfl) trivial) (rg0 (by kernel_rfl)) fun x=>by kernel_rfl
noncomputable def qO4:Code:=Tryz.f136.body.getD .skip
theorem qPs:FnF Tryz.prog 136 Tryz.f136 qO4:=⟨qk,by kernel_rfl,by kernel_rfl,by kernel_rfl⟩
def qK8:TH:={ live:=[(0,[0,1]),(1,[4])] }
def qK9 (N:Nat):List Ent:=[qdu]
theorem qHX (N:Nat):qU Tryz.prog (qK9 N):=⟨qmm,trivial⟩
def qKZ (z:Int):TV×THp:=(.tv (.i .u32) z,[])
def qpp (a0:Int) (a1:Int):Tree (Int):=
 .chk (qp (0 - a1)) <|
 .bind (KF a0 (0 - a1)) fun r1=>
 .ret r1
def jx (a0:Int) (a1:Int):Option (Int):=(qpp a0 a1).run some
def qLk:List (Nat×qw):=[]
def qpM:Ent:=smF ⟨136,[],[.x (.i .u32),.x (.i .i64)],[],[]⟩ [(.i .u32),(.i .i64)] (Int) (fun x=>jx x.1 x.2.1) cs1 fun _=>qKZ
theorem qxI:zf Tryz.prog (qpM):=
 zd (H:=qK8) (L:=qJ (qLk)) (ts:=[(.i .u32),(.i .i64)]) (T:=fun x=>qpp x.1 x.2.1) 0 qPs (qHX 0) (qt (by kernel_rfl) trivial) (rg0 (by kernel_rfl)) fun x=>by kernel_rfl
noncomputable def qxp:Code:=Tryz.f135.body.getD .skip
theorem qO5:FnF Tryz.prog 135 Tryz.f135 qxp:=⟨qk,by kernel_rfl,by kernel_rfl,by kernel_rfl⟩
def qjA:TH:={ live:=[(0,[0,2]),(1,[0,2,3]),(2,[0,2,3,7]),(3,[0,2,3,7,8]),(4,[0,2,3,4,7]),(5,[0,2,3,4,7,11]),(6,[0,2,3,7]),(7,[0,2,3,4,5,6,7]),(8,[0,2,3,7]),(9,[0,2,3,7]),(10,[2])] }
def qrB (N:Nat):List Ent:=[qpM]
theorem qnR (N:Nat):qU Tryz.prog (qrB N):=⟨qxI,trivial⟩
abbrev KS:=Vector UInt32 64×List UInt8
abbrev Vu:=Vector UInt32 64×Int×Bool
def WA (f:KS) (y:Vu):Ex×TSt:=(.exit 0,⟨0,86,[],[(0,.tv .bl f.2),(2,.p 20 [] 0),(3,.p 30 [] 0),(7,xi y.2.1),(8,xb y.2.2)],[(20,.cell false (.tv (.wa 64) f.1)),(30,.cell false (.tv (.wa 64) (y.1:Vector UInt32 64)))],false,[]⟩)
def qAd (N:Nat):List (Nat×qw):=[]
abbrev WM:=Vector UInt32 64×Int
def qlW:SP:=⟨0,86,[],[(0,.x .bl),(2,.k (.p 20 [] 0)),(3,.k (.p 30 [] 0)),(7,.x (.i .i64))],[(20,.cell false (.x (.wa 64))),(30,.cell false (.x (.wa 64)))],false,[]⟩
def qzH (f:KS) (v:WM):TSt:=zq qlW [dv (.wa 64) f.1,dv (.wa 64) v.1,dv .bl f.2,dv (.i .i64) v.2]
def Zn (N:Nat) (o_3:Vector UInt32 64) (s0_3:List UInt8) (v:WM):Tree (WM⊕Vu):=
 .cond (decide (v.2 < ((64:Int)))) (
 .cond (decide (v.2 < ((16:Int)))) (
 .chk (qp (((4:Int)) * v.2)) <|
 .bind (qM s0_3 (((4:Int)) * v.2)) fun e1=>
 let w2:Int:=IntKind.u32.wrap ((e1.toNat:Nat):Int)
 .chk (0≤(24:Int)) <|
 .chk (qp (((4:Int)) * v.2)) <|
 .chk (qp ((((4:Int)) * v.2) + 1)) <|
 .bind (qM s0_3 ((((4:Int)) * v.2) + 1)) fun e3=>
 let w4:Int:=IntKind.u32.wrap ((e3.toNat:Nat):Int)
 .chk (0≤(16:Int)) <|
 let w5:Int:=uOr .u32 (qBg .u32 w2 24) (qBg .u32 w4 16)
 .chk (qp (((4:Int)) * v.2)) <|
 .chk (qp ((((4:Int)) * v.2) + 2)) <|
 .bind (qM s0_3 ((((4:Int)) * v.2) + 2)) fun e6=>
 let w7:Int:=IntKind.u32.wrap ((e6.toNat:Nat):Int)
 .chk (0≤(8:Int)) <|
 .chk (qp (((4:Int)) * v.2)) <|
 .chk (qp ((((4:Int)) * v.2) + 3)) <|
 .bind (qM s0_3 ((((4:Int)) * v.2) + 3)) fun e8=>
 let w9:Int:=IntKind.u32.wrap ((e8.toNat:Nat):Int)
 let w10:Int:=uOr .u32 (uOr .u32 w5 (qBg .u32 w7 8)) w9
 .chk (0≤v.2∧v.2 < ((64:Nat):Int)) <|
 .chk (inW w10) <|
 .chk (v.2.toNat < 64) <|
 .chk (qp (v.2 + 1)) <|
 .ret (.inl (v.1.setIfInBounds v.2.toNat (UInt32.ofNat w10.toNat),v.2 + 1))) <|
 .chk (qp (v.2 - 15)) <|
 .chk (0≤(v.2 - 15)∧(v.2 - 15) < ((64:Nat):Int)) <|
 .chk ((v.2 - 15).toNat < 64) <|
 .chk (qp (v.2 - 2)) <|
 .chk (0≤(v.2 - 2)∧(v.2 - 2) < ((64:Nat):Int)) <|
 .chk ((v.2 - 2).toNat < 64) <|
 .chk (qp (v.2 - 16)) <|
 .chk (0≤(v.2 - 16)∧(v.2 - 16) < ((64:Nat):Int)) <|
 .chk ((v.2 - 16).toNat < 64) <|
 .chk (qp (v.2 - 7)) <|
 .chk (0≤(v.2 - 7)∧(v.2 - 7) < ((64:Nat):Int)) <|
 .chk ((v.2 - 7).toNat < 64) <|
 let w1:Int:=vd .u32 (((v.1.toList.getD ((v.2 - 16).toNat) 0).toNat:Nat):Int) (((v.1.toList.getD ((v.2 - 7).toNat) 0).toNat:Nat):Int)
 .bind (jx (((v.1.toList.getD ((v.2 - 15).toNat) 0).toNat:Nat):Int) 7) fun r2=>
 .bind (jx (((v.1.toList.getD ((v.2 - 15).toNat) 0).toNat:Nat):Int) 18) fun r3=>
 .chk (0≤(3:Int)) <|
 let w4:Int:=Jm (((v.1.toList.getD ((v.2 - 15).toNat) 0).toNat:Nat):Int) 3
 let w5:Int:=vd .u32 w1 (Xa .u32 (Xa .u32 r2 r3) w4)
 .bind (jx (((v.1.toList.getD ((v.2 - 2).toNat) 0).toNat:Nat):Int) 17) fun r6=>
 .bind (jx (((v.1.toList.getD ((v.2 - 2).toNat) 0).toNat:Nat):Int) 19) fun r7=>
 .chk (0≤(10:Int)) <|
 let w8:Int:=Jm (((v.1.toList.getD ((v.2 - 2).toNat) 0).toNat:Nat):Int) 10
 let w9:Int:=vd .u32 w5 (Xa .u32 (Xa .u32 r6 r7) w8)
 .chk (0≤v.2∧v.2 < ((64:Nat):Int)) <|
 .chk (inW w9) <|
 .chk (v.2.toNat < 64) <|
 .chk (qp (v.2 + 1)) <|
 .ret (.inl (v.1.setIfInBounds v.2.toNat (UInt32.ofNat w9.toNat),v.2 + 1))) <|
 .ret (.inr (v.1,v.2,decide (v.2 < ((64:Int)))))
def qlS (N n:Nat) (f:KS) (v:WM):Option Vu:=qQ (Zn N f.1 f.2) some n v
theorem qAa (N:Nat) (f:KS) (n:Nat) (v:WM) (y:Vu) (h:qlS N n f v=some y):LG Tryz.prog qjA 135 (qE qxp 3) (qzH f v) (WA f y):=
 zj qk (E:=qrB N) (L:=qJ (qAd N)) (st:=WA f) (g:=some) (R:=WA f) (qnR N) (qt (by kernel_rfl) trivial) (rg0 (by kernel_rfl)) (fun v=>by kernel_rfl) (qP (st:=WA f) fun y=>by rfl) n v y h
def qhQ (N:Nat) (o_3:Vector UInt32 64) (s0_3:List UInt8) (o_3_2:Vector UInt32 64) (s7_3:Int):Option Vu:=qlS N N (o_3,s0_3) (o_3_2,s7_3)
def qlU (N:Nat):qw:=smL qlW [(.wa 64),(.wa 64),.bl,(.i .i64)] Vu (fun x=>qhQ N x.1 x.2.2.1 x.2.1 x.2.2.2.1) cs1 fun x=>WA (x.1,x.2.2.1)
theorem qy3 (N:Nat):zZ Tryz.prog qjA 135 (qE qxp 3) (qlU N):=zp fun x z h=>qAa N (x.1,x.2.2.1) N (x.2.1,x.2.2.2.1) z h
def qFc (z:Vector UInt32 64):TV×THp:=(.tv (.wa 64) z,[])
def qjW (N:Nat) (a0:List UInt8):Tree (Vector UInt32 64):=
 .bind (qhQ N ((Vector.replicate 64 0)) a0 ((Vector.replicate 64 0)) 0) fun z1=>
 .ret z1.1
def qih (N:Nat) (a0:List UInt8):Option (Vector UInt32 64):=(qjW N a0).run some
def qFs (N:Nat):List (Nat×qw):=[(3,qlU N)]
def qsv (N:Nat):Ent:=smF ⟨135,[],[.x .bl],[],[]⟩ [.bl] (Vector UInt32 64) (fun x=>qih N x.1) cs1 fun _=>qFc
theorem qDs (N:Nat):zf Tryz.prog (qsv N):=
 zd (H:=qjA) (L:=qJ (qFs N)) (ts:=[.bl]) (T:=fun x=>qjW N x.1) 0 qO5 (qnR N) (qt (by kernel_rfl) ⟨qy3 N,trivial⟩) (rg0 (by kernel_rfl)) fun x=>by kernel_rfl
noncomputable def qkX:Code:=Tryz.f114.body.getD .skip
theorem qPu:FnF Tryz.prog 114 Tryz.f114 qkX:=⟨qk,by kernel_rfl,by kernel_rfl,by kernel_rfl⟩
def Yq:TH:={ live:=[(0,[0,2,6]),(1,[0,2,6,7]),(2,[0,2,6,7,19]),(3,[0,2,6,7,19,20]),(4,[0,2,6,7,8,19]),(5,[0,2,6,7,8,9,10,19]),(6,[0,2,6,7,9,11,19]),(7,[0,2,6,7,11,12,19]),(8,[0,2,6,7,11,12,19]),(9,[0,2,6,7,11,19]),(10,[0,2,6,7,19]),(11,[0,2,6,7,19]),(12,[0,7,95]),(13,[0,7,95,96]),(14,[0,7,13,95]),(15,[0,7,95]),(16,[0,7,95])] }
def qgz (N:Nat):List Ent:=[qsv N,qpM]
theorem qdz (N:Nat):qU Tryz.prog (qgz N):=⟨qDs N,qxI,trivial⟩
abbrev Yv:=Vector UInt32 8×Vector UInt32 64×Vector UInt32 64
abbrev Zu:=Vector UInt32 8×Int×Bool
def VW (f:Yv) (y:Zu):Ex×TSt:=(.exit 0,⟨1,110,[50,60],[(0,.p 50 [] 0),(2,.p 60 [] 0),(6,.p 100060 [] 0),(7,.p 100070 [] 0),(19,xi y.2.1),(20,xb y.2.2)],[(50,.cell false (.tv (.wa 8) f.1)),(60,.cell false (.tv (.wa 64) f.2.1)),(100060,.cell false (.tv (.wa 64) f.2.2)),(100070,.cell false (.tv (.wa 8) (y.1:Vector UInt32 8)))],false,[]⟩)
def qvr (N:Nat):List (Nat×qw):=[]
abbrev VV:=Vector UInt32 8×Int
def qi6:SP:=⟨1,110,[50,60],[(0,.k (.p 50 [] 0)),(2,.k (.p 60 [] 0)),(6,.k (.p 100060 [] 0)),(7,.k (.p 100070 [] 0)),(19,.x (.i .i64))],[(50,.cell false (.x (.wa 8))),(60,.cell false (.x (.wa 64))),(100060,.cell false (.x (.wa 64))),(100070,.cell false (.x (.wa 8)))],false,[]⟩
def qvL (f:Yv) (v:VV):TSt:=zq qi6 [dv (.wa 8) f.1,dv (.wa 64) f.2.1,dv (.wa 64) f.2.2,dv (.wa 8) v.1,dv (.i .i64) v.2]
def V0 (N:Nat) (o_3:Vector UInt32 8) (o_3_2:Vector UInt32 64) (o_3_3:Vector UInt32 64) (v:VV):Tree (VV⊕Zu):=
 .cond (decide (v.2 < ((64:Int)))) (
 .chk (0≤(0:Int)∧(0:Int) < ((8:Nat):Int)) <|
 .chk (0 < 8) <|
 .chk (0≤(4:Int)∧(4:Int) < ((8:Nat):Int)) <|
 .chk (4 < 8) <|
 .chk (0≤(7:Int)∧(7:Int) < ((8:Nat):Int)) <|
 .chk (7 < 8) <|
 .bind (jx (((v.1.toList.getD 4 0).toNat:Nat):Int) 6) fun r1=>
 .bind (jx (((v.1.toList.getD 4 0).toNat:Nat):Int) 11) fun r2=>
 .bind (jx (((v.1.toList.getD 4 0).toNat:Nat):Int) 25) fun r3=>
 let w4:Int:=vd .u32 (((v.1.toList.getD 7 0).toNat:Nat):Int) (Xa .u32 (Xa .u32 r1 r2) r3)
 .chk (0≤(5:Int)∧(5:Int) < ((8:Nat):Int)) <|
 .chk (5 < 8) <|
 let w5:Int:=Ko .u32 (((v.1.toList.getD 4 0).toNat:Nat):Int) (((v.1.toList.getD 5 0).toNat:Nat):Int)
 let w6:Int:=Xa .u32 (4294967295) (((v.1.toList.getD 4 0).toNat:Nat):Int)
 .chk (0≤(6:Int)∧(6:Int) < ((8:Nat):Int)) <|
 .chk (6 < 8) <|
 let w7:Int:=Ko .u32 w6 (((v.1.toList.getD 6 0).toNat:Nat):Int)
 .chk (0≤v.2∧v.2 < ((64:Nat):Int)) <|
 .chk (v.2.toNat < 64) <|
 let w8:Int:=vd .u32 (vd .u32 w4 (Xa .u32 w5 w7)) (((o_3_2.toList.getD v.2.toNat 0).toNat:Nat):Int)
 .chk (0≤v.2∧v.2 < ((64:Nat):Int)) <|
 .chk (v.2.toNat < 64) <|
 let w9:Int:=vd .u32 w8 (((o_3_3.toList.getD v.2.toNat 0).toNat:Nat):Int)
 .bind (jx (((v.1.toList.getD 0 0).toNat:Nat):Int) 2) fun r10=>
 .bind (jx (((v.1.toList.getD 0 0).toNat:Nat):Int) 13) fun r11=>
 .bind (jx (((v.1.toList.getD 0 0).toNat:Nat):Int) 22) fun r12=>
 .chk (0≤(1:Int)∧(1:Int) < ((8:Nat):Int)) <|
 .chk (1 < 8) <|
 let w13:Int:=Ko .u32 (((v.1.toList.getD 0 0).toNat:Nat):Int) (((v.1.toList.getD 1 0).toNat:Nat):Int)
 .chk (0≤(2:Int)∧(2:Int) < ((8:Nat):Int)) <|
 .chk (2 < 8) <|
 let w14:Int:=Ko .u32 (((v.1.toList.getD 0 0).toNat:Nat):Int) (((v.1.toList.getD 2 0).toNat:Nat):Int)
 .chk (0≤(1:Int)∧(1:Int) < ((8:Nat):Int)) <|
 .chk (1 < 8) <|
 .chk (0≤(2:Int)∧(2:Int) < ((8:Nat):Int)) <|
 .chk (2 < 8) <|
 let w15:Int:=Ko .u32 (((v.1.toList.getD 1 0).toNat:Nat):Int) (((v.1.toList.getD 2 0).toNat:Nat):Int)
 let w16:Int:=vd .u32 (Xa .u32 (Xa .u32 r10 r11) r12) (Xa .u32 (Xa .u32 w13 w14) w15)
 .chk (0≤(0:Int)∧(0:Int) < ((8:Nat):Int)) <|
 .chk (inW (vd .u32 w9 w16)) <|
 .chk (0 < 8) <|
 .chk (0≤(4:Int)∧(4:Int) < ((8:Nat):Int)) <|
 .chk (4 < 8) <|
 let w17:Int:=vd .u32 (((((qbR v.1 1 7).setIfInBounds 0 (UInt32.ofNat (vd .u32 w9 w16).toNat)).toList.getD 4 0).toNat:Nat):Int) w9
 .chk (0≤(4:Int)∧(4:Int) < ((8:Nat):Int)) <|
 .chk (inW w17) <|
 .chk (4 < 8) <|
 .chk (qp (v.2 + 1)) <|
 .ret (.inl (((qbR v.1 1 7).setIfInBounds 0 (UInt32.ofNat (vd .u32 w9 w16).toNat)).setIfInBounds 4 (UInt32.ofNat w17.toNat),v.2 + 1))) <|
 .ret (.inr (v.1,v.2,decide (v.2 < ((64:Int)))))
def qi5 (N n:Nat) (f:Yv) (v:VV):Option Zu:=qQ (V0 N f.1 f.2.1 f.2.2) some n v
theorem qwm (N:Nat) (f:Yv) (n:Nat) (v:VV) (y:Zu) (h:qi5 N n f v=some y):LG Tryz.prog Yq 114 (qE qkX 3) (qvL f v) (VW f y):=
 zj qk (E:=qgz N) (L:=qJ (qvr N)) (st:=VW f) (g:=some) (R:=VW f) (qdz N) (qt (by kernel_rfl) trivial) (rg0 (by kernel_rfl)) (fun v=>by kernel_rfl) (qP (st:=VW f) fun y=>by rfl) n v y h
def qfa (N:Nat) (o_3:Vector UInt32 8) (o_3_2:Vector UInt32 64) (o_3_3:Vector UInt32 64) (o_3_4:Vector UInt32 8) (s19_3:Int):Option Zu:=qi5 N N (o_3,o_3_2,o_3_3) (o_3_4,s19_3)
def qjr (N:Nat):qw:=smL qi6 [(.wa 8),(.wa 64),(.wa 64),(.wa 8),(.i .i64)] Zu (fun x=>qfa N x.1 x.2.1 x.2.2.1 x.2.2.2.1 x.2.2.2.2.1) cs1 fun x=>VW (x.1,x.2.1,x.2.2.1)
theorem qtE (N:Nat):zZ Tryz.prog Yq 114 (qE qkX 3) (qjr N):=zp fun x z h=>qwm N (x.1,x.2.1,x.2.2.1) N (x.2.2.2.1,x.2.2.2.2.1) z h
abbrev WX:=Vector UInt32 64×Vector UInt32 8
abbrev Q7:=Vector UInt32 8×Int×Bool
def Ve (f:WX) (y:Q7):Ex×TSt:=(.exit 2,⟨1,110,[50,60],[(0,.p 50 [] 0),(7,.p 100070 [] 0),(95,xi y.2.1),(96,xb y.2.2)],[(50,.cell false (.tv (.wa 8) (y.1:Vector UInt32 8))),(60,.cell false (.tv (.wa 64) f.1)),(100070,.cell false (.tv (.wa 8) f.2))],false,[]⟩)
def qtw (N:Nat):List (Nat×qw):=[]
abbrev Vn:=Vector UInt32 8×Int
def qiP:SP:=⟨1,110,[50,60],[(0,.k (.p 50 [] 0)),(7,.k (.p 100070 [] 0)),(95,.x (.i .i64))],[(50,.cell false (.x (.wa 8))),(60,.cell false (.x (.wa 64))),(100070,.cell false (.x (.wa 8)))],false,[]⟩
def qtt (f:WX) (v:Vn):TSt:=zq qiP [dv (.wa 8) v.1,dv (.wa 64) f.1,dv (.wa 8) f.2,dv (.i .i64) v.2]
def WT (N:Nat) (o_13_2:Vector UInt32 64) (o_13_3:Vector UInt32 8) (v:Vn):Tree (Vn⊕Q7):=
 .cond (decide (v.2 < ((8:Int)))) (
 .chk (0≤v.2∧v.2 < ((8:Nat):Int)) <|
 .chk (v.2.toNat < 8) <|
 .chk (0≤v.2∧v.2 < ((8:Nat):Int)) <|
 .chk (v.2.toNat < 8) <|
 let w1:Int:=vd .u32 (((v.1.toList.getD v.2.toNat 0).toNat:Nat):Int) (((o_13_3.toList.getD v.2.toNat 0).toNat:Nat):Int)
 .chk (0≤v.2∧v.2 < ((8:Nat):Int)) <|
 .chk (inW w1) <|
 .chk (v.2.toNat < 8) <|
 .chk (qp (v.2 + 1)) <|
 .ret (.inl (v.1.setIfInBounds v.2.toNat (UInt32.ofNat w1.toNat),v.2 + 1))) <|
 .ret (.inr (v.1,v.2,decide (v.2 < ((8:Int)))))
def qiy (N n:Nat) (f:WX) (v:Vn):Option Q7:=qQ (WT N f.1 f.2) some n v
theorem quy (N:Nat) (f:WX) (n:Nat) (v:Vn) (y:Q7) (h:qiy N n f v=some y):LG Tryz.prog Yq 114 (qE qkX 13) (qtt f v) (Ve f y):=
 zj qk (E:=qgz N) (L:=qJ (qtw N)) (st:=Ve f) (g:=some) (R:=Ve f) (qdz N) (qt (by kernel_rfl) trivial) (rg0 (by kernel_rfl)) (fun v=>by kernel_rfl) (qP (st:=Ve f) fun y=>by rfl) n v y h
def qdA (N:Nat) (o_13_2:Vector UInt32 64) (o_13_3:Vector UInt32 8) (o_13:Vector UInt32 8) (s95_13:Int):Option Q7:=qiy N N (o_13_2,o_13_3) (o_13,s95_13)
def qiG (N:Nat):qw:=smL qiP [(.wa 8),(.wa 64),(.wa 8),(.i .i64)] Q7 (fun x=>qdA N x.2.1 x.2.2.1 x.1 x.2.2.2.1) cs1 fun x=>Ve (x.2.1,x.2.2.1)
theorem qsN (N:Nat):zZ Tryz.prog Yq 114 (qE qkX 13) (qiG N):=zp fun x z h=>quy N (x.2.1,x.2.2.1) N (x.1,x.2.2.2.1) z h
def qCG (a1:Vector UInt32 64) (z:Vector UInt32 8):TV×THp:=(.tup [],[(50,.cell false (.tv (.wa 8) z)),(60,.cell false (.tv (.wa 64) a1))])
def qgH (N:Nat) (a0:Vector UInt32 8) (a1:Vector UInt32 64) (a2:List UInt8):Tree (Vector UInt32 8):=
 .bind (qih N a2) fun r1=>
 .bind (qfa N a0 a1 r1 a0 0) fun z2=>
 .bind (qdA N a1 z2.1 a0 0) fun z3=>
 .ret z3.1
def K4 (N:Nat) (a0:Vector UInt32 8) (a1:Vector UInt32 64) (a2:List UInt8):Option (Vector UInt32 8):=(qgH N a0 a1 a2).run some
def qCA (N:Nat):List (Nat×qw):=[(3,qjr N),(13,qiG N)]
def qnp (N:Nat):Ent:=smF ⟨114,[],[.k (.p 50 [] 0),.x .bl,.k (.p 60 [] 0)],[],[(50,.cell false (.x (.wa 8))),(60,.cell false (.x (.wa 64)))]⟩ [(.wa 8),(.wa 64),.bl] (Vector UInt32 8) (fun x=>K4 N x.1 x.2.1 x.2.2.1) cs1 fun x=>qCG x.2.1
theorem qzJ (N:Nat):zf Tryz.prog (qnp N):=
 zd (H:=Yq) (L:=qJ (qCA N)) (ts:=[(.wa 8),(.wa 64),.bl]) (T:=fun x=>qgH N x.1 x.2.1 x.2.2.1) 0 qPu (qdz N) (qt (by kernel_rfl) ⟨qtE N,qsN N,trivial⟩) (rg0 (by kernel_rfl)) fun x=>by kernel_rfl
noncomputable def Kv:Code:=Tryz.f85.body.getD .skip
theorem qRc:FnF Tryz.prog 85 Tryz.f85 Kv:=⟨qk,by kernel_rfl,by kernel_rfl,by kernel_rfl⟩
def W7:TH:={ live:=[(0,[0,2]),(1,[0,2,3]),(2,[0,2,3,16]),(3,[0,2,3]),(4,[0,2,3,20]),(5,[0,2,3,20,21]),(6,[0,2,3,4,20]),(7,[0,2,3,20]),(8,[0,2,3,20]),(9,[2,3,5,6]),(10,[2,3,5,6,40]),(11,[2,3,5,6]),(12,[2,3,5,6]),(13,[2,5,7]),(14,[2,5,7,46]),(15,[2,5,7,46,47]),(16,[2,5,7,8,46]),(17,[2,5,7,46]),(18,[2,5,7,46]),(19,[2])],fresh:=[10] }
def qg9 (N:Nat):List Ent:=[qrY,qBb,qA6,qnp N]
theorem qb0 (N:Nat):qU Tryz.prog (qg9 N):=⟨qDl,qKs,qJd,qzJ N,trivial⟩
abbrev qiL:=Vector UInt8 32×List UInt8
abbrev qaa:=List UInt8×Bool
def qdE (f:qiL) (y:qaa):Ex×TSt:=(.exit 0,⟨0,63,[],[(0,.tv .bl f.2),(2,.p 20 [] 0),(3,.v 100050 y.1.length),(16,xb y.2)],[(20,.cell false (.tv (.ba 32) f.1)),(100050,.vec false 1 .bl (y.1:List UInt8))],false,[]⟩)
def qIN (N:Nat):List (Nat×qw):=[]
abbrev qdd:=List UInt8
def qx6:SP:=⟨0,63,[],[(0,.x .bl),(2,.k (.p 20 [] 0)),(3,.vs 100050)],[(20,.cell false (.x (.ba 32))),(100050,.vec false 1)],false,[]⟩
def qKd (f:qiL) (v:qdd):TSt:=zq qx6 [dv .bl v,dv (.ba 32) f.1,dv .bl f.2]
def qdj (N:Nat) (o_2_2:Vector UInt8 32) (s0_2:List UInt8) (v:qdd):Tree (qdd⊕qaa):=
 .chk ((64:Int)≠0) <|
 .cond (!decide ((((v.length:Nat):Int).tmod 64)=56)) (
 .chk (zU v.length v.length ((v++[(UInt8.ofNat 0)]).length) 1) <|
 .ret (.inl (v++[(UInt8.ofNat 0)]))) <|
 .ret (.inr (v,!decide ((((v.length:Nat):Int).tmod 64)=56)))
def qy2 (N n:Nat) (f:qiL) (v:qdd):Option qaa:=qQ (qdj N f.1 f.2) some n v
theorem qJY (N:Nat) (f:qiL) (n:Nat) (v:qdd) (y:qaa) (h:qy2 N n f v=some y):LG Tryz.prog W7 85 (qE Kv 2) (qKd f v) (qdE f y):=
 zj qk (E:=qg9 N) (L:=qJ (qIN N)) (st:=qdE f) (g:=some) (R:=qdE f) (qb0 N) (qt (by kernel_rfl) trivial) (rg0 (by kernel_rfl)) (fun v=>by kernel_rfl) (qP (st:=qdE f) fun y=>by rfl) n v y h
def qma (N:Nat) (o_2_2:Vector UInt8 32) (s0_2:List UInt8) (o_2:List UInt8):Option qaa:=qy2 N N (o_2_2,s0_2) o_2
def qxr (N:Nat):qw:=smL qx6 [.bl,(.ba 32),.bl] qaa (fun x=>qma N x.2.1 x.2.2.1 x.1) cs1 fun x=>qdE (x.2.1,x.2.2.1)
theorem qH0 (N:Nat):zZ Tryz.prog W7 85 (qE Kv 2) (qxr N):=zp fun x z h=>qJY N (x.2.1,x.2.2.1) N x.1 z h
abbrev qiz:=Vector UInt8 32×List UInt8
abbrev qal:=List UInt8×Int×Bool
def qdK (f:qiz) (y:qal):Ex×TSt:=(.exit 2,⟨0,63,[],[(0,.tv .bl f.2),(2,.p 20 [] 0),(3,.v 100050 y.1.length),(20,xi y.2.1),(21,xb y.2.2)],[(20,.cell false (.tv (.ba 32) f.1)),(100050,.vec false 1 .bl (y.1:List UInt8))],false,[]⟩)
def qI_ (N:Nat):List (Nat×qw):=[]
abbrev qd2:=List UInt8×Int
def qxz:SP:=⟨0,63,[],[(0,.x .bl),(2,.k (.p 20 [] 0)),(3,.vs 100050),(20,.x (.i .i64))],[(20,.cell false (.x (.ba 32))),(100050,.vec false 1)],false,[]⟩
def qKe (f:qiz) (v:qd2):TSt:=zq qxz [dv .bl v.1,dv (.ba 32) f.1,dv .bl f.2,dv (.i .i64) v.2]
def qiw (N:Nat) (o_5_2:Vector UInt8 32) (s0_5:List UInt8) (v:qd2):Tree (qd2⊕qal):=
 .cond (decide (v.2 < ((8:Int)))) (
 let w1:Int:=IntKind.u64.wrap ((s0_5.length:Nat):Int)
 .chk (qp (((7:Int)) - v.2)) <|
 .chk (qp (((8:Int)) * (((7:Int)) - v.2))) <|
 .chk (0≤(((8:Int)) * (((7:Int)) - v.2))) <|
 let w2:Int:=Jm (qnY .u64 w1 8) (min (((8:Int)) * (((7:Int)) - v.2)).toNat 64)
 .chk (inB (IntKind.u8.wrap w2)) <|
 .chk (zU v.1.length v.1.length ((v.1++[UInt8.ofNat (IntKind.u8.wrap w2).toNat]).length) 1) <|
 .chk (qp (v.2 + 1)) <|
 .ret (.inl (v.1++[UInt8.ofNat (IntKind.u8.wrap w2).toNat],v.2 + 1))) <|
 .ret (.inr (v.1,v.2,decide (v.2 < ((8:Int)))))
def qyT (N n:Nat) (f:qiz) (v:qd2):Option qal:=qQ (qiw N f.1 f.2) some n v
theorem qJl (N:Nat) (f:qiz) (n:Nat) (v:qd2) (y:qal) (h:qyT N n f v=some y):LG Tryz.prog W7 85 (qE Kv 5) (qKe f v) (qdK f y):=
 zj qk (E:=qg9 N) (L:=qJ (qI_ N)) (st:=qdK f) (g:=some) (R:=qdK f) (qb0 N) (qt (by kernel_rfl) trivial) (rg0 (by kernel_rfl)) (fun v=>by kernel_rfl) (qP (st:=qdK f) fun y=>by rfl) n v y h
def quq (N:Nat) (o_5_2:Vector UInt8 32) (s0_5:List UInt8) (o_5:List UInt8) (s20_5:Int):Option qal:=qyT N N (o_5_2,s0_5) (o_5,s20_5)
def qxv (N:Nat):qw:=smL qxz [.bl,(.ba 32),.bl,(.i .i64)] qal (fun x=>quq N x.2.1 x.2.2.1 x.1 x.2.2.2.1) cs1 fun x=>qdK (x.2.1,x.2.2.1)
theorem qHx (N:Nat):zZ Tryz.prog W7 85 (qE Kv 5) (qxv N):=zp fun x z h=>qJl N (x.2.1,x.2.2.1) N (x.1,x.2.2.2.1) z h
abbrev Jc:=List UInt8×Vector UInt8 32×Vector UInt32 8×Vector UInt32 64
abbrev Q2:=Unit⊕(Vector UInt32 8×List UInt8×Bool)
def Jf (f:Jc):Q2→Ex×TSt
 | .inl y=>(.exit 4,⟨0,63,[],[(2,.p 20 [] 0),(3,.v 100050 f.1.length),(5,.p 50 [] 0),(6,.p 60 [] 0),(40,xb (decide (((0:Int)) < ((f.1.length:Nat):Int))))],[(20,.cell false (.tv (.ba 32) f.2.1)),(50,.cell false (.tv (.wa 8) f.2.2.1)),(60,.cell false (.tv (.wa 64) f.2.2.2)),(100050,.vec false 1 .bl f.1)],false,[]⟩)
 | .inr y=>(.exit 4,⟨0,63,[],[(2,.p 20 [] 0),(3,.tv .bl (y.2.1:List UInt8)),(5,.p 50 [] 0),(6,.p 60 [] 0),(40,xb y.2.2)],[(20,.cell false (.tv (.ba 32) f.2.1)),(50,.cell false (.tv (.wa 8) (y.1:Vector UInt32 8))),(60,.cell false (.tv (.wa 64) f.2.2.2))],false,[]⟩)
def qu7 (N:Nat):List (Nat×qw):=[]
abbrev V5:=Vector UInt32 8×List UInt8
def qCd:SP:=⟨0,63,[],[(2,.k (.p 20 [] 0)),(3,.x .bl),(5,.k (.p 50 [] 0)),(6,.k (.p 60 [] 0))],[(20,.cell false (.x (.ba 32))),(50,.cell false (.x (.wa 8))),(60,.cell false (.x (.wa 64)))],false,[]⟩
def qni (f:Jc) (v:V5):TSt:=zq qCd [dv (.ba 32) f.2.1,dv (.wa 8) v.1,dv (.wa 64) f.2.2.2,dv .bl v.2]
def qbr (N:Nat) (o_10:List UInt8) (o_10_2:Vector UInt8 32) (o_10_3:Vector UInt32 8) (o_10_4:Vector UInt32 64) (v:V5):Tree (V5⊕Q2):=
 .cond (decide (((0:Int)) < ((v.2.length:Nat):Int))) (
 .chk (0≤(0:Int)∧(0:Int)≤(64:Int)∧(64:Int)≤((v.2.length:Nat):Int)) <|
 .bind (K4 N v.1 o_10_4 ((v.2.take 64).drop 0)) fun r1=>
 .chk (0≤(64:Int)∧(64:Int)≤((v.2.length:Nat):Int)) <|
 .ret (.inl (r1,v.2.drop 64))) <|
 .ret (.inr (.inr ((v.1,v.2,decide (((0:Int)) < ((v.2.length:Nat):Int))))))
def qmX (N n:Nat) (f:Jc) (v:V5):Option Q2:=qQ (qbr N f.1 f.2.1 f.2.2.1 f.2.2.2) some n v
theorem qCR (N:Nat) (f:Jc) (n:Nat) (v:V5) (y:Q2) (h:qmX N n f v=some y):LG Tryz.prog W7 85 (qE Kv 10) (qni f v) (Jf f y):=
 zj qk (E:=qg9 N) (L:=qJ (qu7 N)) (st:=Jf f) (g:=some) (R:=Jf f) (qb0 N) (qt (by kernel_rfl) trivial) (rg0 (by kernel_rfl)) (fun v=>by kernel_rfl) (qP (st:=Jf f) fun y=>by rcases y with _ | _<;>rfl) n v y h
abbrev qbQ:=Unit
def qvi:SP:=⟨0,63,[],[(2,.k (.p 20 [] 0)),(3,.vs 100050),(5,.k (.p 50 [] 0)),(6,.k (.p 60 [] 0))],[(20,.cell false (.x (.ba 32))),(50,.cell false (.x (.wa 8))),(60,.cell false (.x (.wa 64))),(100050,.vec false 1)],false,[]⟩
def qHt (f:Jc) (v:qbQ):TSt:=zq qvi [dv .bl f.1,dv (.ba 32) f.2.1,dv (.wa 8) f.2.2.1,dv (.wa 64) f.2.2.2]
abbrev qlB:=V5⊕Q2
def qgj (N:Nat) (o_10:List UInt8) (o_10_2:Vector UInt8 32) (o_10_3:Vector UInt32 8) (o_10_4:Vector UInt32 64) (v:qbQ):Tree (qbQ⊕qlB):=
 .cond (decide (((0:Int)) < ((o_10.length:Nat):Int))) (
 .chk (0≤(0:Int)∧(0:Int)≤(64:Int)∧(64:Int)≤((o_10.length:Nat):Int)) <|
 .chk (o_10.length=o_10.length) <|
 .bind (K4 N o_10_3 o_10_4 ((o_10.take 64).drop 0)) fun r1=>
 .chk (0≤(64:Int)∧(64:Int)≤((o_10.length:Nat):Int)) <|
 .chk (o_10.length=o_10.length) <|
 .ret (.inr (.inl (r1,o_10.drop 64)))) <|
 .ret (.inr (.inr ((.inl ()))))
def qlr (N n:Nat) (f:Jc):qlB→Option Q2
 | .inl w=>qmX N n f w
 | .inr w=>some w
def qHc (f:Jc):qlB→Ex×TSt
 | .inl w=>(.normal,qni f w)
 | .inr w=>Jf f w
def qu1 (N n:Nat) (f:Jc) (v:qbQ):Option Q2:=qQ (qgj N f.1 f.2.1 f.2.2.1 f.2.2.2) (qlr N n f) n v
theorem qHo (N:Nat) (f:Jc) (n:Nat) (v:qbQ) (y:Q2) (h:qu1 N n f v=some y):LG Tryz.prog W7 85 (qE Kv 10) (qHt f v) (Jf f y):=
 zj qk (E:=qg9 N) (L:=qJ (qu7 N)) (st:=qHc f) (g:=(qlr N n f)) (R:=Jf f) (qb0 N) (qt (by kernel_rfl) trivial) (rg0 (by kernel_rfl)) (fun v=>by kernel_rfl) (fun w y h=>by
 rcases w with w | w
 ·exact qCR N f n w y h
 ·exact qP (st:=Jf f) (fun y=>by rcases y with _ | _<;>rfl) w y h
) n v y h
def qf7 (N:Nat) (o_10:List UInt8) (o_10_2:Vector UInt8 32) (o_10_3:Vector UInt32 8) (o_10_4:Vector UInt32 64):Option Q2:=qu1 N N (o_10,o_10_2,o_10_3,o_10_4) ()
def qu5 (N:Nat):qw:=smL qvi [.bl,(.ba 32),(.wa 8),(.wa 64)] Q2 (fun x=>qf7 N x.1 x.2.1 x.2.2.1 x.2.2.2.1) (csS cs1) fun x=>Jf (x.1,x.2.1,x.2.2.1,x.2.2.2.1)
theorem qFe (N:Nat):zZ Tryz.prog W7 85 (qE Kv 10) (qu5 N):=zp fun x z h=>qHo N (x.1,x.2.1,x.2.2.1,x.2.2.2.1) N () z h
abbrev qgl:=Vector UInt8 32×Vector UInt32 8
abbrev YU:=Vector UInt8 32×Int×Bool
def qbJ (f:qgl) (y:YU):Ex×TSt:=(.exit 6,⟨0,63,[],[(2,.p 20 [] 0),(5,.p 50 [] 0),(7,.p 70 [] 0),(46,xi y.2.1),(47,xb y.2.2)],[(20,.cell false (.tv (.ba 32) f.1)),(50,.cell false (.tv (.wa 8) f.2)),(70,.cell false (.tv (.ba 32) (y.1:Vector UInt8 32)))],false,[]⟩)
def qHM (N:Nat):List (Nat×qw):=[]
abbrev qbY:=Vector UInt8 32×Int
def qvp:SP:=⟨0,63,[],[(2,.k (.p 20 [] 0)),(5,.k (.p 50 [] 0)),(7,.k (.p 70 [] 0)),(46,.x (.i .i64))],[(20,.cell false (.x (.ba 32))),(50,.cell false (.x (.wa 8))),(70,.cell false (.x (.ba 32)))],false,[]⟩
def qHa (f:qgl) (v:qbY):TSt:=zq qvp [dv (.ba 32) f.1,dv (.wa 8) f.2,dv (.ba 32) v.1,dv (.i .i64) v.2]
def qgp (N:Nat) (o_15:Vector UInt8 32) (o_15_2:Vector UInt32 8) (v:qbY):Tree (qbY⊕YU):=
 .cond (decide (v.2 < ((32:Int)))) (
 .chk ((4:Int)≠0) <|
 .chk (qp (v.2.tdiv 4)) <|
 .chk (0≤(v.2.tdiv 4)∧(v.2.tdiv 4) < ((8:Nat):Int)) <|
 .chk ((v.2.tdiv 4).toNat < 8) <|
 .chk ((4:Int)≠0) <|
 .chk (qp (((8:Int)) * (v.2.tmod 4))) <|
 .chk (qp (((24:Int)) - (((8:Int)) * (v.2.tmod 4)))) <|
 .chk (0≤(((24:Int)) - (((8:Int)) * (v.2.tmod 4)))) <|
 let w1:Int:=Jm (((o_15_2.toList.getD ((v.2.tdiv 4).toNat) 0).toNat:Nat):Int) (min (((24:Int)) - (((8:Int)) * (v.2.tmod 4))).toNat 32)
 .chk (0≤v.2∧v.2 < ((32:Nat):Int)) <|
 .chk (inB (IntKind.u8.wrap w1)) <|
 .chk (v.2.toNat < 32) <|
 .chk (qp (v.2 + 1)) <|
 .ret (.inl (v.1.setIfInBounds v.2.toNat (UInt8.ofNat (IntKind.u8.wrap w1).toNat),v.2 + 1))) <|
 .ret (.inr (v.1,v.2,decide (v.2 < ((32:Int)))))
def qvo (N n:Nat) (f:qgl) (v:qbY):Option YU:=qQ (qgp N f.1 f.2) some n v
theorem qHB (N:Nat) (f:qgl) (n:Nat) (v:qbY) (y:YU) (h:qvo N n f v=some y):LG Tryz.prog W7 85 (qE Kv 15) (qHa f v) (qbJ f y):=
 zj qk (E:=qg9 N) (L:=qJ (qHM N)) (st:=qbJ f) (g:=some) (R:=qbJ f) (qb0 N) (qt (by kernel_rfl) trivial) (rg0 (by kernel_rfl)) (fun v=>by kernel_rfl) (qP (st:=qbJ f) fun y=>by rfl) n v y h
def qkg (N:Nat) (o_15:Vector UInt8 32) (o_15_2:Vector UInt32 8) (o_15_3:Vector UInt8 32) (s46_15:Int):Option YU:=qvo N N (o_15,o_15_2) (o_15_3,s46_15)
def qve (N:Nat):qw:=smL qvp [(.ba 32),(.wa 8),(.ba 32),(.i .i64)] YU (fun x=>qkg N x.1 x.2.1 x.2.2.1 x.2.2.2.1) cs1 fun x=>qbJ (x.1,x.2.1)
theorem qFB (N:Nat):zZ Tryz.prog W7 85 (qE Kv 15) (qve N):=zp fun x z h=>qHB N (x.1,x.2.1) N (x.2.2.1,x.2.2.2.1) z h
def qxQ (z:Vector UInt8 32):TV×THp:=(.tv (.ba 32) z,[])
def qwP (N:Nat) (a0:List UInt8):Tree (Vector UInt8 32):=
 .bind (qas a0) fun r1=>
 .chk (zU (((([]:List UInt8))++a0).length) (((([]:List UInt8))++a0).length) ((((([]:List UInt8))++a0)++[(UInt8.ofNat 128)]).length) 1) <|
 .bind (zV [((((([]:List UInt8))++a0)++[(UInt8.ofNat 128)]).length,(((([]:List UInt8))++a0)++[(UInt8.ofNat 128)]).length)] (qma N ((Vector.replicate 32 0)) a0 (((([]:List UInt8))++a0)++[(UInt8.ofNat 128)]))) fun z2=>
 .bind (zV [(z2.1.length,z2.1.length)] (quq N ((Vector.replicate 32 0)) a0 z2.1 0)) fun z3=>
 .bind (qy1) fun r4=>
 .bind (qwT) fun r5=>
 .bind (zV [(z3.1.length,z3.1.length)] (qf7 N z3.1 ((Vector.replicate 32 0)) ((((((((((Vector.replicate 8 0)).setIfInBounds 0 ((UInt32.ofNat 1779033703))).setIfInBounds 1 ((UInt32.ofNat 3144134277))).setIfInBounds 2 ((UInt32.ofNat 1013904242))).setIfInBounds 3 ((UInt32.ofNat 2773480762))).setIfInBounds 4 ((UInt32.ofNat 1359893119))).setIfInBounds 5 ((UInt32.ofNat 2600822924))).setIfInBounds 6 ((UInt32.ofNat 528734635))).setIfInBounds 7 ((UInt32.ofNat 1541459225))) ((((((((((((((((((((((((((((((((((((((((((((((((((((((((((((((((((Vector.replicate 64 0)).setIfInBounds 0 ((UInt32.ofNat 1116352408))).setIfInBounds 1 ((UInt32.ofNat 1899447441))).setIfInBounds 2 ((UInt32.ofNat 3049323471))).setIfInBounds 3 ((UInt32.ofNat 3921009573))).setIfInBounds 4 ((UInt32.ofNat 961987163))).setIfInBounds 5 ((UInt32.ofNat 1508970993))).setIfInBounds 6 ((UInt32.ofNat 2453635748))).setIfInBounds 7 ((UInt32.ofNat 2870763221))).setIfInBounds 8 ((UInt32.ofNat 3624381080))).setIfInBounds 9 ((UInt32.ofNat 310598401))).setIfInBounds 10 ((UInt32.ofNat 607225278))).setIfInBounds 11 ((UInt32.ofNat 1426881987))).setIfInBounds 12 ((UInt32.ofNat 1925078388))).setIfInBounds 13 ((UInt32.ofNat 2162078206))).setIfInBounds 14 ((UInt32.ofNat 2614888103))).setIfInBounds 15 ((UInt32.ofNat 3248222580))).setIfInBounds 16 ((UInt32.ofNat 3835390401))).setIfInBounds 17 ((UInt32.ofNat 4022224774))).setIfInBounds 18 ((UInt32.ofNat 264347078))).setIfInBounds 19 ((UInt32.ofNat 604807628))).setIfInBounds 20 ((UInt32.ofNat 770255983))).setIfInBounds 21 ((UInt32.ofNat 1249150122))).setIfInBounds 22 ((UInt32.ofNat 1555081692))).setIfInBounds 23 ((UInt32.ofNat 1996064986))).setIfInBounds 24 ((UInt32.ofNat 2554220882))).setIfInBounds 25 ((UInt32.ofNat 2821834349))).setIfInBounds 26 ((UInt32.ofNat 2952996808))).setIfInBounds 27 ((UInt32.ofNat 3210313671))).setIfInBounds 28 ((UInt32.ofNat 3336571891))).setIfInBounds 29 ((UInt32.ofNat 3584528711))).setIfInBounds 30 ((UInt32.ofNat 113926993))).setIfInBounds 31 ((UInt32.ofNat 338241895))).setIfInBounds 32 ((UInt32.ofNat 666307205))).setIfInBounds 33 ((UInt32.ofNat 773529912))).setIfInBounds 34 ((UInt32.ofNat 1294757372))).setIfInBounds 35 ((UInt32.ofNat 1396182291))).setIfInBounds 36 ((UInt32.ofNat 1695183700))).setIfInBounds 37 ((UInt32.ofNat 1986661051))).setIfInBounds 38 ((UInt32.ofNat 2177026350))).setIfInBounds 39 ((UInt32.ofNat 2456956037))).setIfInBounds 40 ((UInt32.ofNat 2730485921))).setIfInBounds 41 ((UInt32.ofNat 2820302411))).setIfInBounds 42 ((UInt32.ofNat 3259730800))).setIfInBounds 43 ((UInt32.ofNat 3345764771))).setIfInBounds 44 ((UInt32.ofNat 3516065817))).setIfInBounds 45 ((UInt32.ofNat 3600352804))).setIfInBounds 46 ((UInt32.ofNat 4094571909))).setIfInBounds 47 ((UInt32.ofNat 275423344))).setIfInBounds 48 ((UInt32.ofNat 430227734))).setIfInBounds 49 ((UInt32.ofNat 506948616))).setIfInBounds 50 ((UInt32.ofNat 659060556))).setIfInBounds 51 ((UInt32.ofNat 883997877))).setIfInBounds 52 ((UInt32.ofNat 958139571))).setIfInBounds 53 ((UInt32.ofNat 1322822218))).setIfInBounds 54 ((UInt32.ofNat 1537002063))).setIfInBounds 55 ((UInt32.ofNat 1747873779))).setIfInBounds 56 ((UInt32.ofNat 1955562222))).setIfInBounds 57 ((UInt32.ofNat 2024104815))).setIfInBounds 58 ((UInt32.ofNat 2227730452))).setIfInBounds 59 ((UInt32.ofNat 2361852424))).setIfInBounds 60 ((UInt32.ofNat 2428436474))).setIfInBounds 61 ((UInt32.ofNat 2756734187))).setIfInBounds 62 ((UInt32.ofNat 3204031479))).setIfInBounds 63 ((UInt32.ofNat 3329325298))))) fun z6=>
 .sum z6 (fun z7=>
 .bind (qkg N ((Vector.replicate 32 0)) ((((((((((Vector.replicate 8 0)).setIfInBounds 0 ((UInt32.ofNat 1779033703))).setIfInBounds 1 ((UInt32.ofNat 3144134277))).setIfInBounds 2 ((UInt32.ofNat 1013904242))).setIfInBounds 3 ((UInt32.ofNat 2773480762))).setIfInBounds 4 ((UInt32.ofNat 1359893119))).setIfInBounds 5 ((UInt32.ofNat 2600822924))).setIfInBounds 6 ((UInt32.ofNat 528734635))).setIfInBounds 7 ((UInt32.ofNat 1541459225))) ((Vector.replicate 32 0)) 0) fun z8=>
 .ret z8.1) fun z7=>
 .bind (qkg N ((Vector.replicate 32 0)) z7.1 ((Vector.replicate 32 0)) 0) fun z8=>
 .ret z8.1
def qgM (N:Nat) (a0:List UInt8):Option (Vector UInt8 32):=(qwP N a0).run some
def qO9 (N:Nat):List (Nat×qw):=[(2,qxr N),(5,qxv N),(10,qu5 N),(15,qve N)]
def qGZ (N:Nat):Ent:=smF ⟨85,[],[.x .bl],[],[]⟩ [.bl] (Vector UInt8 32) (fun x=>qgM N x.1) cs1 fun _=>qxQ
theorem qK6 (N:Nat):qbq Tryz.prog ⟨85,[],[.x .bl],[],[]⟩ [.bl] (fun x=>qwP N x.1) (fun _=>qxQ):=
 Yp (H:=W7) (L:=qJ (qO9 N)) 0 qRc (qb0 N) (qt (by kernel_rfl) ⟨qH0 N,qHx N,qFe N,qFB N,trivial⟩) (rg0 (by kernel_rfl)) fun x=>by kernel_rfl
theorem qEU (N:Nat):zf Tryz.prog (qGZ N):=qkJ (qK6 N)
end Go.Rx
end
set_option maxRecDepth 100000
noncomputable section
namespace Go.Rx
open Go.Proofs
def dg0:Vector UInt8 32:=#v[110,52,11,156,255,179,122,152,156,165,68,230,187,120,10,44,120,144,29,63,179,55,56,118,133,17,163,6,23,175,160,29]
theorem qWL:qgM 300 [0]=some dg0:=by kernel_rfl
def dg1:Vector UInt8 32:=#v[45,113,22,66,183,38,176,68,1,98,124,169,251,172,50,245,200,83,15,177,144,60,196,219,2,37,135,23,146,26,72,129]
theorem qWJ:qgM 300 [120]=some dg1:=by kernel_rfl
def dg2:Vector UInt8 32:=#v[217,234,19,0,182,245,117,92,168,138,178,15,28,158,218,100,105,227,235,245,218,173,131,66,21,81,99,85,79,134,92,199]
theorem qWE:qgM 300 [1,7,0,0,0,0,0,0,0,0,0,0,0,0,0,0,0,0,1,2,9,1,120]=some dg2:=by kernel_rfl
def qV4:List (List UInt8×Vector UInt8 32):=[([0],dg0),([120],dg1),([1,7,0,0,0,0,0,0,0,0,0,0,0,0,0,0,0,0,1,2,9,1,120],dg2)]
theorem qVq:qOH (qgM 300) qV4:=⟨qWL,qWJ,qWE,trivial⟩
def qIE:Ent:=smF ⟨85,[],[.x .bl],[],[]⟩ [.bl] (Vector UInt8 32) (fun x=>qIn qV4 x.1) cs1 fun _=>qxQ
theorem qUQ:zf Tryz.prog qIE:=qWm (qEU 300) fun x z h=>qMA qVq x.1 z h
end Go.Rx
end
set_option maxRecDepth 100000
noncomputable section
namespace Go.Rx
open Go.Proofs
def qUR:List (Nat×TH):=[(9,{ live:=[(1,[1]),(2,[1,3]),(3,[1,3,5]),(4,[1,3,5,7]),(5,[1,3,5,7,46]),(6,[0]),(7,[1,3,5,7,8,9]),(8,[0])],dec:=[34,39,57,62,74],rd:=[(1,[1]),(2,[3]),(3,[5]),(7,[8])] }),
 (13,{ live:=[(0,[2,3,4]),(1,[2,3,4,6]),(2,[2,3,4,6,39]),(3,[4,5]),(4,[2,4,47,48,49]),(5,[2,4,47,48,49,50]),(6,[2,4,8,47,48,49]),(7,[2,4,8,47,48,49,54]),(8,[2,4,9,10,47,48,49]),(9,[2,4,9,10,47,48,49,64]),(10,[4,5]),(11,[2,4,47,48,49]),(12,[2,4,47,48,49]),(13,[4,5])],dec:=[19,23,29,34],rd:=[(1,[6]),(6,[8]),(8,[9])] }),
 (16,{ live:=[(0,[2,3]),(1,[2,3,14]),(2,[4]),(3,[2,3,5]),(4,[5,17]),(5,[5,6]),(6,[5,6,21]),(8,[4])],dec:=[10],fresh:=[17],rd:=[(5,[6])] }),
 (20,{ live:=[(0,[3,4,5,6]),(1,[3,4,9]),(2,[8])],rd:=[(1,[9])] }),
 (21,{ live:=[(0,[1,2]),(1,[1,2,13]),(2,[2,3]),(3,[1,2,4]),(4,[2,4,19,20,21]),(5,[2,4,19,20,21,22]),(6,[2,4,6,19,20,21]),(7,[2,4,6,7,19,20,21]),(8,[2,4,7,19,20,21,31,32,33]),(9,[2,4,7,19,20,21,31,32,33,34]),(10,[2,4,7,9,19,20,21,31,32,33]),(11,[2,4,7,9,10,19,20,21,31,32,33]),(12,[2,4,7,19,20,21,31,32,33]),(13,[2,4,7,19,20,21,31,32,33]),(14,[2,4,19,20,21]),(15,[2,4,19,20,21]),(16,[2,3])],rd:=[(6,[6]),(10,[9])] }),
 (22,{ live:=[(0,[2,3,4]),(1,[2,3,4,22]),(2,[4,5]),(3,[2,3,4,6]),(4,[2,3,4,6,7]),(5,[4,6,7,30,31,32]),(6,[4,6,7,30,31,32,33]),(7,[4,6,7,9,30,31,32]),(8,[4,6,7,9,10,11,30,31,32]),(9,[4,6,7,9,10,30,31,32,44]),(10,[4,6,7,9,30,31,32]),(11,[4,6,7,30,31,32]),(12,[4,6,7,30,31,32]),(13,[4,6,7,30,31,32]),(14,[4,6,7,67]),(15,[4,5]),(16,[4,6,7]),(17,[4,6,7,12]),(18,[4,6,12,71,72,73]),(19,[4,6,12,71,72,73,74]),(20,[4,6,12,14,71,72,73]),(21,[4,6,12,71,72,73]),(22,[4,6,12,71,72,73]),(23,[4,5])],dec:=[18],rd:=[(7,[9]),(8,[10]),(20,[14])] }),
 (24,{ live:=[(0,[2,3]),(1,[4])] }),
 (25,{ live:=[(0,[1]),(1,[1,6,7,8]),(2,[1,6,7,8,9]),(3,[1,3,4,6,7,8]),(4,[1,6,7,8,32]),(5,[2]),(6,[1,6,7,8]),(7,[2])],dec:=[16,19],rd:=[(3,[4])] }),
 (26,{ live:=[(0,[2,3,4]),(1,[2,4,6]),(2,[2,4,6,12]),(3,[4,5]),(4,[4,5])] }),
 (28,{ live:=[(0,[2,3]),(1,[4])],dec:=[8] }),
 (32,{ live:=[(0,[3,5,6,7,9,10]),(1,[3,5,6,7,9,10,27]),(2,[10,11]),(3,[10,11])],dec:=[15,19,23] }),
 (33,{ live:=[(0,[1]),(1,[2])],dec:=[7] }),
 (34,{ live:=[(0,[1]),(1,[2])],dec:=[6,10,15,20] }),
 (35,{ live:=[(0,[1]),(1,[1,21]),(2,[2]),(3,[1,23,24,25]),(4,[1,23,24,25,26]),(5,[1,3,4,23,24,25]),(6,[1,4,5,23,24,25]),(7,[1,23,24,25,74]),(8,[2]),(9,[1,23,24,25]),(10,[2])],dec:=[10,15,32,37,40,55,60,66],rd:=[(5,[4])] }),
 (40,{ live:=[(0,[1]),(1,[1,6,7,8]),(2,[1,6,7,8,9]),(3,[1,3,4,6,7,8]),(4,[1,6,7,8,32]),(5,[2]),(6,[1,6,7,8]),(7,[2])],dec:=[16,19],rd:=[(3,[4])] }),
 (41,{ live:=[(0,[2,3]),(1,[4])],esc:=true }),
 (49,{ live:=[(0,[3,4,5]),(1,[3,4,7]),(2,[3,4,7,12]),(3,[6]),(4,[3,4,7,19]),(5,[6]),(6,[3,4,7,22]),(7,[6]),(8,[6])] }),
 (50,{ live:=[(0,[1,2]),(1,[2,3]),(2,[2])] }),
 (51,{ live:=[(0,[0,2]),(1,[2])] }),
 (52,{ live:=[(0,[0]),(1,[0,6]),(2,[2]),(3,[0,3]),(4,[0,3,9]),(5,[0,3]),(6,[0,3]),(7,[2])] }),
 (53,{ live:=[(0,[0]),(1,[0,3]),(2,[0,3,9,10,11]),(3,[0,3,9,10,11,12]),(4,[0,3,5,9,10,11]),(5,[0,3,9,10,11]),(6,[0,3,9,10,11,20]),(7,[0,3,9,10,11]),(8,[0,3,9,10,11]),(9,[0,6]),(10,[6,25,26,27]),(11,[6,25,26,27,28]),(12,[6,8,25,26,27]),(13,[6,25,26,27]),(14,[6,25,26,27]),(15,[2])],raw:=[87],fresh:=[24] }),
 (54,{ live:=[(0,[1,2]),(1,[1,2]),(2,[2])] }),
 (55,{ live:=[(0,[2,3,4]),(1,[2,3,4,23]),(2,[4,5]),(3,[2,3,4,6]),(4,[2,3,4,6]),(5,[2,3,4,6]),(6,[4,6,7]),(7,[4,7,43]),(8,[7,8]),(10,[4,5])],dec:=[12,17],fresh:=[43],rd:=[(8,[8])] }),
 (56,{ live:=[(0,[0,1,4])] }),
 (57,{ live:=[(0,[2,3]),(1,[4])] }),
 (58,{ live:=[(0,[0,1,2]),(1,[0,1,2,14]),(2,[6]),(3,[1,2,15,16,17]),(4,[1,2,15,16,17,18]),(5,[1,2,7,8,15,16,17]),(6,[1,2,8,9,15,16,17]),(7,[1,2,15,16,17,30]),(8,[6]),(9,[1,2,15,16,17]),(10,[6])],rd:=[(5,[8]),(6,[9])] }),
 (59,{ live:=[(0,[2,3]),(1,[4])],dec:=[10,17] }),
 (60,{ live:=[(0,[2,3]),(1,[4])],dec:=[8] }),
 (61,{ live:=[(0,[0,1]),(1,[0,1,7,8]),(2,[0,1,7,8,9]),(3,[0,1,5,7,8]),(4,[0,1,5,7,8,16]),(5,[4]),(6,[0,1,7,8]),(7,[4])] }),
 (62,{ live:=[(0,[1,2]),(1,[3])] }),
 (63,{ live:=[(0,[1,2]),(1,[1,2]),(2,[1,2,10,11]),(3,[1,2,10,11,12]),(4,[1,2,3,10,11]),(5,[1,2,10,11]),(6,[1,2,10,11]),(7,[2])],fresh:=[6] }),
 (64,{ live:=[(0,[0,1]),(1,[0,1,7,8]),(2,[0,1,7,8,9]),(3,[0,1,5,7,8]),(4,[0,1,5,7,8,16]),(5,[4]),(6,[0,1,7,8]),(7,[4])] }),
 (66,{ live:=[(0,[0]),(1,[0,3]),(2,[3,6,7,8]),(3,[3,6,7,8,9]),(4,[3,5,6,7,8]),(5,[3,5,6,7,8,14]),(6,[2]),(7,[3,6,7,8]),(8,[2])] }),
 (67,{ live:=[(0,[0,1]),(1,[0,1,5]),(2,[0,1,5,6]),(3,[0,1,6,11]),(4,[12]),(5,[4]),(6,[4]),(7,[0,1,13]),(8,[4]),(9,[0,1,16]),(10,[4]),(11,[19]),(12,[4]),(13,[4])] }),
 (72,{ live:=[(0,[1,2,3,6]),(1,[2,3,6,8,9]),(2,[2,3,6,8,9,18]),(3,[6,7]),(4,[6,7])],rd:=[(1,[8])] }),
 (73,{ live:=[(0,[1,2,3,4,5]),(1,[5])] }),
 (74,{ live:=[(0,[1]),(1,[2])],dec:=[7,12] }),
 (78,{ live:=[(0,[1]),(1,[1,6,7,8]),(2,[1,6,7,8,9]),(3,[1,3,4,6,7,8]),(4,[1,6,7,8,33]),(5,[2]),(6,[1,6,7,8]),(7,[2])],dec:=[18,21,38,43],rd:=[(3,[4])] }),
 (79,{ live:=[(0,[0,2,12,13,14]),(1,[0,2,12,13,14,15]),(2,[0,2,5,12,13,14]),(3,[0,2,5,6,12,13,14]),(4,[0,2,5,6,8,12,13,14]),(5,[0,2,5,6,8,12,13,14,32]),(6,[0,2,5,6,8,12,13,14]),(7,[0,2,6,8,12,13,14,37,38,39]),(8,[0,2,6,8,12,13,14,37,38,39,40]),(9,[0,2,6,8,10,12,13,14,37,38,39]),(10,[0,2,6,8,10,12,13,14,37,38,39,48]),(11,[0,2,6,8,12,13,14,37,38,39]),(12,[0,2,6,8,12,13,14,37,38,39]),(13,[0,2,12,13,14,59]),(14,[0,2,12,13,14])],fresh:=[58],rd:=[(2,[5]),(3,[6]),(9,[10])] }),
 (82,{ live:=[(0,[1,2]),(1,[3])] }),
 (83,{ live:=[(0,[2,3]),(1,[4])],dec:=[8] }),
 (84,{ live:=[(0,[1]),(1,[1,15]),(2,[2,3]),(3,[1,4]),(4,[4,22,23,24]),(5,[4,22,23,24,25]),(6,[4,6,22,23,24]),(7,[4,6,7,22,23,24]),(8,[4,6,22,23,24]),(9,[4,22,23,24,47,48,49]),(10,[4,22,23,24,47,48,49,50]),(11,[4,10,22,23,24,47,48,49]),(12,[4,10,11,22,23,24,47,48,49]),(13,[4,22,23,24,47,48,49]),(14,[4,22,23,24,47,48,49]),(15,[4,22,23,24]),(16,[2,3])],fresh:=[20],esc:=true,rd:=[(6,[6]),(11,[10])] }),
 (85,{ live:=[(0,[0,2]),(1,[0,2,3]),(2,[0,2,3,16]),(3,[0,2,3]),(4,[0,2,3,20]),(5,[0,2,3,20,21]),(6,[0,2,3,4,20]),(7,[0,2,3,20]),(8,[0,2,3,20]),(9,[2,3,5,6]),(10,[2,3,5,6,40]),(11,[2,3,5,6]),(12,[2,3,5,6]),(13,[2,5,7]),(14,[2,5,7,46]),(15,[2,5,7,46,47]),(16,[2,5,7,8,46]),(17,[2,5,7,46]),(18,[2,5,7,46]),(19,[2])],fresh:=[10] }),
 (86,{ live:=[(0,[0,2]),(1,[2])] }),
 (87,{ live:=[(0,[0,1]),(1,[0,1,6]),(2,[0,1]),(3,[0,1]),(4,[0,1,16]),(5,[0]),(6,[4])],esc:=true,nil:=[(5,[⟨.sl 0,900000870,(.sl 19 (.ag [(.ba 16),(.ag [(.i .i64),(.i .i64)]),(.sl 4 (.ag [(.i .i64),(.ag [(.ag [(.i .i64),(.i .i64)]),.s])]))]))⟩])] }),
 (88,{ live:=[(0,[0]),(1,[0,4]),(2,[2]),(3,[2])],vecs:=[5],esc:=true }),
 (89,{ live:=[(0,[0,3]),(1,[0,9,10,11]),(2,[0,9,10,11,12]),(3,[0,5,9,10,11]),(4,[0,5,6,7,9,10,11]),(5,[0,5,6,9,10,11,22]),(6,[0,9,10,11]),(7,[0,9,10,11]),(8,[0,9,10,11])],rd:=[(3,[5]),(4,[6])] }),
 (90,{ live:=[(0,[2,3,4]),(1,[2,3,4,7]),(2,[4]),(3,[4])] }),
 (91,{ live:=[(0,[2,3]),(1,[4])],esc:=true }),
 (92,{ live:=[(0,[0,1,2,3,4,10]),(1,[0,1,2,3,4,10,11]),(2,[0,1,2,3,4,10,11,12]),(3,[0,1,2,3,4,10,11,12,25]),(5,[0,1,2,3,4,10,11,12,32]),(7,[0,1,2,3,4,10,11,12,39]),(8,[0,1,2,3,4,10,11,12]),(9,[0,1,2,3,4,10,11,12]),(10,[0,1,2,3,4,10,11,12,13,14]),(11,[0,1,2,3,4,10,11,12,13,14,56]),(12,[0,1,2,3,4,10,11,12,13]),(13,[0,1,2,3,4,10,11,12,13]),(14,[0,1,2,3,4,10,11,12,13,14]),(15,[0,1,2,3,4,10,11,12,13,75]),(16,[0,1,2,3,4,10,11,12,13,80]),(17,[0,1,2,3,4,10,11,12,13,97]),(18,[0,2,3,4,10,11,15]),(19,[0,1,2,3,4,10,11]),(20,[0,1,2,3,4,12,16,17]),(21,[0,1,2,3,4,11,12,16]),(22,[0,1,2,3,4,11,12,16,18,19]),(23,[0,1,2,3,4,11,16,18,19,20]),(24,[0,1,2,3,4,11,16,18,19,20,125]),(25,[0,1,2,3,4,10,11,16]),(26,[0,2,3,4,10,11,16]),(27,[0,1,2,3,4,10,11]),(28,[0,1,2,3,4,10,11,16]),(29,[0,1,3,4,10,11,16]),(30,[0,1,2,3,4,10,11])],dec:=[69,72,83] }),
 (93,{ live:=[(0,[0]),(1,[2]),(2,[2])] }),
 (94,{ live:=[(0,[0,1]),(1,[4])] }),
 (95,{ live:=[(0,[0,1]),(1,[0,1,10]),(2,[4]),(3,[0,1,12,13]),(4,[0,1,12,13,14]),(5,[0,1,5,12,13]),(6,[0,1,12,13,24]),(7,[4]),(8,[0,1,12,13]),(9,[4])] }),
 (96,{ live:=[(0,[0]),(1,[0,4]),(2,[2]),(3,[2])],vecs:=[5],esc:=true }),
 (97,{ live:=[(0,[0]),(1,[0,4]),(2,[2]),(3,[2])],vecs:=[5],esc:=true }),
 (98,{ live:=[(0,[0]),(1,[2])] }),
 (99,{ live:=[(0,[1,2,4]),(1,[1,2,4,6]),(2,[1,4,6,12]),(3,[1,4,6,12]),(4,[4,6,12]),(5,[4,5]),(6,[4,6,21]),(7,[4,5]),(8,[4,5])],rd:=[(1,[6])] }),
 (100,{ live:=[(0,[1,2]),(1,[1,2,3]),(2,[2,3,9,10,11]),(3,[2,3,9,10,11,12]),(4,[2,3,5,9,10,11]),(5,[2,3,5,9,10,11]),(6,[2,3,9,10,11,20,21,22]),(7,[2,3,9,10,11,20,21,22,23]),(8,[2,3,7,9,10,11,20,21,22]),(9,[2,3,9,10,11,20,21,22]),(10,[2,3,9,10,11,20,21,22]),(11,[2,3,9,10,11]),(12,[2])],rd:=[(4,[5]),(8,[7])] }),
 (103,{ live:=[(0,[2,3]),(1,[4])],dec:=[8,13,18,23,32,37] }),
 (108,{ live:=[(0,[0]),(1,[0,3]),(2,[0,3,4]),(3,[0,3,4,10,11]),(4,[0,3,4,10,11,12]),(5,[0,3,4,5,10,11]),(6,[0,3,4,10,11]),(7,[0,3,4,10,11]),(8,[4]),(9,[2])],esc:=true }),
 (109,{ live:=[(0,[1]),(1,[1,6]),(2,[2,3]),(3,[2,3])],fresh:=[15],esc:=true }),
 (110,{ live:=[(0,[1]),(1,[1,8]),(2,[2,3]),(3,[1,4]),(4,[2,3])],fresh:=[12],esc:=true }),
 (111,{ live:=[(0,[0]),(1,[0,4]),(2,[2]),(3,[2])],vecs:=[5],esc:=true }),
 (112,{ live:=[(0,[0]),(1,[0])] }),
 (113,{ live:=[(0,[0]),(1,[0])] }),
 (114,{ live:=[(0,[0,2,6]),(1,[0,2,6,7]),(2,[0,2,6,7,19]),(3,[0,2,6,7,19,20]),(4,[0,2,6,7,8,19]),(5,[0,2,6,7,8,9,10,19]),(6,[0,2,6,7,9,11,19]),(7,[0,2,6,7,11,12,19]),(8,[0,2,6,7,11,12,19]),(9,[0,2,6,7,11,19]),(10,[0,2,6,7,19]),(11,[0,2,6,7,19]),(12,[0,7,95]),(13,[0,7,95,96]),(14,[0,7,13,95]),(15,[0,7,95]),(16,[0,7,95])],rd:=[(0,[6])] }),
 (115,{ live:=[(0,[0]),(1,[0,3,4]),(2,[0,3,4,7,8]),(3,[0,3,4,7,8,9]),(4,[0,3,4,5,7,8]),(5,[0,3,4,7,8]),(6,[0,3,4,7,8]),(7,[0,3,4,7,8]),(8,[2])] }),
 (116,{ live:=[(0,[2,3,4]),(1,[2,3,4,7]),(2,[4]),(3,[4])] }),
 (117,{ live:=[(0,[0,1,2,7]),(1,[0,1,2,7,8]),(2,[0,1,2,4,7]),(3,[0,1,2,4,5,6,7]),(4,[0,1,2,7,30]),(5,[0,1,2,7])],dec:=[17,23],rd:=[(3,[5])] }),
 (118,{ live:=[(0,[0,1,2,3,8]),(1,[0,1,2,3,8,14]),(2,[0,1,2,3,8]),(3,[0,1,2,3,8,9]),(4,[0,1,2,3,8,9,34]),(5,[0,1,2,3,8,9]),(6,[0,1,2,3,8,9])],dec:=[21] }),
 (119,{ live:=[(0,[0,1,2,3,8]),(1,[0,1,2,3,8,9]),(2,[0,3,8,9,10]),(3,[0,3,8,9,10,11]),(4,[0,3,8,9,10,11,21]),(5,[0,3,8,9,10,11]),(6,[0,3,8,9,10,11]),(7,[0,3,8,9,12]),(8,[0,3,8,9,12,33]),(9,[0,3,8,9,12]),(10,[0,3,8,9,12]),(11,[0,3,8,9,12])] }),
 (120,{ live:=[(0,[0,1,8]),(1,[0,1,8,17]),(2,[0,1,8,9]),(3,[0,1,8,9,10]),(4,[0,1,8,9,10,11]),(5,[0,1,8,9,10,11,35]),(6,[0,1,8,9,10,11]),(7,[0,1,8,9,10,11,12]),(8,[0,1,8,9,10,11,12,45]),(9,[0,1,8,9,10,11,12]),(10,[0,1,8,9,10,11])] }),
 (121,{ live:=[(0,[0,1,2,3]),(1,[0,1,3,10]),(2,[0,1,3,10,11]),(3,[0,1,3,10,11,12]),(4,[0,1,3,10,11,12,13]),(5,[0,3,10,11,12,13,14]),(6,[0,3,10,11,12,13,14,34]),(7,[0,3,11,12,13,14,36]),(8,[0,3,11,12,13,14]),(9,[0,3,11,12,13,14]),(10,[0,3,11,12,13,14]),(11,[11,13]),(12,[13,55]),(13,[8,9]),(14,[13,55,57]),(15,[8,9]),(16,[13,60]),(17,[8,9])] }),
 (122,{ live:=[(0,[0,2,8]),(1,[0,8,9]),(2,[0,8,9,15]),(3,[0,8,9]),(4,[0,8,9]),(5,[0,8,9])] }),
 (123,{ live:=[(0,[0,1,2,3]),(1,[0,1,2,3,9]),(2,[0,1,2,3,9,10]),(3,[0,1,2,3,9,10,16]),(4,[0,1,2,3,9,10]),(5,[0,1,2,3,9,10,36]),(6,[0,1,2,3,9,10]),(7,[0,1,2,3,9,10,41]),(8,[8]),(9,[0,1,2,3,9,10,45]),(10,[8]),(11,[0,1,2,3,9,10]),(12,[0,1,2,3,9,10,65]),(13,[0,1,2,3,9,10,11]),(14,[0,1,2,3,9,10,11,69]),(15,[0,1,2,3,9,10,11]),(16,[0,1,2,3,9,10,11,84]),(17,[0,1,2,3,9,10,11]),(18,[0,1,2,3,9,10,104]),(19,[0,1,2,3,9,10,12]),(20,[0,1,2,3,9,10,12,109]),(21,[0,1,2,3,9,10,12]),(22,[0,1,2,3,9,10,12,124]),(23,[0,1,2,3,9,10,12]),(24,[8])],dec:=[22] }),
 (124,{ live:=[(0,[0,1,2,3,4]),(1,[0,1,2,4]),(2,[0,1,4,11,12]),(3,[0,1,4,11,12,47]),(4,[0,1,4,11,12]),(5,[0,1,4,11,12,65]),(6,[0,1,4,11,12]),(7,[0,1,4,11,12,70]),(8,[0,1,4,11,12]),(9,[0,1,4,11,12]),(10,[0,1,4,11,12]),(11,[10])],dec:=[34,53] }),
 (125,{ live:=[(0,[0,1,2,3,4]),(1,[0,1,2,4]),(2,[0,1,4,12,13]),(3,[0,1,4,12,13,47]),(4,[0,1,4,12,13]),(5,[0,1,4,12,13,66]),(6,[0,1,4,12,13]),(7,[0,1,4,12,13,71]),(8,[13]),(9,[10,11]),(10,[0,1,4,12,13]),(11,[0,1,4,12,13]),(12,[0,1,4,12,13]),(13,[0,1,4,12,13,120]),(14,[0,1,4,12,13]),(15,[0,1,4,12,13,139]),(16,[0,1,4,12,13]),(17,[0,1,4,12,13,144]),(18,[0,1,4,12,13]),(19,[0,1,4,12,13]),(20,[0,1,4,12,13]),(21,[13]),(22,[10,11])],dec:=[35,53,108,126] }),
 (126,{ live:=[(0,[0,2]),(1,[0,2,4]),(2,[0]),(3,[0,2]),(4,[0,2,8]),(5,[0,2]),(6,[0,2]),(7,[2])] }),
 (127,{ live:=[(0,[0,2]),(1,[0,2,4]),(2,[0]),(3,[0,2]),(4,[0,2,8]),(5,[0,2]),(6,[0,2]),(7,[0,2,14]),(8,[0,2]),(9,[0,2]),(10,[2])] }),
 (132,{ live:=[(0,[0]),(1,[0,4]),(2,[2]),(3,[2])] }),
 (133,{ live:=[(0,[0]),(1,[0,3]),(2,[0,3]),(3,[0,3,7]),(4,[0,3]),(5,[0,3]),(6,[2])] }),
 (134,{ live:=[(0,[0]),(1,[2])],fresh:=[6],esc:=true }),
 (135,{ live:=[(0,[0,2]),(1,[0,2,3]),(2,[0,2,3,7]),(3,[0,2,3,7,8]),(4,[0,2,3,4,7]),(5,[0,2,3,4,7,11]),(6,[0,2,3,7]),(7,[0,2,3,4,5,6,7]),(8,[0,2,3,7]),(9,[0,2,3,7]),(10,[2])] }),
 (136,{ live:=[(0,[0,1]),(1,[4])] }),
 (137,{ live:=[(0,[0,1]),(1,[4])] }),
 (138,{ live:=[(0,[2,3]),(1,[5]),(2,[13,14]),(3,[13,14,15]),(4,[7,13,14]),(5,[8,13,14]),(6,[8,13,14,20]),(7,[4]),(8,[13,14]),(9,[4])],rd:=[(1,[5])] }),
 (139,{ live:=[(0,[0,2,3,4,10]),(1,[0,2,3,4,10,11]),(2,[0,2,3,4,10,11,18]),(3,[0,2,3,4,10,11,40]),(4,[0,2,3,4,10,11]),(5,[0,2,3,4,10,11,58]),(6,[0,2,3,4,11]),(7,[0,2,3,4,10])],dec:=[23] }),
 (140,{ live:=[(0,[0]),(1,[2])] }),
 (141,{ live:=[(0,[0]),(1,[0]),(2,[0]),(3,[0]),(4,[2])] }),
 (142,{ live:=[(0,[0,1,2,3]),(1,[8])] }),
 (143,{ live:=[(0,[0,1,2,3,4,5]),(1,[0,1,2,3,4,5]),(2,[0,1,2,4,5]),(3,[2]),(4,[12])] }),
 (145,{ live:=[(0,[0,1]),(1,[0,5]),(2,[4])] }),
 (146,{ live:=[(0,[0,1]),(1,[2])] }),
 (147,{ live:=[(0,[2,3,4]),(1,[2,3,4,7]),(2,[6]),(3,[12]),(4,[6]),(5,[6])] }),
 (148,{ live:=[(0,[0,1]),(1,[2])] }),
 (149,{ live:=[(0,[2,3,4]),(1,[2,3,4,7]),(2,[6]),(3,[12]),(4,[6]),(5,[6])] }),
 (150,{ live:=[(0,[0,1]),(1,[2])] }),
 (151,{ live:=[(0,[0,1]),(1,[0,1,5]),(2,[0,1,5,6]),(3,[0,1,6,11]),(4,[12]),(5,[4]),(6,[4]),(7,[0,1,13]),(8,[4]),(9,[0,1,16]),(10,[4]),(11,[19]),(12,[4]),(13,[4])] }),
 (152,{ live:=[(0,[0,1,2,3,4]),(1,[1,2,3,22]),(2,[1,2]),(3,[10,11]),(4,[10,11])] }),
 (153,{ live:=[(0,[0]),(1,[2])] })]
def qVo (k:FuncId):TH:=(get qUR k).getD {}
theorem qVD:qxd Tryz.prog [16,55]:=⟨qI8 (fn:=Tryz.f16) (c:=Tryz.f16.body.getD .skip) (by kernel_rfl) (by kernel_rfl) (by kernel_rfl),qI8 (fn:=Tryz.f55) (c:=Tryz.f55.body.getD .skip) (by kernel_rfl) (by kernel_rfl) (by kernel_rfl),trivial⟩
def qNU:Option Bool:=some true
theorem qPv:qNJ Tryz.prog qVo [16,55] [qIE] 400 30 9=some (.pv (.b true),[]):=by kernel_rfl
def qMd:Ent:=smF ⟨9,[],[],[],[]⟩ [] Bool (fun _=>qNU) cs1 fun _ z=>(xb z,[])
theorem qSy:zf Tryz.prog qMd:=qUB Tryz.prog (fun _=>rfl) qk (base:=[qIE]) ⟨qUQ,trivial⟩ qVD qPv
end Go.Rx
end
