/- A part of the proof of AboveLess: the law returns true for every input, and its arguments read as before. No condition. -/
import Derived.Test.YtmnngfcoenhhkaaGreatProg
import Derived.Laws.BitsAllLaws
import Derived.Test.YtmnngfcoenhhkaaGreatComE
set_option linter.unusedSimpArgs false
set_option linter.unusedVariables false
set_option linter.unusedSectionVars false
noncomputable section
namespace Go.Rx
theorem YV {α R:Type} (n:α→Option R):∀ t:Tree α,t.run n=(t.run some).bind n
 | .ret a=>rfl
 | .no=>rfl
 | .cond b s t=>by
  simp only [Tree.run]
  cases b
  ·exact YV n t
  ·exact YV n s
 | @Tree.chk _ p d t=>by
  simp only [Tree.run,chk]
  split
  ·exact YV n t
  ·rfl
 | .bind o k=>by
  simp only [Tree.run]
  cases o with
  | none=>rfl
  | some x=>exact YV n (k x)
 | .opt o s k=>by
  simp only [Tree.run]
  cases o with
  | none=>exact YV n s
  | some x=>exact YV n (k x)
 | .sum x f g=>by
  cases x with
  | inl a=>exact YV n (f a)
  | inr b=>exact YV n (g b)
section r
variable {α R:Type} {n:α→Option R}
theorem qO {a:α}:(Tree.ret a).run n=n a:=rfl
theorem qF {b:Bool} {s t:Tree α}:(Tree.cond b s t).run n=bif b then s.run n else t.run n:=rfl
theorem qR {p:Prop} [Decidable p] {t:Tree α}:(Tree.chk p t).run n=chk p (t.run n):=rfl
theorem run_bind {β:Type} {o:Option β} {k:β→Tree α}:(Tree.bind o k).run n=o.bind fun x=>(k x).run n:=rfl
theorem qL1 {β γ:Type} {x:β} {f:β→Tree α} {g:γ→Tree α}:(Tree.sum (.inl x) f g).run n=(f x).run n:=rfl
theorem qAr {β γ:Type} {x:γ} {f:β→Tree α} {g:γ→Tree α}:(Tree.sum (.inr x) f g).run n=(g x).run n:=rfl
end r
theorem WN {V W Y:Type} {B:V→Tree (V⊕W)} {g:W→Option Y} {v v':V} (h:(B v).run some=some (.inl v')) (N:Nat):qY B g (N + 1) v=qY B g N v':=by
 simp only [qY]
 rw [YV,h]; rfl
theorem jq {V W Y:Type} {B:V→Tree (V⊕W)} {g:W→Option Y} {v:V} {x:W} (h:(B v).run some=some (.inr x)) (N:Nat):qY B g (N + 1) v=g x:=by
 simp only [qY]
 rw [YV,h]; rfl
theorem VC {V W Y : Type} {B : V → Tree (V ⊕ W)} {g : W → Option Y} {I : V → Prop} {Q : Y → Prop} (m : V → Nat)
    (h:∀ v,I v→(∃ v',(B v).run some=some (.inl v')∧I v'∧m v' < m v)∨∃ x y,(B v).run some=some (.inr x)∧g x=some y∧Q y) :
    ∀ (N:Nat) (v:V),I v→m v < N→∃ y,qY B g N v=some y∧Q y
 | 0,v,_,hm=>by omega
 | N + 1,v,hi,hm=>by
  rcases h v hi with ⟨v',h1,h2,h3⟩ | ⟨x,y,h1,h2,h3⟩
  ·rw [WN h1]
   exact VC m h N v' h2 (by omega)
  ·rw [jq h1]
   exact ⟨y,h2,h3⟩
theorem qb_ {W Y : Type} {B : Int → Tree (Int ⊕ W)} {g : W → Option Y} {p : Nat → Bool} {n : Nat} {hit : Nat → W} {fin : W}
    (h1:∀ k,k < n→(B (k:Int)).run some=some (if p k then .inr (hit k) else .inl ((k + 1:Nat):Int))) (h2:(B (n:Int)).run some=some (.inr fin)) :
    ∀ (N k:Nat),k≤n→n < N + k→qY B g N (k:Int)=g (match vv p (n - k) k with | some j=>hit j | none=>fin)
 | 0,k,hk,hN=>by omega
 | N + 1,k,hk,hN=>by
  by_cases e:k=n
  ·subst e
   rw [jq h2,Nat.sub_self]; rfl
  ·obtain ⟨m,hm⟩:∃ m,n - k=m + 1:=⟨n - k - 1,by omega⟩
   have h3:=h1 k (by omega)
   rw [hm]
   unfold vv
   cases hp:p k with
   | true=>
    rw [hp,if_pos rfl] at h3
    rw [jq h3,if_pos rfl]
   | false=>
    rw [hp,if_neg (by simp)] at h3
    rw [WN h3,qb_ h1 h2 N (k + 1) (by omega) (by omega),if_neg (by simp),show n - (k + 1)=m by omega]
def Zb {σ:Type} (f:Nat→σ→σ):Nat→Nat→σ→σ
 | 0,_,s=>s
 | m + 1,k,s=>Zb f m (k + 1) (f k s)
theorem vZ {σ W Y : Type} {V : Type} {B : V → Tree (V ⊕ W)} {g : W → Option Y} {at_ : Nat → σ → V} {I : Nat → σ → Prop} {f : Nat → σ → σ} {n : Nat} {fin : σ → W}
    (h1:∀ k s,k < n→I k s→(B (at_ k s)).run some=some (.inl (at_ (k + 1) (f k s)))∧I (k + 1) (f k s)) (h2:∀ s,I n s→(B (at_ n s)).run some=some (.inr (fin s))) :
    ∀ (N k:Nat) (s:σ),I k s→k≤n→n < N + k→qY B g N (at_ k s)=g (fin (Zb f (n - k) k s))
 | 0,k,s,_,hk,hN=>by omega
 | N + 1,k,s,hi,hk,hN=>by
  by_cases e:k=n
  ·subst e
   rw [jq (h2 s hi),Nat.sub_self]; rfl
  ·obtain ⟨m,hm⟩:∃ m,n - k=m + 1:=⟨n - k - 1,by omega⟩
   obtain ⟨h3,h4⟩:=h1 k s (by omega) hi
   rw [WN h3,vZ h1 h2 N (k + 1) _ h4 (by omega) (by omega),hm,show n - (k + 1)=m by omega]
   rfl
theorem qI2 {α:Type} {l:List α} {k n:Nat} {d:α} (hn:l.length=n) (h:k < l.length):Xu l n k=some (l.getD k d):=by
 unfold Xu; rw [if_pos hn,List.getElem?_eq_getElem h]; simp [List.getD,List.getElem?_eq_getElem h]
theorem qg {α:Type} {p:Prop} [Decidable p] {x:Option α} (h:p):chk p x=x:=if_pos h
theorem qxY {Z:Type} (o:Option Z):je [] o=o:=rfl
theorem zx {Z:Type} {a b:Nat} {ps:List (Nat×Nat)} {o:Option Z} (h:a=b):je ((a,b)::ps) o=je ps o:=if_pos h
end Go.Rx
end
noncomputable section
namespace Go.Rx
def qi:Ty:=.ag [.i .i64,.i .i64]
abbrev qc:=Int×Int
def qc.N (x:qc):Int:=x.1
def qc.Rep (x:qc):Int:=x.2
def qc.mk (x0:Int) (x1:Int):qc:=(x0,x1)
instance qc.dec:DecidableEq qc:=JC qi
def qp:Ty:=.ag [qi,.s]
abbrev qd:=qc×List UInt8
def qd.S (x:qd):qc:=x.1
def qd.V (x:qd):List UInt8:=x.2
def qd.mk (x0:qc) (x1:List UInt8):qd:=(x0,x1)
instance qd.dec:DecidableEq qd:=JC qp
def qx:Ty:=.ag [.i .i64,qp]
abbrev qb:=Int×qd
def qb.No (x:qb):Int:=x.1
def qb.C (x:qb):qd:=x.2
def qb.mk (x0:Int) (x1:qd):qb:=(x0,x1)
instance qb.dec:DecidableEq qb:=JC qx
def qf:Ty:=.ag [.ba 16,qi,.sl 4 qx]
abbrev qa:=Vector UInt8 16×qc×List qb
def qa.ID (x:qa):Vector UInt8 16:=x.1
def qa.qH (x:qa):qc:=x.2.1
def qa.F (x:qa):List qb:=x.2.2
def qa.mk (x0:Vector UInt8 16) (x1:qc) (x2:List qb):qa:=(x0,x1,x2)
instance qa.dec:DecidableEq qa:=JC qf
def qu:Ty:=.ag [.sl 19 qf]
abbrev qe:=List qa
def qe.R (x:qe):List qa:=x
def qe.mk (x0:List qa):qe:=(x0)
instance qe.dec:DecidableEq qe:=JC qu
def vG:Ty:=.ag [.i .u32,.ba 32]
abbrev q_:=Int×Vector UInt8 32
def q_.vQ (x:q_):Int:=x.1
def q_.mk (x0:Int) (x1:Vector UInt8 32):q_:=(x0,x1)
instance q_.dec:DecidableEq q_:=JC vG
def qZ:Ty:=.ag [.i .i64,qi,.i .i64,.ba 32,.sl 33 vG]
abbrev qn:=Int×qc×Int×Vector UInt8 32×List q_
def qn.No (x:qn):Int:=x.1
def qn.S (x:qn):qc:=x.2.1
def qn.Len (x:qn):Int:=x.2.2.1
def qn.D (x:qn):Vector UInt8 32:=x.2.2.2.1
def qn.B (x:qn):List q_:=x.2.2.2.2
def qn.mk (x0:Int) (x1:qc) (x2:Int) (x3:Vector UInt8 32) (x4:List q_):qn:=(x0,x1,x2,x3,x4)
instance qn.dec:DecidableEq qn:=JC qZ
def qP:Ty:=.ag [.ba 16,qi,.sl 37 qZ]
abbrev ql:=Vector UInt8 16×qc×List qn
def ql.ID (x:ql):Vector UInt8 16:=x.1
def ql.qH (x:ql):qc:=x.2.1
def ql.F (x:ql):List qn:=x.2.2
def ql.mk (x0:Vector UInt8 16) (x1:qc) (x2:List qn):ql:=(x0,x1,x2)
instance ql.dec:DecidableEq ql:=JC qP
def qw:Ty:=.ag [.ba 32,.sl 19 qP]
abbrev qk:=Vector UInt8 32×List ql
def qk.L (x:qk):List ql:=x.2
def qk.mk (x0:Vector UInt8 32) (x1:List ql):qk:=(x0,x1)
instance qk.dec:DecidableEq qk:=JC qw
end Go.Rx
end
set_option maxRecDepth 100000
noncomputable section
namespace Go.Rx
open Go.Proofs
theorem qj:Tryz.prog.follows .mixedOrders=true:=by kernel_rfl
noncomputable instance qO3:CT:=⟨ctF Tryz.prog⟩
def qIf:Ent:=qOc 128
theorem qMS:ze Tryz.prog qIf:=qNC (fn:=Tryz.f128) (by kernel_rfl) (by kernel_rfl) (by kernel_rfl) (by kernel_rfl) (by kernel_rfl)
noncomputable def qIV:Code:=Tryz.f111.body.getD .skip
theorem qpW:FnF Tryz.prog 111 Tryz.f111 qIV:=⟨qj,by kernel_rfl,by kernel_rfl,by kernel_rfl⟩
def qzt:TH:={ live:=[(0,[0]),(1,[0,4]),(2,[2]),(3,[2])],vecs:=[5],esc:=true }
def qzs (N:Nat):List Ent:=[]
theorem qvD (N:Nat):qT Tryz.prog (qzs N):=trivial
def qnC (a0:List UInt8) (z:Unit):TV×THp:=(.v 100050 (((([]:List UInt8))++a0).length),[(100050,.vec false 1 .bl ((([]:List UInt8))++a0:List UInt8))])
def qfk (a0:List UInt8):Tree (Unit):=
 .chk (List.isEmpty a0=false) <|
 .chk (jF ((([]:List UInt8)).length) 0 (((([]:List UInt8))++a0).length) 1) <|
 .ret ()
def qjs (a0:List UInt8):Option (Unit):=(qfk a0).run some
def qyR:List (Nat×qD):=[]
theorem qvd:W2 Tryz.prog ⟨111,[],[.x .bl],[],[]⟩ [.bl] (fun x=>qfk x.1) (fun x=>qnC x.1):=
 VB (H:=qzt) (L:=qL (qyR)) 0 qpW (qvD 0) (qo (by kernel_rfl) trivial) (rg0 (by kernel_rfl)) fun x=>by kernel_rfl
def qvy:TH:={ live:=[(0,[0]),(1,[0,4]),(2,[2]),(3,[2])],vecs:=[5],esc:=true }
def qvX (N:Nat):List Ent:=[]
theorem qrl (N:Nat):qT Tryz.prog (qvX N):=trivial
def qv3 (z:Unit):TV×THp:=(.v 100050 0,[(100050,.vec false 1 .bl ([]:List UInt8))])
def qiW:Tree (Unit):=
 .chk (0=0) <|
 .ret ()
def qyz:Option (Unit):=(qiW).run some
def qvO:List (Nat×qD):=[]
theorem qrd:W2 Tryz.prog ⟨111,[],[.k (.es 0)],[],[]⟩ [] (fun x=>qiW) (fun _=>qv3):=
 VB (H:=qvy) (L:=qL (qvO)) 0 qpW (qrl 0) (qo (by kernel_rfl) trivial) (rg0 (by kernel_rfl)) fun x=>by kernel_rfl
def qun:TH:={ live:=[(0,[0]),(1,[0,4]),(2,[2]),(3,[2])],vecs:=[5],esc:=true }
def qv2 (N:Nat):List Ent:=[]
theorem qrx (N:Nat):qT Tryz.prog (qv2 N):=trivial
def qvb (z:Unit):TV×THp:=(.nils,[])
def qiL:Tree (Unit):=
 .ret ()
def qy2:Option (Unit):=(qiL).run some
def qvu:List (Nat×qD):=[]
theorem qrF:W2 Tryz.prog ⟨111,[],[.k (.es 1)],[],[]⟩ [] (fun x=>qiL) (fun _=>qvb):=
 VB (H:=qun) (L:=qL (qvu)) 0 qpW (qrx 0) (qo (by kernel_rfl) trivial) (rg0 (by kernel_rfl)) fun x=>by kernel_rfl
def qip (z:Unit):Unit:=()
def qvt (z:Unit):Unit:=()
def Wc (a0:List UInt8):Option (Unit):=
 bif a0.isEmpty then
  (qyz).bind fun z0=>(qy2).bind fun z1=>chk (qip z0=qvt z1) (some (qip z0))
 else qjs a0
def qkD:Ent:=smF ⟨111,[],[.x .bl],[],[]⟩ [.bl] (Unit) (fun x=>Wc x.1) cs1 fun x=>qnC x.1
theorem qu2:ze Tryz.prog (qkD):=qe4 fun x z h l=>by
 obtain ⟨a0,_⟩:=x
 replace h:Wc a0=some z:=h
 unfold Wc at h
 rcases qeu h with ⟨e,h2⟩ | ⟨_,h2⟩<;>clear h
 ·have e:=List.isEmpty_iff.1 e
  subst e
  obtain ⟨z0,c0,h2⟩:=bind_some h2
  obtain ⟨z1,c1,h2⟩:=bind_some h2
  obtain ⟨hE,h2⟩:=qdN h2
  obtain rfl:=Option.some.inj h2
  refine qeB (t:=.bl) (x:=[]) rfl (TV.ers []) (TV.ers []) (by exact qrd (()) _ c0 l) ?_
  rw [hE]
  exact (qEM (n:=100050) (sz:=1) (x:=qE .bl ([]:List UInt8)) rfl (by kernel_rfl) (by kernel_rfl) (qrF (()) _ c1 l))
 ·exact qvd (a0,()) z h2 l
noncomputable def qIr:Code:=Tryz.f112.body.getD .skip
theorem qG8:FnF Tryz.prog 112 Tryz.f112 qIr:=⟨qj,by kernel_rfl,by kernel_rfl,by kernel_rfl⟩
def qDB:TH:={ live:=[(0,[0]),(1,[0])] }
def qCU (N:Nat):List Ent:=[]
theorem qzn (N:Nat):qT Tryz.prog (qCU N):=trivial
def qCZ (z:Unit):TV×THp:=(.tv (.wa 8) ((((((((((Vector.replicate 8 0)).setIfInBounds 0 ((UInt32.ofNat 1779033703))).setIfInBounds 1 ((UInt32.ofNat 3144134277))).setIfInBounds 2 ((UInt32.ofNat 1013904242))).setIfInBounds 3 ((UInt32.ofNat 2773480762))).setIfInBounds 4 ((UInt32.ofNat 1359893119))).setIfInBounds 5 ((UInt32.ofNat 2600822924))).setIfInBounds 6 ((UInt32.ofNat 528734635))).setIfInBounds 7 ((UInt32.ofNat 1541459225)):Vector UInt32 8),[])
def qr_:Tree (Unit):=
 .chk (0 < 8) <|
 .chk (1 < 8) <|
 .chk (2 < 8) <|
 .chk (3 < 8) <|
 .chk (4 < 8) <|
 .chk (5 < 8) <|
 .chk (6 < 8) <|
 .chk (7 < 8) <|
 .ret ()
def qn_:Option (Unit):=(qr_).run some
def qDa:List (Nat×qD):=[]
def qsk:Ent:=smF ⟨112,[],[],[],[]⟩ [] (Unit) (fun x=>qn_) cs1 fun _=>qCZ
theorem qCA:ze Tryz.prog (qsk):=
 zd (H:=qDB) (L:=qL (qDa)) (ts:=[]) (T:=fun x=>qr_) 0 qG8 (qzn 0) (qo (by kernel_rfl) trivial) (rg0 (by kernel_rfl)) fun x=>by kernel_rfl
noncomputable def qJu:Code:=Tryz.f113.body.getD .skip
theorem qHx:FnF Tryz.prog 113 Tryz.f113 qJu:=⟨qj,by kernel_rfl,by kernel_rfl,by kernel_rfl⟩
def qDF:TH:={ live:=[(0,[0]),(1,[0])] }
def qDs (N:Nat):List Ent:=[]
theorem qzA (N:Nat):qT Tryz.prog (qDs N):=trivial
def qCP (z:Unit):TV×THp:=(.tv (.wa 64) ((((((((((((((((((((((((((((((((((((((((((((((((((((((((((((((((((Vector.replicate 64 0)).setIfInBounds 0 ((UInt32.ofNat 1116352408))).setIfInBounds 1 ((UInt32.ofNat 1899447441))).setIfInBounds 2 ((UInt32.ofNat 3049323471))).setIfInBounds 3 ((UInt32.ofNat 3921009573))).setIfInBounds 4 ((UInt32.ofNat 961987163))).setIfInBounds 5 ((UInt32.ofNat 1508970993))).setIfInBounds 6 ((UInt32.ofNat 2453635748))).setIfInBounds 7 ((UInt32.ofNat 2870763221))).setIfInBounds 8 ((UInt32.ofNat 3624381080))).setIfInBounds 9 ((UInt32.ofNat 310598401))).setIfInBounds 10 ((UInt32.ofNat 607225278))).setIfInBounds 11 ((UInt32.ofNat 1426881987))).setIfInBounds 12 ((UInt32.ofNat 1925078388))).setIfInBounds 13 ((UInt32.ofNat 2162078206))).setIfInBounds 14 ((UInt32.ofNat 2614888103))).setIfInBounds 15 ((UInt32.ofNat 3248222580))).setIfInBounds 16 ((UInt32.ofNat 3835390401))).setIfInBounds 17 ((UInt32.ofNat 4022224774))).setIfInBounds 18 ((UInt32.ofNat 264347078))).setIfInBounds 19 ((UInt32.ofNat 604807628))).setIfInBounds 20 ((UInt32.ofNat 770255983))).setIfInBounds 21 ((UInt32.ofNat 1249150122))).setIfInBounds 22 ((UInt32.ofNat 1555081692))).setIfInBounds 23 ((UInt32.ofNat 1996064986))).setIfInBounds 24 ((UInt32.ofNat 2554220882))).setIfInBounds 25 ((UInt32.ofNat 2821834349))).setIfInBounds 26 ((UInt32.ofNat 2952996808))).setIfInBounds 27 ((UInt32.ofNat 3210313671))).setIfInBounds 28 ((UInt32.ofNat 3336571891))).setIfInBounds 29 ((UInt32.ofNat 3584528711))).setIfInBounds 30 ((UInt32.ofNat 113926993))).setIfInBounds 31 ((UInt32.ofNat 338241895))).setIfInBounds 32 ((UInt32.ofNat 666307205))).setIfInBounds 33 ((UInt32.ofNat 773529912))).setIfInBounds 34 ((UInt32.ofNat 1294757372))).setIfInBounds 35 ((UInt32.ofNat 1396182291))).setIfInBounds 36 ((UInt32.ofNat 1695183700))).setIfInBounds 37 ((UInt32.ofNat 1986661051))).setIfInBounds 38 ((UInt32.ofNat 2177026350))).setIfInBounds 39 ((UInt32.ofNat 2456956037))).setIfInBounds 40 ((UInt32.ofNat 2730485921))).setIfInBounds 41 ((UInt32.ofNat 2820302411))).setIfInBounds 42 ((UInt32.ofNat 3259730800))).setIfInBounds 43 ((UInt32.ofNat 3345764771))).setIfInBounds 44 ((UInt32.ofNat 3516065817))).setIfInBounds 45 ((UInt32.ofNat 3600352804))).setIfInBounds 46 ((UInt32.ofNat 4094571909))).setIfInBounds 47 ((UInt32.ofNat 275423344))).setIfInBounds 48 ((UInt32.ofNat 430227734))).setIfInBounds 49 ((UInt32.ofNat 506948616))).setIfInBounds 50 ((UInt32.ofNat 659060556))).setIfInBounds 51 ((UInt32.ofNat 883997877))).setIfInBounds 52 ((UInt32.ofNat 958139571))).setIfInBounds 53 ((UInt32.ofNat 1322822218))).setIfInBounds 54 ((UInt32.ofNat 1537002063))).setIfInBounds 55 ((UInt32.ofNat 1747873779))).setIfInBounds 56 ((UInt32.ofNat 1955562222))).setIfInBounds 57 ((UInt32.ofNat 2024104815))).setIfInBounds 58 ((UInt32.ofNat 2227730452))).setIfInBounds 59 ((UInt32.ofNat 2361852424))).setIfInBounds 60 ((UInt32.ofNat 2428436474))).setIfInBounds 61 ((UInt32.ofNat 2756734187))).setIfInBounds 62 ((UInt32.ofNat 3204031479))).setIfInBounds 63 ((UInt32.ofNat 3329325298)):Vector UInt32 64),[])
def qr1:Tree (Unit):=
 .chk (0 < 64) <|
 .chk (1 < 64) <|
 .chk (2 < 64) <|
 .chk (3 < 64) <|
 .chk (4 < 64) <|
 .chk (5 < 64) <|
 .chk (6 < 64) <|
 .chk (7 < 64) <|
 .chk (8 < 64) <|
 .chk (9 < 64) <|
 .chk (10 < 64) <|
 .chk (11 < 64) <|
 .chk (12 < 64) <|
 .chk (13 < 64) <|
 .chk (14 < 64) <|
 .chk (15 < 64) <|
 .chk (16 < 64) <|
 .chk (17 < 64) <|
 .chk (18 < 64) <|
 .chk (19 < 64) <|
 .chk (20 < 64) <|
 .chk (21 < 64) <|
 .chk (22 < 64) <|
 .chk (23 < 64) <|
 .chk (24 < 64) <|
 .chk (25 < 64) <|
 .chk (26 < 64) <|
 .chk (27 < 64) <|
 .chk (28 < 64) <|
 .chk (29 < 64) <|
 .chk (30 < 64) <|
 .chk (31 < 64) <|
 .chk (32 < 64) <|
 .chk (33 < 64) <|
 .chk (34 < 64) <|
 .chk (35 < 64) <|
 .chk (36 < 64) <|
 .chk (37 < 64) <|
 .chk (38 < 64) <|
 .chk (39 < 64) <|
 .chk (40 < 64) <|
 .chk (41 < 64) <|
 .chk (42 < 64) <|
 .chk (43 < 64) <|
 .chk (44 < 64) <|
 .chk (45 < 64) <|
 .chk (46 < 64) <|
 .chk (47 < 64) <|
 .chk (48 < 64) <|
 .chk (49 < 64) <|
 .chk (50 < 64) <|
 .chk (51 < 64) <|
 .chk (52 < 64) <|
 .chk (53 < 64) <|
 .chk (54 < 64) <|
 .chk (55 < 64) <|
 .chk (56 < 64) <|
 .chk (57 < 64) <|
 .chk (58 < 64) <|
 .chk (59 < 64) <|
 .chk (60 < 64) <|
 .chk (61 < 64) <|
 .chk (62 < 64) <|
 .chk (63 < 64) <|
 .ret ()
def qo_:Option (Unit):=(qr1).run some
def qDM:List (Nat×qD):=[]
def qsf:Ent:=smF ⟨113,[],[],[],[]⟩ [] (Unit) (fun x=>qo_) cs1 fun _=>qCP
theorem qCD:ze Tryz.prog (qsf):=
 zd (H:=qDF) (L:=qL (qDM)) (ts:=[]) (T:=fun x=>qr1) 0 qHx (qzA 0) (qo (by kernel_rfl) trivial) (rg0 (by kernel_rfl)) fun x=>by kernel_rfl
noncomputable def qIi:Code:=Tryz.f145.body.getD .skip
theorem qHN:FnF Tryz.prog 145 Tryz.f145 qIi:=⟨qj,by kernel_rfl,by kernel_rfl,by kernel_rfl⟩
def qhb:TH:={ live:=[(0,[0,1]),(1,[0,5]),(2,[4])] }
def qgN (N:Nat):List Ent:=[]
theorem qfD (N:Nat):qT Tryz.prog (qgN N):=trivial
def qg0 (z:Int):TV×THp:=(.tv (.i .u32) z,[])
def Vz (a0:Int) (a1:Int):Tree (Int):=
 .chk (0≤(qhM .u64 (IntKind.u64.wrap a1) 31)) <|
 let w1:Int:=qc5 .u32 a0 (min (qhM .u64 (IntKind.u64.wrap a1) 31).toNat 32)
 let w2:Int:=qNJ .u64 ((32:Int)) (qhM .u64 (IntKind.u64.wrap a1) 31)
 .chk (0≤w2) <|
 .ret (uOr .u32 w1 (Qz a0 (min w2.toNat 32)))
def XC (a0:Int) (a1:Int):Option (Int):=(Vz a0 a1).run some
def qgT:List (Nat×qD):=[]
def KD:Ent:=smF ⟨145,[],[.x (.i .u32),.x (.i .i64)],[],[]⟩ [(.i .u32),(.i .i64)] (Int) (fun x=>XC x.1 x.2.1) cs1 fun _=>qg0
theorem qgm:ze Tryz.prog (KD):=
 zd (H:=qhb) (L:=qL (qgT)) (ts:=[(.i .u32),(.i .i64)]) (T:=fun x=>Vz x.1 x.2.1) 0 qHN (qfD 0) (qo (by kernel_rfl) trivial) (rg0 (by kernel_rfl)) fun x=>by kernel_rfl
noncomputable def qHu:Code:=Tryz.f136.body.getD .skip
theorem qHV:FnF Tryz.prog 136 Tryz.f136 qHu:=⟨qj,by kernel_rfl,by kernel_rfl,by kernel_rfl⟩
def qDY:TH:={ live:=[(0,[0,1]),(1,[4])] }
def qDW (N:Nat):List Ent:=[KD]
theorem qyZ (N:Nat):qT Tryz.prog (qDW N):=⟨qgm,trivial⟩
def qDE (z:Int):TV×THp:=(.tv (.i .u32) z,[])
def qjx (a0:Int) (a1:Int):Tree (Int):=
 .chk (qt (0 - a1)) <|
 .bind (XC a0 (0 - a1)) fun r1=>
 .ret r1
def ja (a0:Int) (a1:Int):Option (Int):=(qjx a0 a1).run some
def qDy:List (Nat×qD):=[]
def qjE:Ent:=smF ⟨136,[],[.x (.i .u32),.x (.i .i64)],[],[]⟩ [(.i .u32),(.i .i64)] (Int) (fun x=>ja x.1 x.2.1) cs1 fun _=>qDE
theorem qo5:ze Tryz.prog (qjE):=
 zd (H:=qDY) (L:=qL (qDy)) (ts:=[(.i .u32),(.i .i64)]) (T:=fun x=>qjx x.1 x.2.1) 0 qHV (qyZ 0) (qo (by kernel_rfl) trivial) (rg0 (by kernel_rfl)) fun x=>by kernel_rfl
noncomputable def qn8:Code:=Tryz.f135.body.getD .skip
theorem qHF:FnF Tryz.prog 135 Tryz.f135 qn8:=⟨qj,by kernel_rfl,by kernel_rfl,by kernel_rfl⟩
def qdX:TH:={ live:=[(0,[0,2]),(1,[0,2,3]),(2,[0,2,3,7]),(3,[0,2,3,7,8]),(4,[0,2,3,4,7]),(5,[0,2,3,4,7,11]),(6,[0,2,3,7]),(7,[0,2,3,4,5,6,7]),(8,[0,2,3,7]),(9,[0,2,3,7]),(10,[2])] }
def qk4 (N:Nat):List Ent:=[qjE]
theorem qhr (N:Nat):qT Tryz.prog (qk4 N):=⟨qo5,trivial⟩
abbrev X0:=Vector UInt32 64×List UInt8
abbrev Zx:=Vector UInt32 64×Int×Bool
def JM (f:X0) (y:Zx):Ex×TSt:=(.exit 0,⟨0,86,[],[(0,.tv .bl f.2),(2,.p 20 [] 0),(3,.p 30 [] 0),(7,xi y.2.1),(8,xb y.2.2)],[(20,.cell false (.tv (.wa 64) f.1)),(30,.cell false (.tv (.wa 64) (y.1:Vector UInt32 64)))],false,[]⟩)
def qri (N:Nat):List (Nat×qD):=[]
abbrev JP:=Vector UInt32 64×Int
def qfO:SP:=⟨0,86,[],[(0,.x .bl),(2,.k (.p 20 [] 0)),(3,.k (.p 30 [] 0)),(7,.x (.i .i64))],[(20,.cell false (.x (.wa 64))),(30,.cell false (.x (.wa 64)))],false,[]⟩
def qq4 (f:X0) (v:JP):TSt:=zJ qfO [dv (.wa 64) f.1,dv (.wa 64) v.1,dv .bl f.2,dv (.i .i64) v.2]
def Qj (N:Nat) (o_3:Vector UInt32 64) (s0_3:List UInt8) (v:JP):Tree (JP⊕Zx):=
 .cond (decide (v.2 < ((64:Int)))) (
 .cond (decide (v.2 < ((16:Int)))) (
 .chk (qt (((4:Int)) * v.2)) <|
 .bind (zh s0_3 (((4:Int)) * v.2)) fun e1=>
 let w2:Int:=IntKind.u32.wrap ((e1.toNat:Nat):Int)
 .chk (0≤(24:Int)) <|
 .chk (qt (((4:Int)) * v.2)) <|
 .chk (qt ((((4:Int)) * v.2) + 1)) <|
 .bind (zh s0_3 ((((4:Int)) * v.2) + 1)) fun e3=>
 let w4:Int:=IntKind.u32.wrap ((e3.toNat:Nat):Int)
 .chk (0≤(16:Int)) <|
 let w5:Int:=uOr .u32 (qc5 .u32 w2 24) (qc5 .u32 w4 16)
 .chk (qt (((4:Int)) * v.2)) <|
 .chk (qt ((((4:Int)) * v.2) + 2)) <|
 .bind (zh s0_3 ((((4:Int)) * v.2) + 2)) fun e6=>
 let w7:Int:=IntKind.u32.wrap ((e6.toNat:Nat):Int)
 .chk (0≤(8:Int)) <|
 .chk (qt (((4:Int)) * v.2)) <|
 .chk (qt ((((4:Int)) * v.2) + 3)) <|
 .bind (zh s0_3 ((((4:Int)) * v.2) + 3)) fun e8=>
 let w9:Int:=IntKind.u32.wrap ((e8.toNat:Nat):Int)
 let w10:Int:=uOr .u32 (uOr .u32 w5 (qc5 .u32 w7 8)) w9
 .chk (0≤v.2∧v.2 < ((64:Nat):Int)) <|
 .chk (inW w10) <|
 .chk (v.2.toNat < 64) <|
 .chk (qt (v.2 + 1)) <|
 .ret (.inl (v.1.setIfInBounds v.2.toNat (UInt32.ofNat w10.toNat),v.2 + 1))) <|
 .chk (qt (v.2 - 15)) <|
 .chk (0≤(v.2 - 15)∧(v.2 - 15) < ((64:Nat):Int)) <|
 .chk ((v.2 - 15).toNat < 64) <|
 .chk (qt (v.2 - 2)) <|
 .chk (0≤(v.2 - 2)∧(v.2 - 2) < ((64:Nat):Int)) <|
 .chk ((v.2 - 2).toNat < 64) <|
 .chk (qt (v.2 - 16)) <|
 .chk (0≤(v.2 - 16)∧(v.2 - 16) < ((64:Nat):Int)) <|
 .chk ((v.2 - 16).toNat < 64) <|
 .chk (qt (v.2 - 7)) <|
 .chk (0≤(v.2 - 7)∧(v.2 - 7) < ((64:Nat):Int)) <|
 .chk ((v.2 - 7).toNat < 64) <|
 let w1:Int:=XD .u32 (((v.1.toList.getD ((v.2 - 16).toNat) 0).toNat:Nat):Int) (((v.1.toList.getD ((v.2 - 7).toNat) 0).toNat:Nat):Int)
 .bind (ja (((v.1.toList.getD ((v.2 - 15).toNat) 0).toNat:Nat):Int) 7) fun r2=>
 .bind (ja (((v.1.toList.getD ((v.2 - 15).toNat) 0).toNat:Nat):Int) 18) fun r3=>
 .chk (0≤(3:Int)) <|
 let w4:Int:=Qz (((v.1.toList.getD ((v.2 - 15).toNat) 0).toNat:Nat):Int) 3
 let w5:Int:=XD .u32 w1 (qbH .u32 (qbH .u32 r2 r3) w4)
 .bind (ja (((v.1.toList.getD ((v.2 - 2).toNat) 0).toNat:Nat):Int) 17) fun r6=>
 .bind (ja (((v.1.toList.getD ((v.2 - 2).toNat) 0).toNat:Nat):Int) 19) fun r7=>
 .chk (0≤(10:Int)) <|
 let w8:Int:=Qz (((v.1.toList.getD ((v.2 - 2).toNat) 0).toNat:Nat):Int) 10
 let w9:Int:=XD .u32 w5 (qbH .u32 (qbH .u32 r6 r7) w8)
 .chk (0≤v.2∧v.2 < ((64:Nat):Int)) <|
 .chk (inW w9) <|
 .chk (v.2.toNat < 64) <|
 .chk (qt (v.2 + 1)) <|
 .ret (.inl (v.1.setIfInBounds v.2.toNat (UInt32.ofNat w9.toNat),v.2 + 1))) <|
 .ret (.inr (v.1,v.2,decide (v.2 < ((64:Int)))))
def qf8 (N n:Nat) (f:X0) (v:JP):Option Zx:=qY (Qj N f.1 f.2) some n v
theorem qqY (N:Nat) (f:X0) (n:Nat) (v:JP) (y:Zx) (h:qf8 N n f v=some y):LG Tryz.prog qdX 135 (qS qn8 3) (qq4 f v) (JM f y):=
 zw qj (E:=qk4 N) (L:=qL (qri N)) (st:=JM f) (g:=some) (R:=JM f) (qhr N) (qo (by kernel_rfl) trivial) (rg0 (by kernel_rfl)) (fun v=>by kernel_rfl) (q6 (st:=JM f) fun y=>by rfl) n v y h
def qck (N:Nat) (o_3:Vector UInt32 64) (s0_3:List UInt8) (o_3_2:Vector UInt32 64) (s7_3:Int):Option Zx:=qf8 N N (o_3,s0_3) (o_3_2,s7_3)
def qgc (N:Nat):qD:=smL qfO [(.wa 64),(.wa 64),.bl,(.i .i64)] Zx (fun x=>qck N x.1 x.2.2.1 x.2.1 x.2.2.2.1) cs1 fun x=>JM (x.1,x.2.2.1)
theorem qpl (N:Nat):jG Tryz.prog qdX 135 (qS qn8 3) (qgc N):=zI fun x z h=>qqY N (x.1,x.2.2.1) N (x.2.1,x.2.2.2.1) z h
def qxn (z:Vector UInt32 64):TV×THp:=(.tv (.wa 64) z,[])
def qd0 (N:Nat) (a0:List UInt8):Tree (Vector UInt32 64):=
 .bind (qck N ((Vector.replicate 64 0)) a0 ((Vector.replicate 64 0)) 0) fun z1=>
 .ret z1.1
def qcX (N:Nat) (a0:List UInt8):Option (Vector UInt32 64):=(qd0 N a0).run some
def qw_ (N:Nat):List (Nat×qD):=[(3,qgc N)]
def qkB (N:Nat):Ent:=smF ⟨135,[],[.x .bl],[],[]⟩ [.bl] (Vector UInt32 64) (fun x=>qcX N x.1) cs1 fun _=>qxn
theorem quk (N:Nat):ze Tryz.prog (qkB N):=
 zd (H:=qdX) (L:=qL (qw_ N)) (ts:=[.bl]) (T:=fun x=>qd0 N x.1) 0 qHF (qhr N) (qo (by kernel_rfl) ⟨qpl N,trivial⟩) (rg0 (by kernel_rfl)) fun x=>by kernel_rfl
noncomputable def qez:Code:=Tryz.f114.body.getD .skip
theorem qHy:FnF Tryz.prog 114 Tryz.f114 qez:=⟨qj,by kernel_rfl,by kernel_rfl,by kernel_rfl⟩
def Vn:TH:={ live:=[(0,[0,2,6]),(1,[0,2,6,7]),(2,[0,2,6,7,19]),(3,[0,2,6,7,19,20]),(4,[0,2,6,7,8,19]),(5,[0,2,6,7,8,9,10,19]),(6,[0,2,6,7,9,11,19]),(7,[0,2,6,7,11,12,19]),(8,[0,2,6,7,11,12,19]),(9,[0,2,6,7,11,19]),(10,[0,2,6,7,19]),(11,[0,2,6,7,19]),(12,[0,7,95]),(13,[0,7,95,96]),(14,[0,7,13,95]),(15,[0,7,95]),(16,[0,7,95])] }
def qbM (N:Nat):List Ent:=[qkB N,qjE]
theorem KS (N:Nat):qT Tryz.prog (qbM N):=⟨quk N,qo5,trivial⟩
abbrev VM:=Vector UInt32 8×Vector UInt32 64×Vector UInt32 64
abbrev Qx:=Vector UInt32 8×Int×Bool
def ZG (f:VM) (y:Qx):Ex×TSt:=(.exit 0,⟨1,110,[50,60],[(0,.p 50 [] 0),(2,.p 60 [] 0),(6,.p 100060 [] 0),(7,.p 100070 [] 0),(19,xi y.2.1),(20,xb y.2.2)],[(50,.cell false (.tv (.wa 8) f.1)),(60,.cell false (.tv (.wa 64) f.2.1)),(100060,.cell false (.tv (.wa 64) f.2.2)),(100070,.cell false (.tv (.wa 8) (y.1:Vector UInt32 8)))],false,[]⟩)
def qnS (N:Nat):List (Nat×qD):=[]
abbrev ZH:=Vector UInt32 8×Int
def qdx:SP:=⟨1,110,[50,60],[(0,.k (.p 50 [] 0)),(2,.k (.p 60 [] 0)),(6,.k (.p 100060 [] 0)),(7,.k (.p 100070 [] 0)),(19,.x (.i .i64))],[(50,.cell false (.x (.wa 8))),(60,.cell false (.x (.wa 64))),(100060,.cell false (.x (.wa 64))),(100070,.cell false (.x (.wa 8)))],false,[]⟩
def qnV (f:VM) (v:ZH):TSt:=zJ qdx [dv (.wa 8) f.1,dv (.wa 64) f.2.1,dv (.wa 64) f.2.2,dv (.wa 8) v.1,dv (.i .i64) v.2]
def ZK (N:Nat) (o_3:Vector UInt32 8) (o_3_2:Vector UInt32 64) (o_3_3:Vector UInt32 64) (v:ZH):Tree (ZH⊕Qx):=
 .cond (decide (v.2 < ((64:Int)))) (
 .chk (0≤(0:Int)∧(0:Int) < ((8:Nat):Int)) <|
 .chk (0 < 8) <|
 .chk (0≤(4:Int)∧(4:Int) < ((8:Nat):Int)) <|
 .chk (4 < 8) <|
 .chk (0≤(7:Int)∧(7:Int) < ((8:Nat):Int)) <|
 .chk (7 < 8) <|
 .bind (ja (((v.1.toList.getD 4 0).toNat:Nat):Int) 6) fun r1=>
 .bind (ja (((v.1.toList.getD 4 0).toNat:Nat):Int) 11) fun r2=>
 .bind (ja (((v.1.toList.getD 4 0).toNat:Nat):Int) 25) fun r3=>
 let w4:Int:=XD .u32 (((v.1.toList.getD 7 0).toNat:Nat):Int) (qbH .u32 (qbH .u32 r1 r2) r3)
 .chk (0≤(5:Int)∧(5:Int) < ((8:Nat):Int)) <|
 .chk (5 < 8) <|
 let w5:Int:=qhM .u32 (((v.1.toList.getD 4 0).toNat:Nat):Int) (((v.1.toList.getD 5 0).toNat:Nat):Int)
 let w6:Int:=qbH .u32 (4294967295) (((v.1.toList.getD 4 0).toNat:Nat):Int)
 .chk (0≤(6:Int)∧(6:Int) < ((8:Nat):Int)) <|
 .chk (6 < 8) <|
 let w7:Int:=qhM .u32 w6 (((v.1.toList.getD 6 0).toNat:Nat):Int)
 .chk (0≤v.2∧v.2 < ((64:Nat):Int)) <|
 .chk (v.2.toNat < 64) <|
 let w8:Int:=XD .u32 (XD .u32 w4 (qbH .u32 w5 w7)) (((o_3_2.toList.getD v.2.toNat 0).toNat:Nat):Int)
 .chk (0≤v.2∧v.2 < ((64:Nat):Int)) <|
 .chk (v.2.toNat < 64) <|
 let w9:Int:=XD .u32 w8 (((o_3_3.toList.getD v.2.toNat 0).toNat:Nat):Int)
 .bind (ja (((v.1.toList.getD 0 0).toNat:Nat):Int) 2) fun r10=>
 .bind (ja (((v.1.toList.getD 0 0).toNat:Nat):Int) 13) fun r11=>
 .bind (ja (((v.1.toList.getD 0 0).toNat:Nat):Int) 22) fun r12=>
 .chk (0≤(1:Int)∧(1:Int) < ((8:Nat):Int)) <|
 .chk (1 < 8) <|
 let w13:Int:=qhM .u32 (((v.1.toList.getD 0 0).toNat:Nat):Int) (((v.1.toList.getD 1 0).toNat:Nat):Int)
 .chk (0≤(2:Int)∧(2:Int) < ((8:Nat):Int)) <|
 .chk (2 < 8) <|
 let w14:Int:=qhM .u32 (((v.1.toList.getD 0 0).toNat:Nat):Int) (((v.1.toList.getD 2 0).toNat:Nat):Int)
 .chk (0≤(1:Int)∧(1:Int) < ((8:Nat):Int)) <|
 .chk (1 < 8) <|
 .chk (0≤(2:Int)∧(2:Int) < ((8:Nat):Int)) <|
 .chk (2 < 8) <|
 let w15:Int:=qhM .u32 (((v.1.toList.getD 1 0).toNat:Nat):Int) (((v.1.toList.getD 2 0).toNat:Nat):Int)
 let w16:Int:=XD .u32 (qbH .u32 (qbH .u32 r10 r11) r12) (qbH .u32 (qbH .u32 w13 w14) w15)
 .chk (0≤(0:Int)∧(0:Int) < ((8:Nat):Int)) <|
 .chk (inW (XD .u32 w9 w16)) <|
 .chk (0 < 8) <|
 .chk (0≤(4:Int)∧(4:Int) < ((8:Nat):Int)) <|
 .chk (4 < 8) <|
 let w17:Int:=XD .u32 (((((Yp v.1 1 7).setIfInBounds 0 (UInt32.ofNat (XD .u32 w9 w16).toNat)).toList.getD 4 0).toNat:Nat):Int) w9
 .chk (0≤(4:Int)∧(4:Int) < ((8:Nat):Int)) <|
 .chk (inW w17) <|
 .chk (4 < 8) <|
 .chk (qt (v.2 + 1)) <|
 .ret (.inl (((Yp v.1 1 7).setIfInBounds 0 (UInt32.ofNat (XD .u32 w9 w16).toNat)).setIfInBounds 4 (UInt32.ofNat w17.toNat),v.2 + 1))) <|
 .ret (.inr (v.1,v.2,decide (v.2 < ((64:Int)))))
def qdu (N n:Nat) (f:VM) (v:ZH):Option Qx:=qY (ZK N f.1 f.2.1 f.2.2) some n v
theorem qnQ (N:Nat) (f:VM) (n:Nat) (v:ZH) (y:Qx) (h:qdu N n f v=some y):LG Tryz.prog Vn 114 (qS qez 3) (qnV f v) (ZG f y):=
 zw qj (E:=qbM N) (L:=qL (qnS N)) (st:=ZG f) (g:=some) (R:=ZG f) (KS N) (qo (by kernel_rfl) trivial) (rg0 (by kernel_rfl)) (fun v=>by kernel_rfl) (q6 (st:=ZG f) fun y=>by rfl) n v y h
def qaP (N:Nat) (o_3:Vector UInt32 8) (o_3_2:Vector UInt32 64) (o_3_3:Vector UInt32 64) (o_3_4:Vector UInt32 8) (s19_3:Int):Option Qx:=qdu N N (o_3,o_3_2,o_3_3) (o_3_4,s19_3)
def qdt (N:Nat):qD:=smL qdx [(.wa 8),(.wa 64),(.wa 64),(.wa 8),(.i .i64)] Qx (fun x=>qaP N x.1 x.2.1 x.2.2.1 x.2.2.2.1 x.2.2.2.2.1) cs1 fun x=>ZG (x.1,x.2.1,x.2.2.1)
theorem qmw (N:Nat):jG Tryz.prog Vn 114 (qS qez 3) (qdt N):=zI fun x z h=>qnQ N (x.1,x.2.1,x.2.2.1) N (x.2.2.2.1,x.2.2.2.2.1) z h
abbrev J6:=Vector UInt32 64×Vector UInt32 8
abbrev v_:=Vector UInt32 8×Int×Bool
def Ze (f:J6) (y:v_):Ex×TSt:=(.exit 2,⟨1,110,[50,60],[(0,.p 50 [] 0),(7,.p 100070 [] 0),(95,xi y.2.1),(96,xb y.2.2)],[(50,.cell false (.tv (.wa 8) (y.1:Vector UInt32 8))),(60,.cell false (.tv (.wa 64) f.1)),(100070,.cell false (.tv (.wa 8) f.2))],false,[]⟩)
def qll (N:Nat):List (Nat×qD):=[]
abbrev Za:=Vector UInt32 8×Int
def qcL:SP:=⟨1,110,[50,60],[(0,.k (.p 50 [] 0)),(7,.k (.p 100070 [] 0)),(95,.x (.i .i64))],[(50,.cell false (.x (.wa 8))),(60,.cell false (.x (.wa 64))),(100070,.cell false (.x (.wa 8)))],false,[]⟩
def qmI (f:J6) (v:Za):TSt:=zJ qcL [dv (.wa 8) v.1,dv (.wa 64) f.1,dv (.wa 8) f.2,dv (.i .i64) v.2]
def J1 (N:Nat) (o_13_2:Vector UInt32 64) (o_13_3:Vector UInt32 8) (v:Za):Tree (Za⊕v_):=
 .cond (decide (v.2 < ((8:Int)))) (
 .chk (0≤v.2∧v.2 < ((8:Nat):Int)) <|
 .chk (v.2.toNat < 8) <|
 .chk (0≤v.2∧v.2 < ((8:Nat):Int)) <|
 .chk (v.2.toNat < 8) <|
 let w1:Int:=XD .u32 (((v.1.toList.getD v.2.toNat 0).toNat:Nat):Int) (((o_13_3.toList.getD v.2.toNat 0).toNat:Nat):Int)
 .chk (0≤v.2∧v.2 < ((8:Nat):Int)) <|
 .chk (inW w1) <|
 .chk (v.2.toNat < 8) <|
 .chk (qt (v.2 + 1)) <|
 .ret (.inl (v.1.setIfInBounds v.2.toNat (UInt32.ofNat w1.toNat),v.2 + 1))) <|
 .ret (.inr (v.1,v.2,decide (v.2 < ((8:Int)))))
def qcz (N n:Nat) (f:J6) (v:Za):Option v_:=qY (J1 N f.1 f.2) some n v
theorem qlY (N:Nat) (f:J6) (n:Nat) (v:Za) (y:v_) (h:qcz N n f v=some y):LG Tryz.prog Vn 114 (qS qez 13) (qmI f v) (Ze f y):=
 zw qj (E:=qbM N) (L:=qL (qll N)) (st:=Ze f) (g:=some) (R:=Ze f) (KS N) (qo (by kernel_rfl) trivial) (rg0 (by kernel_rfl)) (fun v=>by kernel_rfl) (q6 (st:=Ze f) fun y=>by rfl) n v y h
def KO (N:Nat) (o_13_2:Vector UInt32 64) (o_13_3:Vector UInt32 8) (o_13:Vector UInt32 8) (s95_13:Int):Option v_:=qcz N N (o_13_2,o_13_3) (o_13,s95_13)
def qdg (N:Nat):qD:=smL qcL [(.wa 8),(.wa 64),(.wa 8),(.i .i64)] v_ (fun x=>KO N x.2.1 x.2.2.1 x.1 x.2.2.2.1) cs1 fun x=>Ze (x.2.1,x.2.2.1)
theorem qkR (N:Nat):jG Tryz.prog Vn 114 (qS qez 13) (qdg N):=zI fun x z h=>qlY N (x.2.1,x.2.2.1) N (x.1,x.2.2.2.1) z h
def qtc (a1:Vector UInt32 64) (z:Vector UInt32 8):TV×THp:=(.tup [],[(50,.cell false (.tv (.wa 8) z)),(60,.cell false (.tv (.wa 64) a1))])
def qbB (N:Nat) (a0:Vector UInt32 8) (a1:Vector UInt32 64) (a2:List UInt8):Tree (Vector UInt32 8):=
 .bind (qcX N a2) fun r1=>
 .bind (qaP N a0 a1 r1 a0 0) fun z2=>
 .bind (KO N a1 z2.1 a0 0) fun z3=>
 .ret z3.1
def Wt (N:Nat) (a0:Vector UInt32 8) (a1:Vector UInt32 64) (a2:List UInt8):Option (Vector UInt32 8):=(qbB N a0 a1 a2).run some
def qs2 (N:Nat):List (Nat×qD):=[(3,qdt N),(13,qdg N)]
def qhy (N:Nat):Ent:=smF ⟨114,[],[.k (.p 50 [] 0),.x .bl,.k (.p 60 [] 0)],[],[(50,.cell false (.x (.wa 8))),(60,.cell false (.x (.wa 64)))]⟩ [(.wa 8),(.wa 64),.bl] (Vector UInt32 8) (fun x=>Wt N x.1 x.2.1 x.2.2.1) cs1 fun x=>qtc x.2.1
theorem qq8 (N:Nat):ze Tryz.prog (qhy N):=
 zd (H:=Vn) (L:=qL (qs2 N)) (ts:=[(.wa 8),(.wa 64),.bl]) (T:=fun x=>qbB N x.1 x.2.1 x.2.2.1) 0 qHy (KS N) (qo (by kernel_rfl) ⟨qmw N,qkR N,trivial⟩) (rg0 (by kernel_rfl)) fun x=>by kernel_rfl
noncomputable def Xx:Code:=Tryz.f85.body.getD .skip
theorem qKb:FnF Tryz.prog 85 Tryz.f85 Xx:=⟨qj,by kernel_rfl,by kernel_rfl,by kernel_rfl⟩
def J9:TH:={ live:=[(0,[0,2]),(1,[0,2,3]),(2,[0,2,3,16]),(3,[0,2,3]),(4,[0,2,3,20]),(5,[0,2,3,20,21]),(6,[0,2,3,4,20]),(7,[0,2,3,20]),(8,[0,2,3,20]),(9,[2,3,5,6]),(10,[2,3,5,6,40]),(11,[2,3,5,6]),(12,[2,3,5,6]),(13,[2,5,7]),(14,[2,5,7,46]),(15,[2,5,7,46,47]),(16,[2,5,7,8,46]),(17,[2,5,7,46]),(18,[2,5,7,46]),(19,[2])],fresh:=[10] }
def qcc (N:Nat):List Ent:=[qkD,qsk,qsf,qhy N]
theorem YX (N:Nat):qT Tryz.prog (qcc N):=⟨qu2,qCA,qCD,qq8 N,trivial⟩
abbrev qdd:=Vector UInt8 32×List UInt8
abbrev We:=List UInt8×Bool
def KV (f:qdd) (y:We):Ex×TSt:=(.exit 0,⟨0,63,[],[(0,.tv .bl f.2),(2,.p 20 [] 0),(3,.v 100050 y.1.length),(16,xb y.2)],[(20,.cell false (.tv (.ba 32) f.1)),(100050,.vec false 1 .bl (y.1:List UInt8))],false,[]⟩)
def qBT (N:Nat):List (Nat×qD):=[]
abbrev K3:=List UInt8
def qoi:SP:=⟨0,63,[],[(0,.x .bl),(2,.k (.p 20 [] 0)),(3,.vs 100050)],[(20,.cell false (.x (.ba 32))),(100050,.vec false 1)],false,[]⟩
def qAR (f:qdd) (v:K3):TSt:=zJ qoi [dv .bl v,dv (.ba 32) f.1,dv .bl f.2]
def KU (N:Nat) (o_2_2:Vector UInt8 32) (s0_2:List UInt8) (v:K3):Tree (K3⊕We):=
 .chk ((64:Int)≠0) <|
 .cond (!decide ((((v.length:Nat):Int).tmod 64)=56)) (
 .chk (jF v.length v.length ((v++[(UInt8.ofNat 0)]).length) 1) <|
 .ret (.inl (v++[(UInt8.ofNat 0)]))) <|
 .ret (.inr (v,!decide ((((v.length:Nat):Int).tmod 64)=56)))
def qp3 (N n:Nat) (f:qdd) (v:K3):Option We:=qY (KU N f.1 f.2) some n v
theorem qCh (N:Nat) (f:qdd) (n:Nat) (v:K3) (y:We) (h:qp3 N n f v=some y):LG Tryz.prog J9 85 (qS Xx 2) (qAR f v) (KV f y):=
 zw qj (E:=qcc N) (L:=qL (qBT N)) (st:=KV f) (g:=some) (R:=KV f) (YX N) (qo (by kernel_rfl) trivial) (rg0 (by kernel_rfl)) (fun v=>by kernel_rfl) (q6 (st:=KV f) fun y=>by rfl) n v y h
def qgz (N:Nat) (o_2_2:Vector UInt8 32) (s0_2:List UInt8) (o_2:List UInt8):Option We:=qp3 N N (o_2_2,s0_2) o_2
def qpt (N:Nat):qD:=smL qoi [.bl,(.ba 32),.bl] We (fun x=>qgz N x.2.1 x.2.2.1 x.1) cs1 fun x=>KV (x.2.1,x.2.2.1)
theorem qyE (N:Nat):jG Tryz.prog J9 85 (qS Xx 2) (qpt N):=zI fun x z h=>qCh N (x.2.1,x.2.2.1) N x.1 z h
abbrev qcZ:=Vector UInt8 32×List UInt8
abbrev Wd:=List UInt8×Int×Bool
def Kv (f:qcZ) (y:Wd):Ex×TSt:=(.exit 2,⟨0,63,[],[(0,.tv .bl f.2),(2,.p 20 [] 0),(3,.v 100050 y.1.length),(20,xi y.2.1),(21,xb y.2.2)],[(20,.cell false (.tv (.ba 32) f.1)),(100050,.vec false 1 .bl (y.1:List UInt8))],false,[]⟩)
def qA6 (N:Nat):List (Nat×qD):=[]
abbrev KT:=List UInt8×Int
def qpD:SP:=⟨0,63,[],[(0,.x .bl),(2,.k (.p 20 [] 0)),(3,.vs 100050),(20,.x (.i .i64))],[(20,.cell false (.x (.ba 32))),(100050,.vec false 1)],false,[]⟩
def qCl (f:qcZ) (v:KT):TSt:=zJ qpD [dv .bl v.1,dv (.ba 32) f.1,dv .bl f.2,dv (.i .i64) v.2]
def qdi (N:Nat) (o_5_2:Vector UInt8 32) (s0_5:List UInt8) (v:KT):Tree (KT⊕Wd):=
 .cond (decide (v.2 < ((8:Int)))) (
 let w1:Int:=IntKind.u64.wrap ((s0_5.length:Nat):Int)
 .chk (qt (((7:Int)) - v.2)) <|
 .chk (qt (((8:Int)) * (((7:Int)) - v.2))) <|
 .chk (0≤(((8:Int)) * (((7:Int)) - v.2))) <|
 let w2:Int:=Qz (qOz .u64 w1 8) (min (((8:Int)) * (((7:Int)) - v.2)).toNat 64)
 .chk (inB (IntKind.u8.wrap w2)) <|
 .chk (jF v.1.length v.1.length ((v.1++[UInt8.ofNat (IntKind.u8.wrap w2).toNat]).length) 1) <|
 .chk (qt (v.2 + 1)) <|
 .ret (.inl (v.1++[UInt8.ofNat (IntKind.u8.wrap w2).toNat],v.2 + 1))) <|
 .ret (.inr (v.1,v.2,decide (v.2 < ((8:Int)))))
def qpf (N n:Nat) (f:qcZ) (v:KT):Option Wd:=qY (qdi N f.1 f.2) some n v
theorem qCn (N:Nat) (f:qcZ) (n:Nat) (v:KT) (y:Wd) (h:qpf N n f v=some y):LG Tryz.prog J9 85 (qS Xx 5) (qCl f v) (Kv f y):=
 zw qj (E:=qcc N) (L:=qL (qA6 N)) (st:=Kv f) (g:=some) (R:=Kv f) (YX N) (qo (by kernel_rfl) trivial) (rg0 (by kernel_rfl)) (fun v=>by kernel_rfl) (q6 (st:=Kv f) fun y=>by rfl) n v y h
def qmQ (N:Nat) (o_5_2:Vector UInt8 32) (s0_5:List UInt8) (o_5:List UInt8) (s20_5:Int):Option Wd:=qpf N N (o_5_2,s0_5) (o_5,s20_5)
def qoH (N:Nat):qD:=smL qpD [.bl,(.ba 32),.bl,(.i .i64)] Wd (fun x=>qmQ N x.2.1 x.2.2.1 x.1 x.2.2.2.1) cs1 fun x=>Kv (x.2.1,x.2.2.1)
theorem qyS (N:Nat):jG Tryz.prog J9 85 (qS Xx 5) (qoH N):=zI fun x z h=>qCn N (x.2.1,x.2.2.1) N (x.1,x.2.2.2.1) z h
abbrev QG:=List UInt8×Vector UInt8 32×Vector UInt32 8×Vector UInt32 64
abbrev v5:=Unit⊕(Vector UInt32 8×List UInt8×Bool)
def QL (f:QG):v5→Ex×TSt
 | .inl y=>(.exit 4,⟨0,63,[],[(2,.p 20 [] 0),(3,.v 100050 f.1.length),(5,.p 50 [] 0),(6,.p 60 [] 0),(40,xb (decide (((0:Int)) < ((f.1.length:Nat):Int))))],[(20,.cell false (.tv (.ba 32) f.2.1)),(50,.cell false (.tv (.wa 8) f.2.2.1)),(60,.cell false (.tv (.wa 64) f.2.2.2)),(100050,.vec false 1 .bl f.1)],false,[]⟩)
 | .inr y=>(.exit 4,⟨0,63,[],[(2,.p 20 [] 0),(3,.tv .bl (y.2.1:List UInt8)),(5,.p 50 [] 0),(6,.p 60 [] 0),(40,xb y.2.2)],[(20,.cell false (.tv (.ba 32) f.2.1)),(50,.cell false (.tv (.wa 8) (y.1:Vector UInt32 8))),(60,.cell false (.tv (.wa 64) f.2.2.2))],false,[]⟩)
def qm9 (N:Nat):List (Nat×qD):=[]
abbrev ZS:=Vector UInt32 8×List UInt8
def qto:SP:=⟨0,63,[],[(2,.k (.p 20 [] 0)),(3,.x .bl),(5,.k (.p 50 [] 0)),(6,.k (.p 60 [] 0))],[(20,.cell false (.x (.ba 32))),(50,.cell false (.x (.wa 8))),(60,.cell false (.x (.wa 64)))],false,[]⟩
def qhp (f:QG) (v:ZS):TSt:=zJ qto [dv (.ba 32) f.2.1,dv (.wa 8) v.1,dv (.wa 64) f.2.2.2,dv .bl v.2]
def Yb (N:Nat) (o_10:List UInt8) (o_10_2:Vector UInt8 32) (o_10_3:Vector UInt32 8) (o_10_4:Vector UInt32 64) (v:ZS):Tree (ZS⊕v5):=
 .cond (decide (((0:Int)) < ((v.2.length:Nat):Int))) (
 .chk (0≤(0:Int)∧(0:Int)≤(64:Int)∧(64:Int)≤((v.2.length:Nat):Int)) <|
 .bind (Wt N v.1 o_10_4 ((v.2.take 64).drop 0)) fun r1=>
 .chk (0≤(64:Int)∧(64:Int)≤((v.2.length:Nat):Int)) <|
 .ret (.inl (r1,v.2.drop 64))) <|
 .ret (.inr (.inr ((v.1,v.2,decide (((0:Int)) < ((v.2.length:Nat):Int))))))
def qgR (N n:Nat) (f:QG) (v:ZS):Option v5:=qY (Yb N f.1 f.2.1 f.2.2.1 f.2.2.2) some n v
theorem qtu (N:Nat) (f:QG) (n:Nat) (v:ZS) (y:v5) (h:qgR N n f v=some y):LG Tryz.prog J9 85 (qS Xx 10) (qhp f v) (QL f y):=
 zw qj (E:=qcc N) (L:=qL (qm9 N)) (st:=QL f) (g:=some) (R:=QL f) (YX N) (qo (by kernel_rfl) trivial) (rg0 (by kernel_rfl)) (fun v=>by kernel_rfl) (q6 (st:=QL f) fun y=>by rcases y with _ | _<;>rfl) n v y h
abbrev Ys:=Unit
def qna:SP:=⟨0,63,[],[(2,.k (.p 20 [] 0)),(3,.vs 100050),(5,.k (.p 50 [] 0)),(6,.k (.p 60 [] 0))],[(20,.cell false (.x (.ba 32))),(50,.cell false (.x (.wa 8))),(60,.cell false (.x (.wa 64))),(100050,.vec false 1)],false,[]⟩
def qzC (f:QG) (v:Ys):TSt:=zJ qna [dv .bl f.1,dv (.ba 32) f.2.1,dv (.wa 8) f.2.2.1,dv (.wa 64) f.2.2.2]
abbrev qfz:=ZS⊕v5
def qbj (N:Nat) (o_10:List UInt8) (o_10_2:Vector UInt8 32) (o_10_3:Vector UInt32 8) (o_10_4:Vector UInt32 64) (v:Ys):Tree (Ys⊕qfz):=
 .cond (decide (((0:Int)) < ((o_10.length:Nat):Int))) (
 .chk (0≤(0:Int)∧(0:Int)≤(64:Int)∧(64:Int)≤((o_10.length:Nat):Int)) <|
 .chk (o_10.length=o_10.length) <|
 .bind (Wt N o_10_3 o_10_4 ((o_10.take 64).drop 0)) fun r1=>
 .chk (0≤(64:Int)∧(64:Int)≤((o_10.length:Nat):Int)) <|
 .chk (o_10.length=o_10.length) <|
 .ret (.inr (.inl (r1,o_10.drop 64)))) <|
 .ret (.inr (.inr ((.inl ()))))
def qfw (N n:Nat) (f:QG):qfz→Option v5
 | .inl w=>qgR N n f w
 | .inr w=>some w
def qzx (f:QG):qfz→Ex×TSt
 | .inl w=>(.normal,qhp f w)
 | .inr w=>QL f w
def qne (N n:Nat) (f:QG) (v:Ys):Option v5:=qY (qbj N f.1 f.2.1 f.2.2.1 f.2.2.2) (qfw N n f) n v
theorem qy3 (N:Nat) (f:QG) (n:Nat) (v:Ys) (y:v5) (h:qne N n f v=some y):LG Tryz.prog J9 85 (qS Xx 10) (qzC f v) (QL f y):=
 zw qj (E:=qcc N) (L:=qL (qm9 N)) (st:=qzx f) (g:=(qfw N n f)) (R:=QL f) (YX N) (qo (by kernel_rfl) trivial) (rg0 (by kernel_rfl)) (fun v=>by kernel_rfl) (fun w y h=>by
 rcases w with w | w
 ·exact qtu N f n w y h
 ·exact q6 (st:=QL f) (fun y=>by rcases y with _ | _<;>rfl) w y h
) n v y h
def qaW (N:Nat) (o_10:List UInt8) (o_10_2:Vector UInt8 32) (o_10_3:Vector UInt32 8) (o_10_4:Vector UInt32 64):Option v5:=qne N N (o_10,o_10_2,o_10_3,o_10_4) ()
def qm4 (N:Nat):qD:=smL qna [.bl,(.ba 32),(.wa 8),(.wa 64)] v5 (fun x=>qaW N x.1 x.2.1 x.2.2.1 x.2.2.2.1) (csS cs1) fun x=>QL (x.1,x.2.1,x.2.2.1,x.2.2.2.1)
theorem qwX (N:Nat):jG Tryz.prog J9 85 (qS Xx 10) (qm4 N):=zI fun x z h=>qy3 N (x.1,x.2.1,x.2.2.1,x.2.2.2.1) N () z h
abbrev qbq:=Vector UInt8 32×Vector UInt32 8
abbrev V5:=Vector UInt8 32×Int×Bool
def YB (f:qbq) (y:V5):Ex×TSt:=(.exit 6,⟨0,63,[],[(2,.p 20 [] 0),(5,.p 50 [] 0),(7,.p 70 [] 0),(46,xi y.2.1),(47,xb y.2.2)],[(20,.cell false (.tv (.ba 32) f.1)),(50,.cell false (.tv (.wa 8) f.2)),(70,.cell false (.tv (.ba 32) (y.1:Vector UInt8 32)))],false,[]⟩)
def qzw (N:Nat):List (Nat×qD):=[]
abbrev YL:=Vector UInt8 32×Int
def qnq:SP:=⟨0,63,[],[(2,.k (.p 20 [] 0)),(5,.k (.p 50 [] 0)),(7,.k (.p 70 [] 0)),(46,.x (.i .i64))],[(20,.cell false (.x (.ba 32))),(50,.cell false (.x (.wa 8))),(70,.cell false (.x (.ba 32)))],false,[]⟩
def qy5 (f:qbq) (v:YL):TSt:=zJ qnq [dv (.ba 32) f.1,dv (.wa 8) f.2,dv (.ba 32) v.1,dv (.i .i64) v.2]
def qbn (N:Nat) (o_15:Vector UInt8 32) (o_15_2:Vector UInt32 8) (v:YL):Tree (YL⊕V5):=
 .cond (decide (v.2 < ((32:Int)))) (
 .chk ((4:Int)≠0) <|
 .chk (qt (v.2.tdiv 4)) <|
 .chk (0≤(v.2.tdiv 4)∧(v.2.tdiv 4) < ((8:Nat):Int)) <|
 .chk ((v.2.tdiv 4).toNat < 8) <|
 .chk ((4:Int)≠0) <|
 .chk (qt (((8:Int)) * (v.2.tmod 4))) <|
 .chk (qt (((24:Int)) - (((8:Int)) * (v.2.tmod 4)))) <|
 .chk (0≤(((24:Int)) - (((8:Int)) * (v.2.tmod 4)))) <|
 let w1:Int:=Qz (((o_15_2.toList.getD ((v.2.tdiv 4).toNat) 0).toNat:Nat):Int) (min (((24:Int)) - (((8:Int)) * (v.2.tmod 4))).toNat 32)
 .chk (0≤v.2∧v.2 < ((32:Nat):Int)) <|
 .chk (inB (IntKind.u8.wrap w1)) <|
 .chk (v.2.toNat < 32) <|
 .chk (qt (v.2 + 1)) <|
 .ret (.inl (v.1.setIfInBounds v.2.toNat (UInt8.ofNat (IntKind.u8.wrap w1).toNat),v.2 + 1))) <|
 .ret (.inr (v.1,v.2,decide (v.2 < ((32:Int)))))
def qnf (N n:Nat) (f:qbq) (v:YL):Option V5:=qY (qbn N f.1 f.2) some n v
theorem qze (N:Nat) (f:qbq) (n:Nat) (v:YL) (y:V5) (h:qnf N n f v=some y):LG Tryz.prog J9 85 (qS Xx 15) (qy5 f v) (YB f y):=
 zw qj (E:=qcc N) (L:=qL (qzw N)) (st:=YB f) (g:=some) (R:=YB f) (YX N) (qo (by kernel_rfl) trivial) (rg0 (by kernel_rfl)) (fun v=>by kernel_rfl) (q6 (st:=YB f) fun y=>by rfl) n v y h
def qek (N:Nat) (o_15:Vector UInt8 32) (o_15_2:Vector UInt32 8) (o_15_3:Vector UInt8 32) (s46_15:Int):Option V5:=qnf N N (o_15,o_15_2) (o_15_3,s46_15)
def qnk (N:Nat):qD:=smL qnq [(.ba 32),(.wa 8),(.ba 32),(.i .i64)] V5 (fun x=>qek N x.1 x.2.1 x.2.2.1 x.2.2.2.1) cs1 fun x=>YB (x.1,x.2.1)
theorem qwP (N:Nat):jG Tryz.prog J9 85 (qS Xx 15) (qnk N):=zI fun x z h=>qze N (x.1,x.2.1) N (x.2.2.1,x.2.2.2.1) z h
def qoX (z:Vector UInt8 32):TV×THp:=(.tv (.ba 32) z,[])
def qpU (N:Nat) (a0:List UInt8):Tree (Vector UInt8 32):=
 .bind (Wc a0) fun r1=>
 .chk (jF (((([]:List UInt8))++a0).length) (((([]:List UInt8))++a0).length) ((((([]:List UInt8))++a0)++[(UInt8.ofNat 128)]).length) 1) <|
 .bind (je [((((([]:List UInt8))++a0)++[(UInt8.ofNat 128)]).length,(((([]:List UInt8))++a0)++[(UInt8.ofNat 128)]).length)] (qgz N ((Vector.replicate 32 0)) a0 (((([]:List UInt8))++a0)++[(UInt8.ofNat 128)]))) fun z2=>
 .bind (je [(z2.1.length,z2.1.length)] (qmQ N ((Vector.replicate 32 0)) a0 z2.1 0)) fun z3=>
 .bind (qn_) fun r4=>
 .bind (qo_) fun r5=>
 .bind (je [(z3.1.length,z3.1.length)] (qaW N z3.1 ((Vector.replicate 32 0)) ((((((((((Vector.replicate 8 0)).setIfInBounds 0 ((UInt32.ofNat 1779033703))).setIfInBounds 1 ((UInt32.ofNat 3144134277))).setIfInBounds 2 ((UInt32.ofNat 1013904242))).setIfInBounds 3 ((UInt32.ofNat 2773480762))).setIfInBounds 4 ((UInt32.ofNat 1359893119))).setIfInBounds 5 ((UInt32.ofNat 2600822924))).setIfInBounds 6 ((UInt32.ofNat 528734635))).setIfInBounds 7 ((UInt32.ofNat 1541459225))) ((((((((((((((((((((((((((((((((((((((((((((((((((((((((((((((((((Vector.replicate 64 0)).setIfInBounds 0 ((UInt32.ofNat 1116352408))).setIfInBounds 1 ((UInt32.ofNat 1899447441))).setIfInBounds 2 ((UInt32.ofNat 3049323471))).setIfInBounds 3 ((UInt32.ofNat 3921009573))).setIfInBounds 4 ((UInt32.ofNat 961987163))).setIfInBounds 5 ((UInt32.ofNat 1508970993))).setIfInBounds 6 ((UInt32.ofNat 2453635748))).setIfInBounds 7 ((UInt32.ofNat 2870763221))).setIfInBounds 8 ((UInt32.ofNat 3624381080))).setIfInBounds 9 ((UInt32.ofNat 310598401))).setIfInBounds 10 ((UInt32.ofNat 607225278))).setIfInBounds 11 ((UInt32.ofNat 1426881987))).setIfInBounds 12 ((UInt32.ofNat 1925078388))).setIfInBounds 13 ((UInt32.ofNat 2162078206))).setIfInBounds 14 ((UInt32.ofNat 2614888103))).setIfInBounds 15 ((UInt32.ofNat 3248222580))).setIfInBounds 16 ((UInt32.ofNat 3835390401))).setIfInBounds 17 ((UInt32.ofNat 4022224774))).setIfInBounds 18 ((UInt32.ofNat 264347078))).setIfInBounds 19 ((UInt32.ofNat 604807628))).setIfInBounds 20 ((UInt32.ofNat 770255983))).setIfInBounds 21 ((UInt32.ofNat 1249150122))).setIfInBounds 22 ((UInt32.ofNat 1555081692))).setIfInBounds 23 ((UInt32.ofNat 1996064986))).setIfInBounds 24 ((UInt32.ofNat 2554220882))).setIfInBounds 25 ((UInt32.ofNat 2821834349))).setIfInBounds 26 ((UInt32.ofNat 2952996808))).setIfInBounds 27 ((UInt32.ofNat 3210313671))).setIfInBounds 28 ((UInt32.ofNat 3336571891))).setIfInBounds 29 ((UInt32.ofNat 3584528711))).setIfInBounds 30 ((UInt32.ofNat 113926993))).setIfInBounds 31 ((UInt32.ofNat 338241895))).setIfInBounds 32 ((UInt32.ofNat 666307205))).setIfInBounds 33 ((UInt32.ofNat 773529912))).setIfInBounds 34 ((UInt32.ofNat 1294757372))).setIfInBounds 35 ((UInt32.ofNat 1396182291))).setIfInBounds 36 ((UInt32.ofNat 1695183700))).setIfInBounds 37 ((UInt32.ofNat 1986661051))).setIfInBounds 38 ((UInt32.ofNat 2177026350))).setIfInBounds 39 ((UInt32.ofNat 2456956037))).setIfInBounds 40 ((UInt32.ofNat 2730485921))).setIfInBounds 41 ((UInt32.ofNat 2820302411))).setIfInBounds 42 ((UInt32.ofNat 3259730800))).setIfInBounds 43 ((UInt32.ofNat 3345764771))).setIfInBounds 44 ((UInt32.ofNat 3516065817))).setIfInBounds 45 ((UInt32.ofNat 3600352804))).setIfInBounds 46 ((UInt32.ofNat 4094571909))).setIfInBounds 47 ((UInt32.ofNat 275423344))).setIfInBounds 48 ((UInt32.ofNat 430227734))).setIfInBounds 49 ((UInt32.ofNat 506948616))).setIfInBounds 50 ((UInt32.ofNat 659060556))).setIfInBounds 51 ((UInt32.ofNat 883997877))).setIfInBounds 52 ((UInt32.ofNat 958139571))).setIfInBounds 53 ((UInt32.ofNat 1322822218))).setIfInBounds 54 ((UInt32.ofNat 1537002063))).setIfInBounds 55 ((UInt32.ofNat 1747873779))).setIfInBounds 56 ((UInt32.ofNat 1955562222))).setIfInBounds 57 ((UInt32.ofNat 2024104815))).setIfInBounds 58 ((UInt32.ofNat 2227730452))).setIfInBounds 59 ((UInt32.ofNat 2361852424))).setIfInBounds 60 ((UInt32.ofNat 2428436474))).setIfInBounds 61 ((UInt32.ofNat 2756734187))).setIfInBounds 62 ((UInt32.ofNat 3204031479))).setIfInBounds 63 ((UInt32.ofNat 3329325298))))) fun z6=>
 .sum z6 (fun z7=>
 .bind (qek N ((Vector.replicate 32 0)) ((((((((((Vector.replicate 8 0)).setIfInBounds 0 ((UInt32.ofNat 1779033703))).setIfInBounds 1 ((UInt32.ofNat 3144134277))).setIfInBounds 2 ((UInt32.ofNat 1013904242))).setIfInBounds 3 ((UInt32.ofNat 2773480762))).setIfInBounds 4 ((UInt32.ofNat 1359893119))).setIfInBounds 5 ((UInt32.ofNat 2600822924))).setIfInBounds 6 ((UInt32.ofNat 528734635))).setIfInBounds 7 ((UInt32.ofNat 1541459225))) ((Vector.replicate 32 0)) 0) fun z8=>
 .ret z8.1) fun z7=>
 .bind (qek N ((Vector.replicate 32 0)) z7.1 ((Vector.replicate 32 0)) 0) fun z8=>
 .ret z8.1
def X8 (N:Nat) (a0:List UInt8):Option (Vector UInt8 32):=(qpU N a0).run some
def qHQ (N:Nat):List (Nat×qD):=[(2,qpt N),(5,qoH N),(10,qm4 N),(15,qnk N)]
def qpJ (N:Nat):Ent:=smF ⟨85,[],[.x .bl],[],[]⟩ [.bl] (Vector UInt8 32) (fun x=>X8 N x.1) cs1 fun _=>qoX
theorem qDj (N:Nat):W2 Tryz.prog ⟨85,[],[.x .bl],[],[]⟩ [.bl] (fun x=>qpU N x.1) (fun _=>qoX):=
 VB (H:=J9) (L:=qL (qHQ N)) 0 qKb (YX N) (qo (by kernel_rfl) ⟨qyE N,qyS N,qwX N,qwP N,trivial⟩) (rg0 (by kernel_rfl)) fun x=>by kernel_rfl
theorem qmh (N:Nat):ze Tryz.prog (qpJ N):=qe4 (qDj N)
end Go.Rx
end
set_option maxRecDepth 100000
noncomputable section
namespace Go.Rx
open Go.Proofs
def dg0:Vector UInt8 32:=#v[110,52,11,156,255,179,122,152,156,165,68,230,187,120,10,44,120,144,29,63,179,55,56,118,133,17,163,6,23,175,160,29]
theorem qOP:X8 300 [0]=some dg0:=by kernel_rfl
def dg1:Vector UInt8 32:=#v[45,113,22,66,183,38,176,68,1,98,124,169,251,172,50,245,200,83,15,177,144,60,196,219,2,37,135,23,146,26,72,129]
theorem qOJ:X8 300 [120]=some dg1:=by kernel_rfl
def dg2:Vector UInt8 32:=#v[217,234,19,0,182,245,117,92,168,138,178,15,28,158,218,100,105,227,235,245,218,173,131,66,21,81,99,85,79,134,92,199]
theorem qON:X8 300 [1,7,0,0,0,0,0,0,0,0,0,0,0,0,0,0,0,0,1,2,9,1,120]=some dg2:=by kernel_rfl
def qN1:List (List UInt8×Vector UInt8 32):=[([0],dg0),([120],dg1),([1,7,0,0,0,0,0,0,0,0,0,0,0,0,0,0,0,0,1,2,9,1,120],dg2)]
theorem qNl:qF7 (X8 300) qN1:=⟨qOP,qOJ,qON,trivial⟩
def qAY:Ent:=smF ⟨85,[],[.x .bl],[],[]⟩ [.bl] (Vector UInt8 32) (fun x=>qz9 qN1 x.1) cs1 fun _=>qoX
theorem qNg:ze Tryz.prog qAY:=qOh (qmh 300) fun x z h=>qEj qNl x.1 z h
end Go.Rx
end
set_option maxRecDepth 100000
noncomputable section
namespace Go.Rx
open Go.Proofs
def qMQ:List (Nat×TH):=[(9,{ live:=[(1,[1]),(2,[1,3]),(3,[1,3,5]),(4,[1,3,5,7]),(5,[1,3,5,7,46]),(6,[0]),(7,[1,3,5,7,8,9]),(8,[0])],dec:=[34,39,57,62,74],rd:=[(1,[1]),(2,[3]),(3,[5]),(7,[8])] }),
 (13,{ live:=[(0,[2,3,4]),(1,[2,3,4,6]),(2,[2,3,4,6,39]),(3,[4,5]),(4,[2,4,47,48,49]),(5,[2,4,47,48,49,50]),(6,[2,4,8,47,48,49]),(7,[2,4,8,47,48,49,54]),(8,[2,4,9,10,47,48,49]),(9,[2,4,9,10,47,48,49,64]),(10,[4,5]),(11,[2,4,47,48,49]),(12,[2,4,47,48,49]),(13,[4,5])],dec:=[19,23,29,34],rd:=[(1,[6]),(6,[8]),(8,[9])] }),
 (16,{ live:=[(0,[2,3]),(1,[2,3,14]),(2,[4]),(3,[2,3,5]),(4,[5,17]),(5,[5,6]),(6,[5,6,21]),(8,[4])],dec:=[10],fresh:=[17],rd:=[(5,[6])] }),
 (20,{ live:=[(0,[3,4,5,6]),(1,[3,4,9]),(2,[8])],rd:=[(1,[9])] }),
 (21,{ live:=[(0,[1,2]),(1,[1,2,13]),(2,[2,3]),(3,[1,2,4]),(4,[2,4,19,20,21]),(5,[2,4,19,20,21,22]),(6,[2,4,6,19,20,21]),(7,[2,4,6,7,19,20,21]),(8,[2,4,7,19,20,21,31,32,33]),(9,[2,4,7,19,20,21,31,32,33,34]),(10,[2,4,7,9,19,20,21,31,32,33]),(11,[2,4,7,9,10,19,20,21,31,32,33]),(12,[2,4,7,19,20,21,31,32,33]),(13,[2,4,7,19,20,21,31,32,33]),(14,[2,4,19,20,21]),(15,[2,4,19,20,21]),(16,[2,3])],rd:=[(6,[6]),(10,[9])] }),
 (22,{ live:=[(0,[2,3,4]),(1,[2,3,4,22]),(2,[4,5]),(3,[2,3,4,6]),(4,[2,3,4,6,7]),(5,[4,6,7,30,31,32]),(6,[4,6,7,30,31,32,33]),(7,[4,6,7,9,30,31,32]),(8,[4,6,7,9,10,11,30,31,32]),(9,[4,6,7,9,10,30,31,32,44]),(10,[4,6,7,9,30,31,32]),(11,[4,6,7,30,31,32]),(12,[4,6,7,30,31,32]),(13,[4,6,7,30,31,32]),(14,[4,6,7,67]),(15,[4,5]),(16,[4,6,7]),(17,[4,6,7,12]),(18,[4,6,12,71,72,73]),(19,[4,6,12,71,72,73,74]),(20,[4,6,12,14,71,72,73]),(21,[4,6,12,71,72,73]),(22,[4,6,12,71,72,73]),(23,[4,5])],dec:=[18],rd:=[(7,[9]),(8,[10]),(20,[14])] }),
 (24,{ live:=[(0,[2,3]),(1,[4])] }),
 (25,{ live:=[(0,[1]),(1,[1,6,7,8]),(2,[1,6,7,8,9]),(3,[1,3,4,6,7,8]),(4,[1,6,7,8,32]),(5,[2]),(6,[1,6,7,8]),(7,[2])],dec:=[16,19],rd:=[(3,[4])] }),
 (26,{ live:=[(0,[2,3,4]),(1,[2,4,6]),(2,[2,4,6,12]),(3,[4,5]),(4,[4,5])] }),
 (28,{ live:=[(0,[2,3]),(1,[4])],dec:=[8] }),
 (32,{ live:=[(0,[3,5,6,7,9,10]),(1,[3,5,6,7,9,10,27]),(2,[10,11]),(3,[10,11])],dec:=[15,19,23] }),
 (33,{ live:=[(0,[1]),(1,[2])],dec:=[7] }),
 (34,{ live:=[(0,[1]),(1,[2])],dec:=[6,10,15,20] }),
 (35,{ live:=[(0,[1]),(1,[1,21]),(2,[2]),(3,[1,23,24,25]),(4,[1,23,24,25,26]),(5,[1,3,4,23,24,25]),(6,[1,4,5,23,24,25]),(7,[1,23,24,25,74]),(8,[2]),(9,[1,23,24,25]),(10,[2])],dec:=[10,15,32,37,40,55,60,66],rd:=[(5,[4])] }),
 (40,{ live:=[(0,[1]),(1,[1,6,7,8]),(2,[1,6,7,8,9]),(3,[1,3,4,6,7,8]),(4,[1,6,7,8,32]),(5,[2]),(6,[1,6,7,8]),(7,[2])],dec:=[16,19],rd:=[(3,[4])] }),
 (41,{ live:=[(0,[2,3]),(1,[4])],esc:=true }),
 (49,{ live:=[(0,[3,4,5]),(1,[3,4,7]),(2,[3,4,7,12]),(3,[6]),(4,[3,4,7,19]),(5,[6]),(6,[3,4,7,22]),(7,[6]),(8,[6])] }),
 (50,{ live:=[(0,[1,2]),(1,[2,3]),(2,[2])] }),
 (51,{ live:=[(0,[0,2]),(1,[2])] }),
 (52,{ live:=[(0,[0]),(1,[0,6]),(2,[2]),(3,[0,3]),(4,[0,3,9]),(5,[0,3]),(6,[0,3]),(7,[2])] }),
 (53,{ live:=[(0,[0]),(1,[0,3]),(2,[0,3,9,10,11]),(3,[0,3,9,10,11,12]),(4,[0,3,5,9,10,11]),(5,[0,3,9,10,11]),(6,[0,3,9,10,11,20]),(7,[0,3,9,10,11]),(8,[0,3,9,10,11]),(9,[0,6]),(10,[6,25,26,27]),(11,[6,25,26,27,28]),(12,[6,8,25,26,27]),(13,[6,25,26,27]),(14,[6,25,26,27]),(15,[2])],raw:=[87],fresh:=[24] }),
 (54,{ live:=[(0,[1,2]),(1,[1,2]),(2,[2])] }),
 (55,{ live:=[(0,[2,3,4]),(1,[2,3,4,23]),(2,[4,5]),(3,[2,3,4,6]),(4,[2,3,4,6]),(5,[2,3,4,6]),(6,[4,6,7]),(7,[4,7,43]),(8,[7,8]),(10,[4,5])],dec:=[12,17],fresh:=[43],rd:=[(8,[8])] }),
 (56,{ live:=[(0,[0,1,4])] }),
 (57,{ live:=[(0,[2,3]),(1,[4])] }),
 (58,{ live:=[(0,[0,1,2]),(1,[0,1,2,14]),(2,[6]),(3,[1,2,15,16,17]),(4,[1,2,15,16,17,18]),(5,[1,2,7,8,15,16,17]),(6,[1,2,8,9,15,16,17]),(7,[1,2,15,16,17,30]),(8,[6]),(9,[1,2,15,16,17]),(10,[6])],rd:=[(5,[8]),(6,[9])] }),
 (59,{ live:=[(0,[2,3]),(1,[4])],dec:=[10,17] }),
 (60,{ live:=[(0,[2,3]),(1,[4])],dec:=[8] }),
 (61,{ live:=[(0,[0,1]),(1,[0,1,7,8]),(2,[0,1,7,8,9]),(3,[0,1,5,7,8]),(4,[0,1,5,7,8,16]),(5,[4]),(6,[0,1,7,8]),(7,[4])] }),
 (62,{ live:=[(0,[1,2]),(1,[3])] }),
 (63,{ live:=[(0,[1,2]),(1,[1,2]),(2,[1,2,10,11]),(3,[1,2,10,11,12]),(4,[1,2,3,10,11]),(5,[1,2,10,11]),(6,[1,2,10,11]),(7,[2])],fresh:=[6] }),
 (64,{ live:=[(0,[0,1]),(1,[0,1,7,8]),(2,[0,1,7,8,9]),(3,[0,1,5,7,8]),(4,[0,1,5,7,8,16]),(5,[4]),(6,[0,1,7,8]),(7,[4])] }),
 (66,{ live:=[(0,[0]),(1,[0,3]),(2,[3,6,7,8]),(3,[3,6,7,8,9]),(4,[3,5,6,7,8]),(5,[3,5,6,7,8,14]),(6,[2]),(7,[3,6,7,8]),(8,[2])] }),
 (67,{ live:=[(0,[0,1]),(1,[0,1,5]),(2,[0,1,5,6]),(3,[0,1,6,11]),(4,[12]),(5,[4]),(6,[4]),(7,[0,1,13]),(8,[4]),(9,[0,1,16]),(10,[4]),(11,[19]),(12,[4]),(13,[4])] }),
 (72,{ live:=[(0,[1,2,3,6]),(1,[2,3,6,8,9]),(2,[2,3,6,8,9,18]),(3,[6,7]),(4,[6,7])],rd:=[(1,[8])] }),
 (73,{ live:=[(0,[1,2,3,4,5]),(1,[5])] }),
 (74,{ live:=[(0,[1]),(1,[2])],dec:=[7,12] }),
 (78,{ live:=[(0,[1]),(1,[1,6,7,8]),(2,[1,6,7,8,9]),(3,[1,3,4,6,7,8]),(4,[1,6,7,8,33]),(5,[2]),(6,[1,6,7,8]),(7,[2])],dec:=[18,21,38,43],rd:=[(3,[4])] }),
 (79,{ live:=[(0,[0,2,12,13,14]),(1,[0,2,12,13,14,15]),(2,[0,2,5,12,13,14]),(3,[0,2,5,6,12,13,14]),(4,[0,2,5,6,8,12,13,14]),(5,[0,2,5,6,8,12,13,14,32]),(6,[0,2,5,6,8,12,13,14]),(7,[0,2,6,8,12,13,14,37,38,39]),(8,[0,2,6,8,12,13,14,37,38,39,40]),(9,[0,2,6,8,10,12,13,14,37,38,39]),(10,[0,2,6,8,10,12,13,14,37,38,39,48]),(11,[0,2,6,8,12,13,14,37,38,39]),(12,[0,2,6,8,12,13,14,37,38,39]),(13,[0,2,12,13,14,59]),(14,[0,2,12,13,14])],fresh:=[58],rd:=[(2,[5]),(3,[6]),(9,[10])] }),
 (82,{ live:=[(0,[1,2]),(1,[3])] }),
 (83,{ live:=[(0,[2,3]),(1,[4])],dec:=[8] }),
 (84,{ live:=[(0,[1]),(1,[1,15]),(2,[2,3]),(3,[1,4]),(4,[4,22,23,24]),(5,[4,22,23,24,25]),(6,[4,6,22,23,24]),(7,[4,6,7,22,23,24]),(8,[4,6,22,23,24]),(9,[4,22,23,24,47,48,49]),(10,[4,22,23,24,47,48,49,50]),(11,[4,10,22,23,24,47,48,49]),(12,[4,10,11,22,23,24,47,48,49]),(13,[4,22,23,24,47,48,49]),(14,[4,22,23,24,47,48,49]),(15,[4,22,23,24]),(16,[2,3])],fresh:=[20],esc:=true,rd:=[(6,[6]),(11,[10])] }),
 (85,{ live:=[(0,[0,2]),(1,[0,2,3]),(2,[0,2,3,16]),(3,[0,2,3]),(4,[0,2,3,20]),(5,[0,2,3,20,21]),(6,[0,2,3,4,20]),(7,[0,2,3,20]),(8,[0,2,3,20]),(9,[2,3,5,6]),(10,[2,3,5,6,40]),(11,[2,3,5,6]),(12,[2,3,5,6]),(13,[2,5,7]),(14,[2,5,7,46]),(15,[2,5,7,46,47]),(16,[2,5,7,8,46]),(17,[2,5,7,46]),(18,[2,5,7,46]),(19,[2])],fresh:=[10] }),
 (86,{ live:=[(0,[0,2]),(1,[2])] }),
 (87,{ live:=[(0,[0,1]),(1,[0,1,6]),(2,[0,1]),(3,[0,1]),(4,[0,1,16]),(5,[0]),(6,[4])],esc:=true,nil:=[(5,[⟨.sl 0,900000870,(.sl 19 (.ag [(.ba 16),(.ag [(.i .i64),(.i .i64)]),(.sl 4 (.ag [(.i .i64),(.ag [(.ag [(.i .i64),(.i .i64)]),.s])]))]))⟩])] }),
 (88,{ live:=[(0,[0]),(1,[0,4]),(2,[2]),(3,[2])],vecs:=[5],esc:=true }),
 (89,{ live:=[(0,[0,3]),(1,[0,9,10,11]),(2,[0,9,10,11,12]),(3,[0,5,9,10,11]),(4,[0,5,6,7,9,10,11]),(5,[0,5,6,9,10,11,22]),(6,[0,9,10,11]),(7,[0,9,10,11]),(8,[0,9,10,11])],rd:=[(3,[5]),(4,[6])] }),
 (90,{ live:=[(0,[2,3,4]),(1,[2,3,4,7]),(2,[4]),(3,[4])] }),
 (91,{ live:=[(0,[2,3]),(1,[4])],esc:=true }),
 (92,{ live:=[(0,[0,1,2,3,4,10]),(1,[0,1,2,3,4,10,11]),(2,[0,1,2,3,4,10,11,12]),(3,[0,1,2,3,4,10,11,12,25]),(5,[0,1,2,3,4,10,11,12,32]),(7,[0,1,2,3,4,10,11,12,39]),(8,[0,1,2,3,4,10,11,12]),(9,[0,1,2,3,4,10,11,12]),(10,[0,1,2,3,4,10,11,12,13,14]),(11,[0,1,2,3,4,10,11,12,13,14,56]),(12,[0,1,2,3,4,10,11,12,13]),(13,[0,1,2,3,4,10,11,12,13]),(14,[0,1,2,3,4,10,11,12,13,14]),(15,[0,1,2,3,4,10,11,12,13,75]),(16,[0,1,2,3,4,10,11,12,13,80]),(17,[0,1,2,3,4,10,11,12,13,97]),(18,[0,2,3,4,10,11,15]),(19,[0,1,2,3,4,10,11]),(20,[0,1,2,3,4,12,16,17]),(21,[0,1,2,3,4,11,12,16]),(22,[0,1,2,3,4,11,12,16,18,19]),(23,[0,1,2,3,4,11,16,18,19,20]),(24,[0,1,2,3,4,11,16,18,19,20,125]),(25,[0,1,2,3,4,10,11,16]),(26,[0,2,3,4,10,11,16]),(27,[0,1,2,3,4,10,11]),(28,[0,1,2,3,4,10,11,16]),(29,[0,1,3,4,10,11,16]),(30,[0,1,2,3,4,10,11])],dec:=[69,72,83] }),
 (93,{ live:=[(0,[0]),(1,[2]),(2,[2])] }),
 (94,{ live:=[(0,[0,1]),(1,[4])] }),
 (95,{ live:=[(0,[0,1]),(1,[0,1,10]),(2,[4]),(3,[0,1,12,13]),(4,[0,1,12,13,14]),(5,[0,1,5,12,13]),(6,[0,1,12,13,24]),(7,[4]),(8,[0,1,12,13]),(9,[4])] }),
 (96,{ live:=[(0,[0]),(1,[0,4]),(2,[2]),(3,[2])],vecs:=[5],esc:=true }),
 (97,{ live:=[(0,[0]),(1,[0,4]),(2,[2]),(3,[2])],vecs:=[5],esc:=true }),
 (98,{ live:=[(0,[0]),(1,[2])] }),
 (99,{ live:=[(0,[1,2,4]),(1,[1,2,4,6]),(2,[1,4,6,12]),(3,[1,4,6,12]),(4,[4,6,12]),(5,[4,5]),(6,[4,6,21]),(7,[4,5]),(8,[4,5])],rd:=[(1,[6])] }),
 (100,{ live:=[(0,[1,2]),(1,[1,2,3]),(2,[2,3,9,10,11]),(3,[2,3,9,10,11,12]),(4,[2,3,5,9,10,11]),(5,[2,3,5,9,10,11]),(6,[2,3,9,10,11,20,21,22]),(7,[2,3,9,10,11,20,21,22,23]),(8,[2,3,7,9,10,11,20,21,22]),(9,[2,3,9,10,11,20,21,22]),(10,[2,3,9,10,11,20,21,22]),(11,[2,3,9,10,11]),(12,[2])],rd:=[(4,[5]),(8,[7])] }),
 (103,{ live:=[(0,[2,3]),(1,[4])],dec:=[8,13,18,23,32,37] }),
 (108,{ live:=[(0,[0]),(1,[0,3]),(2,[0,3,4]),(3,[0,3,4,10,11]),(4,[0,3,4,10,11,12]),(5,[0,3,4,5,10,11]),(6,[0,3,4,10,11]),(7,[0,3,4,10,11]),(8,[4]),(9,[2])],esc:=true }),
 (109,{ live:=[(0,[1]),(1,[1,6]),(2,[2,3]),(3,[2,3])],fresh:=[15],esc:=true }),
 (110,{ live:=[(0,[1]),(1,[1,8]),(2,[2,3]),(3,[1,4]),(4,[2,3])],fresh:=[12],esc:=true }),
 (111,{ live:=[(0,[0]),(1,[0,4]),(2,[2]),(3,[2])],vecs:=[5],esc:=true }),
 (112,{ live:=[(0,[0]),(1,[0])] }),
 (113,{ live:=[(0,[0]),(1,[0])] }),
 (114,{ live:=[(0,[0,2,6]),(1,[0,2,6,7]),(2,[0,2,6,7,19]),(3,[0,2,6,7,19,20]),(4,[0,2,6,7,8,19]),(5,[0,2,6,7,8,9,10,19]),(6,[0,2,6,7,9,11,19]),(7,[0,2,6,7,11,12,19]),(8,[0,2,6,7,11,12,19]),(9,[0,2,6,7,11,19]),(10,[0,2,6,7,19]),(11,[0,2,6,7,19]),(12,[0,7,95]),(13,[0,7,95,96]),(14,[0,7,13,95]),(15,[0,7,95]),(16,[0,7,95])],rd:=[(0,[6])] }),
 (115,{ live:=[(0,[0]),(1,[0,3,4]),(2,[0,3,4,7,8]),(3,[0,3,4,7,8,9]),(4,[0,3,4,5,7,8]),(5,[0,3,4,7,8]),(6,[0,3,4,7,8]),(7,[0,3,4,7,8]),(8,[2])] }),
 (116,{ live:=[(0,[2,3,4]),(1,[2,3,4,7]),(2,[4]),(3,[4])] }),
 (117,{ live:=[(0,[0,1,2,7]),(1,[0,1,2,7,8]),(2,[0,1,2,4,7]),(3,[0,1,2,4,5,6,7]),(4,[0,1,2,7,30]),(5,[0,1,2,7])],dec:=[17,23],rd:=[(3,[5])] }),
 (118,{ live:=[(0,[0,1,2,3,8]),(1,[0,1,2,3,8,14]),(2,[0,1,2,3,8]),(3,[0,1,2,3,8,9]),(4,[0,1,2,3,8,9,34]),(5,[0,1,2,3,8,9]),(6,[0,1,2,3,8,9])],dec:=[21] }),
 (119,{ live:=[(0,[0,1,2,3,8]),(1,[0,1,2,3,8,9]),(2,[0,3,8,9,10]),(3,[0,3,8,9,10,11]),(4,[0,3,8,9,10,11,21]),(5,[0,3,8,9,10,11]),(6,[0,3,8,9,10,11]),(7,[0,3,8,9,12]),(8,[0,3,8,9,12,33]),(9,[0,3,8,9,12]),(10,[0,3,8,9,12]),(11,[0,3,8,9,12])] }),
 (120,{ live:=[(0,[0,1,8]),(1,[0,1,8,17]),(2,[0,1,8,9]),(3,[0,1,8,9,10]),(4,[0,1,8,9,10,11]),(5,[0,1,8,9,10,11,35]),(6,[0,1,8,9,10,11]),(7,[0,1,8,9,10,11,12]),(8,[0,1,8,9,10,11,12,45]),(9,[0,1,8,9,10,11,12]),(10,[0,1,8,9,10,11])] }),
 (121,{ live:=[(0,[0,1,2,3]),(1,[0,1,3,10]),(2,[0,1,3,10,11]),(3,[0,1,3,10,11,12]),(4,[0,1,3,10,11,12,13]),(5,[0,3,10,11,12,13,14]),(6,[0,3,10,11,12,13,14,34]),(7,[0,3,11,12,13,14,36]),(8,[0,3,11,12,13,14]),(9,[0,3,11,12,13,14]),(10,[0,3,11,12,13,14]),(11,[11,13]),(12,[13,55]),(13,[8,9]),(14,[13,55,57]),(15,[8,9]),(16,[13,60]),(17,[8,9])] }),
 (122,{ live:=[(0,[0,2,8]),(1,[0,8,9]),(2,[0,8,9,15]),(3,[0,8,9]),(4,[0,8,9]),(5,[0,8,9])] }),
 (123,{ live:=[(0,[0,1,2,3]),(1,[0,1,2,3,9]),(2,[0,1,2,3,9,10]),(3,[0,1,2,3,9,10,16]),(4,[0,1,2,3,9,10]),(5,[0,1,2,3,9,10,36]),(6,[0,1,2,3,9,10]),(7,[0,1,2,3,9,10,41]),(8,[8]),(9,[0,1,2,3,9,10,45]),(10,[8]),(11,[0,1,2,3,9,10]),(12,[0,1,2,3,9,10,65]),(13,[0,1,2,3,9,10,11]),(14,[0,1,2,3,9,10,11,69]),(15,[0,1,2,3,9,10,11]),(16,[0,1,2,3,9,10,11,84]),(17,[0,1,2,3,9,10,11]),(18,[0,1,2,3,9,10,104]),(19,[0,1,2,3,9,10,12]),(20,[0,1,2,3,9,10,12,109]),(21,[0,1,2,3,9,10,12]),(22,[0,1,2,3,9,10,12,124]),(23,[0,1,2,3,9,10,12]),(24,[8])],dec:=[22] }),
 (124,{ live:=[(0,[0,1,2,3,4]),(1,[0,1,2,4]),(2,[0,1,4,11,12]),(3,[0,1,4,11,12,47]),(4,[0,1,4,11,12]),(5,[0,1,4,11,12,65]),(6,[0,1,4,11,12]),(7,[0,1,4,11,12,70]),(8,[0,1,4,11,12]),(9,[0,1,4,11,12]),(10,[0,1,4,11,12]),(11,[10])],dec:=[34,53] }),
 (125,{ live:=[(0,[0,1,2,3,4]),(1,[0,1,2,4]),(2,[0,1,4,12,13]),(3,[0,1,4,12,13,47]),(4,[0,1,4,12,13]),(5,[0,1,4,12,13,66]),(6,[0,1,4,12,13]),(7,[0,1,4,12,13,71]),(8,[13]),(9,[10,11]),(10,[0,1,4,12,13]),(11,[0,1,4,12,13]),(12,[0,1,4,12,13]),(13,[0,1,4,12,13,120]),(14,[0,1,4,12,13]),(15,[0,1,4,12,13,139]),(16,[0,1,4,12,13]),(17,[0,1,4,12,13,144]),(18,[0,1,4,12,13]),(19,[0,1,4,12,13]),(20,[0,1,4,12,13]),(21,[13]),(22,[10,11])],dec:=[35,53,108,126] }),
 (126,{ live:=[(0,[0,2]),(1,[0,2,4]),(2,[0]),(3,[0,2]),(4,[0,2,8]),(5,[0,2]),(6,[0,2]),(7,[2])] }),
 (127,{ live:=[(0,[0,2]),(1,[0,2,4]),(2,[0]),(3,[0,2]),(4,[0,2,8]),(5,[0,2]),(6,[0,2]),(7,[0,2,14]),(8,[0,2]),(9,[0,2]),(10,[2])] }),
 (132,{ live:=[(0,[0]),(1,[0,4]),(2,[2]),(3,[2])] }),
 (133,{ live:=[(0,[0]),(1,[0,3]),(2,[0,3]),(3,[0,3,7]),(4,[0,3]),(5,[0,3]),(6,[2])] }),
 (134,{ live:=[(0,[0]),(1,[2])],fresh:=[6],esc:=true }),
 (135,{ live:=[(0,[0,2]),(1,[0,2,3]),(2,[0,2,3,7]),(3,[0,2,3,7,8]),(4,[0,2,3,4,7]),(5,[0,2,3,4,7,11]),(6,[0,2,3,7]),(7,[0,2,3,4,5,6,7]),(8,[0,2,3,7]),(9,[0,2,3,7]),(10,[2])] }),
 (136,{ live:=[(0,[0,1]),(1,[4])] }),
 (137,{ live:=[(0,[0,1]),(1,[4])] }),
 (138,{ live:=[(0,[2,3]),(1,[5]),(2,[13,14]),(3,[13,14,15]),(4,[7,13,14]),(5,[8,13,14]),(6,[8,13,14,20]),(7,[4]),(8,[13,14]),(9,[4])],rd:=[(1,[5])] }),
 (139,{ live:=[(0,[0,2,3,4,10]),(1,[0,2,3,4,10,11]),(2,[0,2,3,4,10,11,18]),(3,[0,2,3,4,10,11,40]),(4,[0,2,3,4,10,11]),(5,[0,2,3,4,10,11,58]),(6,[0,2,3,4,11]),(7,[0,2,3,4,10])],dec:=[23] }),
 (140,{ live:=[(0,[0]),(1,[2])] }),
 (141,{ live:=[(0,[0]),(1,[0]),(2,[0]),(3,[0]),(4,[2])] }),
 (142,{ live:=[(0,[0,1,2,3]),(1,[8])] }),
 (143,{ live:=[(0,[0,1,2,3,4,5]),(1,[0,1,2,3,4,5]),(2,[0,1,2,4,5]),(3,[2]),(4,[12])] }),
 (145,{ live:=[(0,[0,1]),(1,[0,5]),(2,[4])] }),
 (146,{ live:=[(0,[0,1]),(1,[2])] }),
 (147,{ live:=[(0,[2,3,4]),(1,[2,3,4,7]),(2,[6]),(3,[12]),(4,[6]),(5,[6])] }),
 (148,{ live:=[(0,[0,1]),(1,[2])] }),
 (149,{ live:=[(0,[2,3,4]),(1,[2,3,4,7]),(2,[6]),(3,[12]),(4,[6]),(5,[6])] }),
 (150,{ live:=[(0,[0,1]),(1,[2])] }),
 (151,{ live:=[(0,[0,1]),(1,[0,1,5]),(2,[0,1,5,6]),(3,[0,1,6,11]),(4,[12]),(5,[4]),(6,[4]),(7,[0,1,13]),(8,[4]),(9,[0,1,16]),(10,[4]),(11,[19]),(12,[4]),(13,[4])] }),
 (152,{ live:=[(0,[0,1,2,3,4]),(1,[1,2,3,22]),(2,[1,2]),(3,[10,11]),(4,[10,11])] }),
 (153,{ live:=[(0,[0]),(1,[2])] })]
def qNu (k:FuncId):TH:=(get qMQ k).getD {}
theorem qM9:qpT Tryz.prog [16,55]:=⟨qA8 (fn:=Tryz.f16) (c:=Tryz.f16.body.getD .skip) (by kernel_rfl) (by kernel_rfl) (by kernel_rfl),qA8 (fn:=Tryz.f55) (c:=Tryz.f55.body.getD .skip) (by kernel_rfl) (by kernel_rfl) (by kernel_rfl),trivial⟩
def qFu:Option Bool:=some true
theorem qIF:qGs Tryz.prog qNu [16,55] [qAY] 400 30 9=some (.pv (.b true),[]):=by kernel_rfl
def qEN:Ent:=smF ⟨9,[],[],[],[]⟩ [] Bool (fun _=>qFu) cs1 fun _ z=>(xb z,[])
theorem qLH:ze Tryz.prog qEN:=qM4 Tryz.prog (fun _=>rfl) qj (base:=[qAY]) ⟨qNg,trivial⟩ qM9 qIF
end Go.Rx
end
set_option maxRecDepth 100000
noncomputable section
namespace Go.Rx
open Go.Proofs
def qpQ:List UInt8:=[0,1,2,2,3,3,3,3,4,4,4,4,4,4,4,4,5,5,5,5,5,5,5,5,5,5,5,5,5,5,5,5,6,6,6,6,6,6,6,6,6,6,6,6,6,6,6,6,6,6,6,6,6,6,6,6,6,6,6,6,6,6,6,6,7,7,7,7,7,7,7,7,7,7,7,7,7,7,7,7,7,7,7,7,7,7,7,7,7,7,7,7,7,7,7,7,7,7,7,7,7,7,7,7,7,7,7,7,7,7,7,7,7,7,7,7,7,7,7,7,7,7,7,7,7,7,7,7,8,8,8,8,8,8,8,8,8,8,8,8,8,8,8,8,8,8,8,8,8,8,8,8,8,8,8,8,8,8,8,8,8,8,8,8,8,8,8,8,8,8,8,8,8,8,8,8,8,8,8,8,8,8,8,8,8,8,8,8,8,8,8,8,8,8,8,8,8,8,8,8,8,8,8,8,8,8,8,8,8,8,8,8,8,8,8,8,8,8,8,8,8,8,8,8,8,8,8,8,8,8,8,8,8,8,8,8,8,8,8,8,8,8,8,8,8,8,8,8,8,8,8,8,8,8,8,8]
noncomputable def qtt:Code:=Tryz.f12.body.getD .skip
theorem qMk:FnF Tryz.prog 12 Tryz.f12 qtt:=⟨qj,by kernel_rfl,by kernel_rfl,by kernel_rfl⟩
def Kx:TH:={ live:=[(0,[1]),(1,[1,7]),(2,[2]),(3,[1,3]),(4,[1,3,12]),(5,[1,3]),(6,[1,3,23]),(7,[2]),(8,[2])] }
def qeX (N:Nat):List Ent:=[]
theorem qdj (N:Nat):qT Tryz.prog (qeX N):=trivial
abbrev Ji:=qa
abbrev vV:=Unit⊕(Int×Bool)
def QQ (f:Ji):vV→Ex×TSt
 | .inl y=>(.ret,⟨0,24,[],[(2,.bc false)],[],false,[]⟩)
 | .inr y=>(.exit 0,⟨0,24,[],[(1,.p 10 [] 0),(3,xi y.1),(12,xb y.2)],[(10,.cell false (.tv qf f))],false,[]⟩)
def qk8 (N:Nat):List (Nat×qD):=[]
abbrev QY:=Int
def qbW:SP:=⟨0,24,[],[(1,.k (.p 10 [] 0)),(3,.x (.i .i64))],[(10,.cell false (.x qf))],false,[]⟩
def qkq (f:Ji) (v:QY):TSt:=zJ qbW [dv qf f,dv (.i .i64) v]
def Jt (N:Nat) (o_4:qa) (v:QY):Tree (QY⊕vV):=
 .cond (decide (v < (((qa.F o_4).length:Nat):Int))) (
 .bind (zh (qa.F o_4) v) fun e1=>
 .cond (decide (((300:Int)) < (((qd.V (qb.C e1)).length:Nat):Int))) (
 .ret (.inr (.inl ()))) <|
 .chk (qt (v + 1)) <|
 .ret (.inl (v + 1))) <|
 .ret (.inr (.inr ((v,decide (v < (((qa.F o_4).length:Nat):Int))))))
def qb6 (N n:Nat) (f:Ji) (v:QY):Option vV:=qY (Jt N f) some n v
theorem qkN (N:Nat) (f:Ji) (n:Nat) (v:QY) (y:vV) (h:qb6 N n f v=some y):LG Tryz.prog Kx 12 (qS qtt 4) (qkq f v) (QQ f y):=
 zw qj (E:=qeX N) (L:=qL (qk8 N)) (st:=QQ f) (g:=some) (R:=QQ f) (qdj N) (qo (by kernel_rfl) trivial) (rg0 (by kernel_rfl)) (fun v=>by kernel_rfl) (q6 (st:=QQ f) fun y=>by rcases y with _ | _<;>rfl) n v y h
def Y0 (N:Nat) (o_4:qa) (s3_4:Int):Option vV:=qb6 N N o_4 s3_4
def qb9 (N:Nat):qD:=smL qbW [qf,(.i .i64)] vV (fun x=>Y0 N x.1 x.2.1) (csS cs1) fun x=>QQ x.1
theorem qjk (N:Nat):jG Tryz.prog Kx 12 (qS qtt 4) (qb9 N):=zI fun x z h=>qkN N x.1 N x.2.1 z h
def qpa (z:Bool):TV×THp:=(xb z,[])
def K7 (N:Nat) (a0:qa):Tree (Bool):=
 .cond (decide (((12:Int)) < (((qa.F a0).length:Nat):Int))) (
 .ret false) <|
 .bind (Y0 N a0 0) fun z1=>
 .sum z1 (fun z2=>
 .ret false) fun z2=>
 .ret true
def QN (N:Nat) (a0:qa):Option (Bool):=(K7 N a0).run some
def qoq (N:Nat):List (Nat×qD):=[(4,qb9 N)]
def qe5 (N:Nat):Ent:=smF ⟨12,[],[.x qf],[],[]⟩ [qf] (Bool) (fun x=>QN N x.1) cs1 fun _=>qpa
theorem qnZ (N:Nat):ze Tryz.prog (qe5 N):=
 zd (H:=Kx) (L:=qL (qoq N)) (ts:=[qf]) (T:=fun x=>K7 N x.1) 0 qMk (qdj N) (qo (by kernel_rfl) ⟨qjk N,trivial⟩) (rg0 (by kernel_rfl)) fun x=>by kernel_rfl
noncomputable def qtA:Code:=Tryz.f10.body.getD .skip
theorem qKk:FnF Tryz.prog 10 Tryz.f10 qtA:=⟨qj,by kernel_rfl,by kernel_rfl,by kernel_rfl⟩
def K0:TH:={ live:=[(0,[1]),(1,[1,8]),(2,[2]),(3,[1,3]),(4,[1,3,13]),(5,[1,3]),(6,[1,3,4]),(7,[1,3,23]),(8,[2]),(9,[2])] }
def qeA (N:Nat):List Ent:=[qe5 N]
theorem qcJ (N:Nat):qT Tryz.prog (qeA N):=⟨qnZ N,trivial⟩
abbrev Js:=qe
abbrev vU:=Unit⊕(Int×Bool)
def QT (f:Js):vU→Ex×TSt
 | .inl y=>(.ret,⟨0,24,[],[(2,.bc false)],[],false,[]⟩)
 | .inr y=>(.exit 0,⟨0,24,[],[(1,.p 10 [] 0),(3,xi y.1),(13,xb y.2)],[(10,.cell false (.tv qu f))],false,[]⟩)
def qk7 (N:Nat):List (Nat×qD):=[]
abbrev QP:=Int
def qbZ:SP:=⟨0,24,[],[(1,.k (.p 10 [] 0)),(3,.x (.i .i64))],[(10,.cell false (.x qu))],false,[]⟩
def qkJ (f:Js) (v:QP):TSt:=zJ qbZ [dv qu f,dv (.i .i64) v]
def Ju (N:Nat) (o_4:qe) (v:QP):Tree (QP⊕vU):=
 .cond (decide (v < (((qe.R o_4).length:Nat):Int))) (
 .bind (zh (qe.R o_4) v) fun e1=>
 .bind (QN N e1) fun r2=>
 .cond (!r2) (
 .ret (.inr (.inl ()))) <|
 .chk (qt (v + 1)) <|
 .ret (.inl (v + 1))) <|
 .ret (.inr (.inr ((v,decide (v < (((qe.R o_4).length:Nat):Int))))))
def qb0 (N n:Nat) (f:Js) (v:QP):Option vU:=qY (Ju N f) some n v
theorem qk5 (N:Nat) (f:Js) (n:Nat) (v:QP) (y:vU) (h:qb0 N n f v=some y):LG Tryz.prog K0 10 (qS qtA 4) (qkJ f v) (QT f y):=
 zw qj (E:=qeA N) (L:=qL (qk7 N)) (st:=QT f) (g:=some) (R:=QT f) (qcJ N) (qo (by kernel_rfl) trivial) (rg0 (by kernel_rfl)) (fun v=>by kernel_rfl) (q6 (st:=QT f) fun y=>by rcases y with _ | _<;>rfl) n v y h
def Y2 (N:Nat) (o_4:qe) (s3_4:Int):Option vU:=qb0 N N o_4 s3_4
def qb8 (N:Nat):qD:=smL qbZ [qu,(.i .i64)] vU (fun x=>Y2 N x.1 x.2.1) (csS cs1) fun x=>QT x.1
theorem qj6 (N:Nat):jG Tryz.prog K0 10 (qS qtA 4) (qb8 N):=zI fun x z h=>qk5 N x.1 N x.2.1 z h
def qoR (z:Bool):TV×THp:=(xb z,[])
def KL (N:Nat) (a0:qe):Tree (Bool):=
 .cond (decide (((14:Int)) < (((qe.R a0).length:Nat):Int))) (
 .ret false) <|
 .bind (Y2 N a0 0) fun z1=>
 .sum z1 (fun z2=>
 .ret false) fun z2=>
 .ret true
def Vo (N:Nat) (a0:qe):Option (Bool):=(KL N a0).run some
def qpL (N:Nat):List (Nat×qD):=[(4,qb8 N)]
def qeM (N:Nat):Ent:=smF ⟨10,[],[.x qu],[],[]⟩ [qu] (Bool) (fun x=>Vo N x.1) cs1 fun _=>qoR
theorem qnH (N:Nat):ze Tryz.prog (qeM N):=
 zd (H:=K0) (L:=qL (qpL N)) (ts:=[qu]) (T:=fun x=>KL N x.1) 0 qKk (qcJ N) (qo (by kernel_rfl) ⟨qj6 N,trivial⟩) (rg0 (by kernel_rfl)) fun x=>by kernel_rfl
noncomputable def qJ_:Code:=Tryz.f34.body.getD .skip
theorem qLW:FnF Tryz.prog 34 Tryz.f34 qJ_:=⟨qj,by kernel_rfl,by kernel_rfl,by kernel_rfl⟩
def qCS:TH:={ live:=[(0,[1]),(1,[2])],dec:=[6,10,15,20] }
def qCQ (N:Nat):List Ent:=[]
theorem qyK (N:Nat):qT Tryz.prog (qCQ N):=trivial
def qC9 (z:Bool):TV×THp:=(xb z,[])
def qjv (a0:qc):Tree (Bool):=
 .cond (eqE qi a0 (qc.mk 0 0)) (
 .ret true) <|
 .cond (decide (((0:Int)) < (qc.N a0))) (
 .cond (decide ((qc.N a0)≤((1099511627776:Int)))) (
 .cond (decide (((0:Int))≤(qc.Rep a0))) (
 .ret (decide ((qc.Rep a0) < ((8:Int))))) <|
 .ret false) <|
 .ret false) <|
 .ret false
def Xp (a0:qc):Option (Bool):=(qjv a0).run some
def qDC:List (Nat×qD):=[]
def XJ:Ent:=smF ⟨34,[],[.x qi],[],[]⟩ [qi] (Bool) (fun x=>Xp x.1) cs1 fun _=>qC9
theorem WC:ze Tryz.prog (XJ):=
 zd (H:=qCS) (L:=qL (qDC)) (ts:=[qi]) (T:=fun x=>qjv x.1) 0 qLW (qyK 0) (qo (by kernel_rfl) trivial) (rg0 (by kernel_rfl)) fun x=>by kernel_rfl
noncomputable def qKF:Code:=Tryz.f74.body.getD .skip
theorem qL9:FnF Tryz.prog 74 Tryz.f74 qKF:=⟨qj,by kernel_rfl,by kernel_rfl,by kernel_rfl⟩
def qGY:TH:={ live:=[(0,[1]),(1,[2])],dec:=[7,12] }
def qFa (N:Nat):List Ent:=[XJ]
theorem qAx (N:Nat):qT Tryz.prog (qFa N):=⟨WC,trivial⟩
def qGN (z:Bool):TV×THp:=(xb z,[])
def qlI (a0:qd):Tree (Bool):=
 .cond (!(eqE qi (qd.S a0) (qc.mk 0 0))) (
 .bind (Xp (qd.S a0)) fun r1=>
 .cond r1 (
 .ret (decide ((((qd.V a0).length:Nat):Int)≤((200:Int))))) <|
 .ret false) <|
 .ret false
def Ks (a0:qd):Option (Bool):=(qlI a0).run some
def qFi:List (Nat×qD):=[]
def qlw:Ent:=smF ⟨74,[],[.x qp],[],[]⟩ [qp] (Bool) (fun x=>Ks x.1) cs1 fun _=>qGN
theorem qsc:ze Tryz.prog (qlw):=
 zd (H:=qGY) (L:=qL (qFi)) (ts:=[qp]) (T:=fun x=>qlI x.1) 0 qL9 (qAx 0) (qo (by kernel_rfl) trivial) (rg0 (by kernel_rfl)) fun x=>by kernel_rfl
noncomputable def qJ5:Code:=Tryz.f98.body.getD .skip
theorem qJP:FnF Tryz.prog 98 Tryz.f98 qJ5:=⟨qj,by kernel_rfl,by kernel_rfl,by kernel_rfl⟩
def quT:TH:={ live:=[(0,[0]),(1,[2])] }
def qvT (N:Nat):List Ent:=[]
theorem qra (N:Nat):qT Tryz.prog (qvT N):=trivial
def quj (a0:Int) (z:Unit):TV×THp:=(xb (!decide (a0=a0)),[])
def qcp (a0:Int):Tree (Unit):=
 .ret ()
def qbv (a0:Int):Option (Unit):=(qcp a0).run some
def quC:List (Nat×qD):=[]
def qiY:Ent:=smF ⟨98,[],[.x (.i .i64)],[],[]⟩ [(.i .i64)] (Unit) (fun x=>qbv x.1) cs1 fun x=>quj x.1
theorem qtB:ze Tryz.prog (qiY):=
 zd (H:=quT) (L:=qL (quC)) (ts:=[(.i .i64)]) (T:=fun x=>qcp x.1) 0 qJP (qra 0) (qo (by kernel_rfl) trivial) (rg0 (by kernel_rfl)) fun x=>by kernel_rfl
noncomputable def qKU:Code:=Tryz.f67.body.getD .skip
theorem qLO:FnF Tryz.prog 67 Tryz.f67 qKU:=⟨qj,by kernel_rfl,by kernel_rfl,by kernel_rfl⟩
def qrz:TH:={ live:=[(0,[0,1]),(1,[0,1,5]),(2,[0,1,5,6]),(3,[0,1,6,11]),(4,[12]),(5,[4]),(6,[4]),(7,[0,1,13]),(8,[4]),(9,[0,1,16]),(10,[4]),(11,[19]),(12,[4]),(13,[4])] }
def qq1 (N:Nat):List Ent:=[qiY]
theorem qn0 (N:Nat):qT Tryz.prog (qq1 N):=⟨qtB,trivial⟩
def qrA (z:Int):TV×THp:=(xi z,[])
def qaL (a0:Int) (a1:Int):Tree (Int):=
 .bind (qbv a0) fun r1=>
 .bind (qbv a1) fun r2=>
 .cond (!decide (a0=a0)) (
 .cond (!decide (a1=a1)) (
 .ret 0) <|
 .ret (-1)) <|
 .cond (!decide (a1=a1)) (
 .ret 1) <|
 .cond (decide (a0 < a1)) (
 .ret (-1)) <|
 .cond (decide (a1 < a0)) (
 .ret 1) <|
 .ret 0
def Xr (a0:Int) (a1:Int):Option (Int):=(qaL a0 a1).run some
def qrK:List (Nat×qD):=[]
def qfP:Ent:=smF ⟨67,[],[.x (.i .i64),.x (.i .i64)],[],[]⟩ [(.i .i64),(.i .i64)] (Int) (fun x=>Xr x.1 x.2.1) cs1 fun _=>qrA
theorem qpi:ze Tryz.prog (qfP):=
 zd (H:=qrz) (L:=qL (qrK)) (ts:=[(.i .i64),(.i .i64)]) (T:=fun x=>qaL x.1 x.2.1) 0 qLO (qn0 0) (qo (by kernel_rfl) trivial) (rg0 (by kernel_rfl)) fun x=>by kernel_rfl
noncomputable def qsS:Code:=Tryz.f66.body.getD .skip
theorem qJH:FnF Tryz.prog 66 Tryz.f66 qsS:=⟨qj,by kernel_rfl,by kernel_rfl,by kernel_rfl⟩
def qhN:TH:={ live:=[(0,[0]),(1,[0,3]),(2,[3,6,7,8]),(3,[3,6,7,8,9]),(4,[3,5,6,7,8]),(5,[3,5,6,7,8,14]),(6,[2]),(7,[3,6,7,8]),(8,[2])] }
def qoP (N:Nat):List Ent:=[]
theorem qkx (N:Nat):qT Tryz.prog (qoP N):=trivial
abbrev Y7:=List Int×Int
abbrev Jj:=Int⊕(Int×Bool)
def Xa (f:Y7):Jj→Ex×TSt
 | .inl y=>(.ret,⟨0,18,[],[(2,xi y)],[],false,[]⟩)
 | .inr y=>(.exit 0,⟨0,18,[],[(3,.ic .i64 0),(6,.tv (.sl 1 (.i .i64)) f.1),(7,xi f.2),(8,xi y.1),(9,xb y.2)],[],false,[]⟩)
def qvw (N:Nat):List (Nat×qD):=[]
abbrev Xl:=Int
def qil:SP:=⟨0,18,[],[(3,.k (.ic .i64 0)),(6,.x (.sl 1 (.i .i64))),(7,.x (.i .i64)),(8,.x (.i .i64))],[],false,[]⟩
def qvM (f:Y7) (v:Xl):TSt:=zJ qil [dv (.sl 1 (.i .i64)) f.1,dv (.i .i64) f.2,dv (.i .i64) v]
def Zc (N:Nat) (s6_3:List Int) (s7_3:Int) (v:Xl):Tree (Xl⊕Jj):=
 .cond (decide (v < s7_3)) (
 .bind (zh s6_3 v) fun e1=>
 .cond (!decide (e1=((0:Int)))) (
 .ret (.inr (.inl e1))) <|
 .chk (qt (v + 1)) <|
 .ret (.inl (v + 1))) <|
 .ret (.inr (.inr ((v,decide (v < s7_3)))))
def qim (N n:Nat) (f:Y7) (v:Xl):Option Jj:=qY (Zc N f.1 f.2) some n v
theorem qu6 (N:Nat) (f:Y7) (n:Nat) (v:Xl) (y:Jj) (h:qim N n f v=some y):LG Tryz.prog qhN 66 (qS qsS 3) (qvM f v) (Xa f y):=
 zw qj (E:=qoP N) (L:=qL (qvw N)) (st:=Xa f) (g:=some) (R:=Xa f) (qkx N) (qo (by kernel_rfl) trivial) (rg0 (by kernel_rfl)) (fun v=>by kernel_rfl) (q6 (st:=Xa f) fun y=>by rcases y with _ | _<;>rfl) n v y h
def qfy (N:Nat) (s6_3:List Int) (s7_3:Int) (s8_3:Int):Option Jj:=qim N N (s6_3,s7_3) s8_3
def qi5 (N:Nat):qD:=smL qil [(.sl 1 (.i .i64)),(.i .i64),(.i .i64)] Jj (fun x=>qfy N x.1 x.2.1 x.2.2.1) (csS cs1) fun x=>Xa (x.1,x.2.1)
theorem qsE (N:Nat):jG Tryz.prog qhN 66 (qS qsS 3) (qi5 N):=zI fun x z h=>qu6 N (x.1,x.2.1) N x.2.2.1 z h
def qBI (z:Int):TV×THp:=(xi z,[])
def qhJ (N:Nat) (a0:List Int):Tree (Int):=
 .bind (qfy N a0 ((a0.length:Nat):Int) 0) fun z1=>
 .sum z1 (fun z2=>
 .ret z2) fun z2=>
 .ret 0
def qc_ (N:Nat) (a0:List Int):Option (Int):=(qhJ N a0).run some
def qAX (N:Nat):List (Nat×qD):=[(3,qi5 N)]
def qoT (N:Nat):Ent:=smF ⟨66,[],[.x (.sl 1 (.i .i64))],[],[]⟩ [(.sl 1 (.i .i64))] (Int) (fun x=>qc_ N x.1) cs1 fun _=>qBI
theorem qyO (N:Nat):ze Tryz.prog (qoT N):=
 zd (H:=qhN) (L:=qL (qAX N)) (ts:=[(.sl 1 (.i .i64))]) (T:=fun x=>qhJ N x.1) 0 qJH (qkx N) (qo (by kernel_rfl) ⟨qsE N,trivial⟩) (rg0 (by kernel_rfl)) fun x=>by kernel_rfl
noncomputable def qKJ:Code:=Tryz.f28.body.getD .skip
theorem qKl:FnF Tryz.prog 28 Tryz.f28 qKJ:=⟨qj,by kernel_rfl,by kernel_rfl,by kernel_rfl⟩
def qBK:TH:={ live:=[(0,[2,3]),(1,[4])],dec:=[8] }
def qBs (N:Nat):List Ent:=[qfP,qoT N]
theorem qw6 (N:Nat):qT Tryz.prog (qBs N):=⟨qpi,qyO N,trivial⟩
def qBa (z:Bool):TV×THp:=(xb z,[])
def qh3 (N:Nat) (a0:qc) (a1:qc):Tree (Bool):=
 .cond (!(eqE qi a0 a1)) (
 .bind (Xr (qc.N a0) (qc.N a1)) fun r1=>
 .bind (Xr (qc.Rep a0) (qc.Rep a1)) fun r2=>
 .bind (qc_ N [r1,r2]) fun r3=>
 .ret (decide (r3 < ((0:Int))))) <|
 .ret false
def jT (N:Nat) (a0:qc) (a1:qc):Option (Bool):=(qh3 N a0 a1).run some
def qBn (N:Nat):List (Nat×qD):=[]
def Jf (N:Nat):Ent:=smF ⟨28,[],[.x qi,.x qi],[],[]⟩ [qi,qi] (Bool) (fun x=>jT N x.1 x.2.1) cs1 fun _=>qBa
theorem JE (N:Nat):ze Tryz.prog (Jf N):=
 zd (H:=qBK) (L:=qL (qBn N)) (ts:=[qi,qi]) (T:=fun x=>qh3 N x.1 x.2.1) 0 qKl (qw6 N) (qo (by kernel_rfl) trivial) (rg0 (by kernel_rfl)) fun x=>by kernel_rfl
noncomputable def qsQ:Code:=Tryz.f35.body.getD .skip
theorem qKz:FnF Tryz.prog 35 Tryz.f35 qsQ:=⟨qj,by kernel_rfl,by kernel_rfl,by kernel_rfl⟩
def qop:TH:={ live:=[(0,[1]),(1,[1,21]),(2,[2]),(3,[1,23,24,25]),(4,[1,23,24,25,26]),(5,[1,3,4,23,24,25]),(6,[1,4,5,23,24,25]),(7,[1,23,24,25,74]),(8,[2]),(9,[1,23,24,25]),(10,[2])],dec:=[10,15,32,37,40,55,60,66] }
def qyc (N:Nat):List Ent:=[XJ,qlw,Jf N]
theorem qr0 (N:Nat):qT Tryz.prog (qyc N):=⟨WC,qsc,JE N,trivial⟩
abbrev qde:=qa×List qb×Int
abbrev Wv:=Unit⊕(Int×Bool)
def KN (f:qde):Wv→Ex×TSt
 | .inl y=>(.ret,⟨0,76,[],[(2,.bc false)],[],false,[]⟩)
 | .inr y=>(.exit 0,⟨0,76,[],[(1,.p 10 [] 0),(23,.tv (.sl 4 qx) f.2.1),(24,xi f.2.2),(25,xi y.1),(26,xb y.2)],[(10,.cell false (.tv qf f.1))],false,[]⟩)
def qBN (N:Nat):List (Nat×qD):=[]
abbrev K6:=Int
def qob:SP:=⟨0,76,[],[(1,.k (.p 10 [] 0)),(23,.x (.sl 4 qx)),(24,.x (.i .i64)),(25,.x (.i .i64))],[(10,.cell false (.x qf))],false,[]⟩
def qBR (f:qde) (v:K6):TSt:=zJ qob [dv qf f.1,dv (.sl 4 qx) f.2.1,dv (.i .i64) f.2.2,dv (.i .i64) v]
def qco (N:Nat) (o_4:qa) (s23_4:List qb) (s24_4:Int) (v:K6):Tree (K6⊕Wv):=
 .cond (decide (v < s24_4)) (
 .bind (zh s23_4 v) fun e1=>
 .cond (decide (v=((0:Int)))) (
 .cond (decide (((0:Int))≤(qb.No e1))) (
 .cond (decide (((8:Int))≤(qb.No e1))) (
 .ret (.inr (.inl ()))) <|
 .bind (Ks (qb.C e1)) fun r2=>
 .cond (!r2) (
 .ret (.inr (.inl ()))) <|
 .bind (jT N (qa.qH o_4) (qd.S (qb.C e1))) fun r3=>
 .cond (!r3) (
 .ret (.inr (.inl ()))) <|
 .chk (qt (v + 1)) <|
 .ret (.inl (v + 1))) <|
 .cond (decide (((0:Int)) < v)) (
 .chk (qt (v - 1)) <|
 .bind (zh (qa.F o_4) (v - 1)) fun e2=>
 .cond (!(decide ((qb.No e2) < (qb.No e1)))) (
 .ret (.inr (.inl ()))) <|
 .cond (decide (((8:Int))≤(qb.No e1))) (
 .ret (.inr (.inl ()))) <|
 .bind (Ks (qb.C e1)) fun r3=>
 .cond (!r3) (
 .ret (.inr (.inl ()))) <|
 .bind (jT N (qa.qH o_4) (qd.S (qb.C e1))) fun r4=>
 .cond (!r4) (
 .ret (.inr (.inl ()))) <|
 .chk (qt (v + 1)) <|
 .ret (.inl (v + 1))) <|
 .ret (.inr (.inl ()))) <|
 .cond (decide (((0:Int)) < v)) (
 .chk (qt (v - 1)) <|
 .bind (zh (qa.F o_4) (v - 1)) fun e2=>
 .cond (!(decide ((qb.No e2) < (qb.No e1)))) (
 .ret (.inr (.inl ()))) <|
 .cond (decide (((8:Int))≤(qb.No e1))) (
 .ret (.inr (.inl ()))) <|
 .bind (Ks (qb.C e1)) fun r3=>
 .cond (!r3) (
 .ret (.inr (.inl ()))) <|
 .bind (jT N (qa.qH o_4) (qd.S (qb.C e1))) fun r4=>
 .cond (!r4) (
 .ret (.inr (.inl ()))) <|
 .chk (qt (v + 1)) <|
 .ret (.inl (v + 1))) <|
 .ret (.inr (.inl ()))) <|
 .ret (.inr (.inr ((v,decide (v < s24_4)))))
def qpm (N n:Nat) (f:qde) (v:K6):Option Wv:=qY (qco N f.1 f.2.1 f.2.2) some n v
theorem qz_ (N:Nat) (f:qde) (n:Nat) (v:K6) (y:Wv) (h:qpm N n f v=some y):LG Tryz.prog qop 35 (qS qsQ 4) (qBR f v) (KN f y):=
 zw qj (E:=qyc N) (L:=qL (qBN N)) (st:=KN f) (g:=some) (R:=KN f) (qr0 N) (qo (by kernel_rfl) trivial) (rg0 (by kernel_rfl)) (fun v=>by kernel_rfl) (q6 (st:=KN f) fun y=>by rcases y with _ | _<;>rfl) n v y h
def qgg (N:Nat) (o_4:qa) (s23_4:List qb) (s24_4:Int) (s25_4:Int):Option Wv:=qpm N N (o_4,s23_4,s24_4) s25_4
def qoh (N:Nat):qD:=smL qob [qf,(.sl 4 qx),(.i .i64),(.i .i64)] Wv (fun x=>qgg N x.1 x.2.1 x.2.2.1 x.2.2.2.1) (csS cs1) fun x=>KN (x.1,x.2.1,x.2.2.1)
theorem qy0 (N:Nat):jG Tryz.prog qop 35 (qS qsQ 4) (qoh N):=zI fun x z h=>qz_ N (x.1,x.2.1,x.2.2.1) N x.2.2.2.1 z h
def qHo (z:Bool):TV×THp:=(xb z,[])
def qpC (N:Nat) (a0:qa):Tree (Bool):=
 .bind (Xp (qa.qH a0)) fun r1=>
 .cond (!r1) (
 .ret false) <|
 .cond (decide ((((qa.F a0).length:Nat):Int)=((0:Int)))) (
 .cond (eqE qi (qa.qH a0) (qc.mk 0 0)) (
 .ret false) <|
 .bind (qgg N a0 (qa.F a0) (((qa.F a0).length:Nat):Int) 0) fun z2=>
 .sum z2 (fun z3=>
 .ret false) fun z3=>
 .ret true) <|
 .bind (qgg N a0 (qa.F a0) (((qa.F a0).length:Nat):Int) 0) fun z2=>
 .sum z2 (fun z3=>
 .ret false) fun z3=>
 .ret true
def qgH (N:Nat) (a0:qa):Option (Bool):=(qpC N a0).run some
def qHi (N:Nat):List (Nat×qD):=[(4,qoh N)]
def qp5 (N:Nat):Ent:=smF ⟨35,[],[.x qf],[],[]⟩ [qf] (Bool) (fun x=>qgH N x.1) cs1 fun _=>qHo
theorem qvc (N:Nat):ze Tryz.prog (qp5 N):=
 zd (H:=qop) (L:=qL (qHi N)) (ts:=[qf]) (T:=fun x=>qpC N x.1) 0 qKz (qr0 N) (qo (by kernel_rfl) ⟨qy0 N,trivial⟩) (rg0 (by kernel_rfl)) fun x=>by kernel_rfl
noncomputable def qKM:Code:=Tryz.f94.body.getD .skip
theorem qLB:FnF Tryz.prog 94 Tryz.f94 qKM:=⟨qj,by kernel_rfl,by kernel_rfl,by kernel_rfl⟩
def quc:TH:={ live:=[(0,[0,1]),(1,[4])] }
def quv (N:Nat):List Ent:=[qIf]
theorem qrk (N:Nat):qT Tryz.prog (quv N):=⟨qMS,trivial⟩
def qu_ (z:Int):TV×THp:=(xi z,[])
def qcR (a0:List UInt8) (a1:List UInt8):Tree (Int):=
 .bind (qL7 a0 a1) fun r1=>
 .ret r1
def Yw (a0:List UInt8) (a1:List UInt8):Option (Int):=(qcR a0 a1).run some
def qvE:List (Nat×qD):=[]
def Kl:Ent:=smF ⟨94,[],[.x .bl,.x .bl],[],[]⟩ [.bl,.bl] (Int) (fun x=>Yw x.1 x.2.1) cs1 fun _=>qu_
theorem qbN:ze Tryz.prog (Kl):=
 zd (H:=quc) (L:=qL (qvE)) (ts:=[.bl,.bl]) (T:=fun x=>qcR x.1 x.2.1) 0 qLB (qrk 0) (qo (by kernel_rfl) trivial) (rg0 (by kernel_rfl)) fun x=>by kernel_rfl
noncomputable def qLs:Code:=Tryz.f60.body.getD .skip
theorem qKd:FnF Tryz.prog 60 Tryz.f60 qLs:=⟨qj,by kernel_rfl,by kernel_rfl,by kernel_rfl⟩
def qDz:TH:={ live:=[(0,[2,3]),(1,[4])],dec:=[8] }
def qDN (N:Nat):List Ent:=[Kl]
theorem qzF (N:Nat):qT Tryz.prog (qDN N):=⟨qbN,trivial⟩
def qC2 (z:Bool):TV×THp:=(xb z,[])
def qjQ (a0:Vector UInt8 16) (a1:Vector UInt8 16):Tree (Bool):=
 .cond (!(eqE (.ba 16) a0 a1)) (
 .bind (Yw a0.toList a1.toList) fun r1=>
 .ret (decide (r1 < ((0:Int))))) <|
 .ret false
def qe9 (a0:Vector UInt8 16) (a1:Vector UInt8 16):Option (Bool):=(qjQ a0 a1).run some
def qC6:List (Nat×qD):=[]
def qkg:Ent:=smF ⟨60,[],[.x (.ba 16),.x (.ba 16)],[],[]⟩ [(.ba 16),(.ba 16)] (Bool) (fun x=>qe9 x.1 x.2.1) cs1 fun _=>qC2
theorem qpY:ze Tryz.prog (qkg):=
 zd (H:=qDz) (L:=qL (qC6)) (ts:=[(.ba 16),(.ba 16)]) (T:=fun x=>qjQ x.1 x.2.1) 0 qKd (qzF 0) (qo (by kernel_rfl) trivial) (rg0 (by kernel_rfl)) fun x=>by kernel_rfl
noncomputable def qtV:Code:=Tryz.f25.body.getD .skip
theorem qLR:FnF Tryz.prog 25 Tryz.f25 qtV:=⟨qj,by kernel_rfl,by kernel_rfl,by kernel_rfl⟩
def qlU:TH:={ live:=[(0,[1]),(1,[1,6,7,8]),(2,[1,6,7,8,9]),(3,[1,3,4,6,7,8]),(4,[1,6,7,8,32]),(5,[2]),(6,[1,6,7,8]),(7,[2])],dec:=[16,19] }
def quE (N:Nat):List Ent:=[qp5 N,qkg]
theorem qoK (N:Nat):qT Tryz.prog (quE N):=⟨qvc N,qpY,trivial⟩
abbrev qbz:=qe×List qa×Int
abbrev V3:=Unit⊕(Int×Bool)
def YP (f:qbz):V3→Ex×TSt
 | .inl y=>(.ret,⟨0,38,[],[(2,.bc false)],[],false,[]⟩)
 | .inr y=>(.exit 0,⟨0,38,[],[(1,.p 10 [] 0),(6,.tv (.sl 19 qf) f.2.1),(7,xi f.2.2),(8,xi y.1),(9,xb y.2)],[(10,.cell false (.tv qu f.1))],false,[]⟩)
def qzl (N:Nat):List (Nat×qD):=[]
abbrev YM:=Int
def qnv:SP:=⟨0,38,[],[(1,.k (.p 10 [] 0)),(6,.x (.sl 19 qf)),(7,.x (.i .i64)),(8,.x (.i .i64))],[(10,.cell false (.x qu))],false,[]⟩
def qyI (f:qbz) (v:YM):TSt:=zJ qnv [dv qu f.1,dv (.sl 19 qf) f.2.1,dv (.i .i64) f.2.2,dv (.i .i64) v]
def qbl (N:Nat) (o_2:qe) (s6_2:List qa) (s7_2:Int) (v:YM):Tree (YM⊕V3):=
 .cond (decide (v < s7_2)) (
 .bind (zh s6_2 v) fun e1=>
 .bind (qgH N e1) fun r2=>
 .cond (!r2) (
 .ret (.inr (.inl ()))) <|
 .cond (decide (((0:Int)) < v)) (
 .chk (qt (v - 1)) <|
 .bind (zh (qe.R o_2) (v - 1)) fun e3=>
 .bind (qe9 (qa.ID e3) (qa.ID e1)) fun r4=>
 .cond (!r4) (
 .ret (.inr (.inl ()))) <|
 .chk (qt (v + 1)) <|
 .ret (.inl (v + 1))) <|
 .chk (qt (v + 1)) <|
 .ret (.inl (v + 1))) <|
 .ret (.inr (.inr ((v,decide (v < s7_2)))))
def qnB (N n:Nat) (f:qbz) (v:YM):Option V3:=qY (qbl N f.1 f.2.1 f.2.2) some n v
theorem qzb (N:Nat) (f:qbz) (n:Nat) (v:YM) (y:V3) (h:qnB N n f v=some y):LG Tryz.prog qlU 25 (qS qtV 2) (qyI f v) (YP f y):=
 zw qj (E:=quE N) (L:=qL (qzl N)) (st:=YP f) (g:=some) (R:=YP f) (qoK N) (qo (by kernel_rfl) trivial) (rg0 (by kernel_rfl)) (fun v=>by kernel_rfl) (q6 (st:=YP f) fun y=>by rcases y with _ | _<;>rfl) n v y h
def qi7 (N:Nat) (o_2:qe) (s6_2:List qa) (s7_2:Int) (s8_2:Int):Option V3:=qnB N N (o_2,s6_2,s7_2) s8_2
def qng (N:Nat):qD:=smL qnv [qu,(.sl 19 qf),(.i .i64),(.i .i64)] V3 (fun x=>qi7 N x.1 x.2.1 x.2.2.1 x.2.2.2.1) (csS cs1) fun x=>YP (x.1,x.2.1,x.2.2.1)
theorem qxe (N:Nat):jG Tryz.prog qlU 25 (qS qtV 2) (qng N):=zI fun x z h=>qzb N (x.1,x.2.1,x.2.2.1) N x.2.2.2.1 z h
def qGH (z:Bool):TV×THp:=(xb z,[])
def ql7 (N:Nat) (a0:qe):Tree (Bool):=
 .bind (qi7 N a0 (qe.R a0) (((qe.R a0).length:Nat):Int) 0) fun z1=>
 .sum z1 (fun z2=>
 .ret false) fun z2=>
 .ret (decide ((((qe.R a0).length:Nat):Int)≤((10:Int))))
def Yg (N:Nat) (a0:qe):Option (Bool):=(ql7 N a0).run some
def qGf (N:Nat):List (Nat×qD):=[(2,qng N)]
def qcB (N:Nat):Ent:=smF ⟨25,[],[.x qu],[],[]⟩ [qu] (Bool) (fun x=>Yg N x.1) cs1 fun _=>qGH
theorem qep (N:Nat):ze Tryz.prog (qcB N):=
 zd (H:=qlU) (L:=qL (qGf N)) (ts:=[qu]) (T:=fun x=>ql7 N x.1) 0 qLR (qoK N) (qo (by kernel_rfl) ⟨qxe N,trivial⟩) (rg0 (by kernel_rfl)) fun x=>by kernel_rfl
noncomputable def qoy:Code:=Tryz.f133.body.getD .skip
theorem qIH:FnF Tryz.prog 133 Tryz.f133 qoy:=⟨qj,by kernel_rfl,by kernel_rfl,by kernel_rfl⟩
def qft:TH:={ live:=[(0,[0]),(1,[0,3]),(2,[0,3]),(3,[0,3,7]),(4,[0,3]),(5,[0,3]),(6,[2])] }
def qnx (N:Nat):List Ent:=[]
theorem qiP (N:Nat):qT Tryz.prog (qnx N):=trivial
abbrev WV:=Unit
abbrev ZR:=Int×Int×Bool
def VF (f:WV) (y:ZR):Ex×TSt:=(.exit 0,⟨0,13,[],[(0,.tv (.i .u64) (y.1:Int)),(3,xi y.2.1),(7,xb y.2.2)],[],false,[]⟩)
def qsY (N:Nat):List (Nat×qD):=[]
abbrev Vl:=Int×Int
def qg7:SP:=⟨0,13,[],[(0,.x (.i .u64)),(3,.x (.i .i64))],[],false,[]⟩
def qtp (f:WV) (v:Vl):TSt:=zJ qg7 [dv (.i .u64) v.1,dv (.i .i64) v.2]
def W4 (N:Nat) (v:Vl):Tree (Vl⊕ZR):=
 .cond (decide (((0:Int)) < v.1)) (
 .chk (qt (v.2 + 1)) <|
 .chk (0≤(7:Int)) <|
 .ret (.inl (Qz v.1 7,v.2 + 1))) <|
 .ret (.inr (v.1,v.2,decide (((0:Int)) < v.1)))
def qhx (N n:Nat) (f:WV) (v:Vl):Option ZR:=qY (W4 N) some n v
theorem qtz (N:Nat) (f:WV) (n:Nat) (v:Vl) (y:ZR) (h:qhx N n f v=some y):LG Tryz.prog qft 133 (qS qoy 3) (qtp f v) (VF f y):=
 zw qj (E:=qnx N) (L:=qL (qsY N)) (st:=VF f) (g:=some) (R:=VF f) (qiP N) (qo (by kernel_rfl) trivial) (rg0 (by kernel_rfl)) (fun v=>by kernel_rfl) (q6 (st:=VF f) fun y=>by rfl) n v y h
def qdM (N:Nat) (s0_3:Int) (s3_3:Int):Option ZR:=qhx N N () (s0_3,s3_3)
def qg6 (N:Nat):qD:=smL qg7 [(.i .u64),(.i .i64)] ZR (fun x=>qdM N x.1 x.2.1) cs1 fun x=>VF ()
theorem qrw (N:Nat):jG Tryz.prog qft 133 (qS qoy 3) (qg6 N):=zI fun x z h=>qtz N () N (x.1,x.2.1) z h
def qyx (z:Int):TV×THp:=(xi z,[])
def qfo (N:Nat) (a0:Int):Tree (Int):=
 .chk (0≤(7:Int)) <|
 .bind (qdM N (Qz a0 7) 1) fun z1=>
 .ret z1.2.1
def qeq (N:Nat) (a0:Int):Option (Int):=(qfo N a0).run some
def qyM (N:Nat):List (Nat×qD):=[(3,qg6 N)]
def qnw (N:Nat):Ent:=smF ⟨133,[],[.x (.i .u64)],[],[]⟩ [(.i .u64)] (Int) (fun x=>qeq N x.1) cs1 fun _=>qyx
theorem qw4 (N:Nat):ze Tryz.prog (qnw N):=
 zd (H:=qft) (L:=qL (qyM N)) (ts:=[(.i .u64)]) (T:=fun x=>qfo N x.1) 0 qIH (qiP N) (qo (by kernel_rfl) ⟨qrw N,trivial⟩) (rg0 (by kernel_rfl)) fun x=>by kernel_rfl
noncomputable def qoW:Code:=Tryz.f108.body.getD .skip
theorem qJc:FnF Tryz.prog 108 Tryz.f108 qoW:=⟨qj,by kernel_rfl,by kernel_rfl,by kernel_rfl⟩
def qlr:TH:={ live:=[(0,[0]),(1,[0,3]),(2,[0,3,4]),(3,[0,3,4,10,11]),(4,[0,3,4,10,11,12]),(5,[0,3,4,5,10,11]),(6,[0,3,4,10,11]),(7,[0,3,4,10,11]),(8,[4]),(9,[2])],esc:=true }
def quq (N:Nat):List Ent:=[qnw N]
theorem qoD (N:Nat):qT Tryz.prog (quq N):=⟨qw4 N,trivial⟩
abbrev qbi:=Int×Int×Nat×Int
abbrev V4:=List UInt8×Int×Bool
def Yt (f:qbi) (y:V4):Ex×TSt:=(.exit 0,⟨1,35,[],[(0,.tv (.i .u64) f.1),(3,xi f.2.1),(4,.v 100090 f.2.2.1),(10,xi f.2.2.2),(11,xi y.2.1),(12,xb y.2.2)],[(100090,.vec false 1 .bl (y.1:List UInt8))],false,[]⟩)
def qzd (N:Nat):List (Nat×qD):=[]
abbrev Yv:=List UInt8×Int
def qm7:SP:=⟨1,35,[],[(0,.x (.i .u64)),(3,.x (.i .i64)),(4,.v 100090),(10,.x (.i .i64)),(11,.x (.i .i64))],[(100090,.vec false 1)],false,[]⟩
def qzc (f:qbi) (v:Yv):TSt:=zJ qm7 [dv .bl v.1,dv (.i .u64) f.1,dv (.i .i64) f.2.1,dv .nat f.2.2.1,dv (.i .i64) f.2.2.2,dv (.i .i64) v.2]
def qbe (N:Nat) (s0_4:Int) (s3_4:Int) (s4_4:Nat) (s10_4:Int) (v:Yv):Tree (Yv⊕V4):=
 .cond (decide (v.2 < s10_4)) (
 .chk (qt (s3_4 - 1)) <|
 .chk (qt ((s3_4 - 1) - v.2)) <|
 .chk (qt (((7:Int)) * v.2)) <|
 .chk (0≤(((7:Int)) * v.2)) <|
 let w1:Int:=Qz s0_4 (min (((7:Int)) * v.2).toNat 64)
 .chk (0≤((s3_4 - 1) - v.2)∧((s3_4 - 1) - v.2) < ((s4_4:Nat):Int)) <|
 .chk (qbs v.1.length s4_4 (((s3_4 - 1) - v.2).toNat)) <|
 .chk (inB (uOr .u8 (IntKind.u8.wrap w1) 128)) <|
 .chk (qt (v.2 + 1)) <|
 .ret (.inl (v.1.set (((s3_4 - 1) - v.2).toNat) (UInt8.ofNat (uOr .u8 (IntKind.u8.wrap w1) 128).toNat),v.2 + 1))) <|
 .ret (.inr (v.1,v.2,decide (v.2 < s10_4)))
def qnc (N n:Nat) (f:qbi) (v:Yv):Option V4:=qY (qbe N f.1 f.2.1 f.2.2.1 f.2.2.2) some n v
theorem qzr (N:Nat) (f:qbi) (n:Nat) (v:Yv) (y:V4) (h:qnc N n f v=some y):LG Tryz.prog qlr 108 (qS qoW 4) (qzc f v) (Yt f y):=
 zw qj (E:=quq N) (L:=qL (qzd N)) (st:=Yt f) (g:=some) (R:=Yt f) (qoD N) (qo (by kernel_rfl) trivial) (rg0 (by kernel_rfl)) (fun v=>by kernel_rfl) (q6 (st:=Yt f) fun y=>by rfl) n v y h
def qel (N:Nat) (s0_4:Int) (s3_4:Int) (s4_4:Nat) (s10_4:Int) (o_4:List UInt8) (s11_4:Int):Option V4:=qnc N N (s0_4,s3_4,s4_4,s10_4) (o_4,s11_4)
def qm6 (N:Nat):qD:=smL qm7 [.bl,(.i .u64),(.i .i64),.nat,(.i .i64),(.i .i64)] V4 (fun x=>qel N x.2.1 x.2.2.1 x.2.2.2.1 x.2.2.2.2.1 x.1 x.2.2.2.2.2.1) cs1 fun x=>Yt (x.2.1,x.2.2.1,x.2.2.2.1,x.2.2.2.2.1)
theorem qwF (N:Nat):jG Tryz.prog qlr 108 (qS qoW 4) (qm6 N):=zI fun x z h=>qzr N (x.2.1,x.2.2.1,x.2.2.2.1,x.2.2.2.2.1) N (x.1,x.2.2.2.2.2.1) z h
def qFq (z:List UInt8×Nat):TV×THp:=(.v 100090 z.2,[(100090,.vec false 1 .bl (z.1:List UInt8))])
def qmb (N:Nat) (a0:Int):Tree (List UInt8×Nat):=
 .bind (qeq N a0) fun r1=>
 .chk (qAv r1 r1 1) <|
 .bind (qel N a0 r1 (((List.replicate r1.toNat 0:List UInt8)).length) r1 ((List.replicate r1.toNat 0:List UInt8)) 0) fun z2=>
 .chk (qt (r1 - 1)) <|
 .chk (0≤(r1 - 1)∧(r1 - 1) < ((((List.replicate r1.toNat 0:List UInt8)).length:Nat):Int)) <|
 .bind (Xu z2.1 (((List.replicate r1.toNat 0:List UInt8)).length) ((r1 - 1).toNat)) fun e3=>
 let w4:Int:=qqK .u8 ((e3.toNat:Nat):Int) 128
 .chk (0≤(r1 - 1)∧(r1 - 1) < ((((List.replicate r1.toNat 0:List UInt8)).length:Nat):Int)) <|
 .chk (qbs z2.1.length (((List.replicate r1.toNat 0:List UInt8)).length) ((r1 - 1).toNat)) <|
 .chk (inB w4) <|
 .ret (z2.1.set ((r1 - 1).toNat) (UInt8.ofNat w4.toNat),((List.replicate r1.toNat 0:List UInt8)).length)
def ZW (N:Nat) (a0:Int):Option (List UInt8×Nat):=(qmb N a0).run some
def qGM (N:Nat):List (Nat×qD):=[(4,qm6 N)]
def qcj (N:Nat):Ent:=smF ⟨108,[],[.x (.i .u64)],[],[]⟩ [(.i .u64)] (List UInt8×Nat) (fun x=>ZW N x.1) cs1 fun _=>qFq
theorem qeo (N:Nat):ze Tryz.prog (qcj N):=
 zd (H:=qlr) (L:=qL (qGM N)) (ts:=[(.i .u64)]) (T:=fun x=>qmb N x.1) 0 qJc (qoD N) (qo (by kernel_rfl) ⟨qwF N,trivial⟩) (rg0 (by kernel_rfl)) fun x=>by kernel_rfl
noncomputable def qIW:Code:=Tryz.f109.body.getD .skip
theorem qyu:FnF Tryz.prog 109 Tryz.f109 qIW:=⟨qj,by kernel_rfl,by kernel_rfl,by kernel_rfl⟩
def qDP:TH:={ live:=[(0,[1]),(1,[1,6]),(2,[2,3]),(3,[2,3])],fresh:=[15] }
def qC7 (N:Nat):List Ent:=[XJ,qcj N]
theorem qyF (N:Nat):qT Tryz.prog (qC7 N):=⟨WC,qeo N,trivial⟩
def qDm (z:List UInt8×Bool):TV×THp:=(.tup [.tv .bl (z.1:List UInt8),xb z.2],[])
def qji (N:Nat) (a0:qc):Tree (List UInt8×Bool):=
 .bind (Xp a0) fun r1=>
 .cond (!r1) (
 .ret ([],false)) <|
 .chk (0≤(3:Int)) <|
 let w2:Int:=qc5 .u64 (IntKind.u64.wrap (qc.N a0)) 3
 let w3:Int:=uOr .u64 w2 (IntKind.u64.wrap (qc.Rep a0))
 .bind (ZW N w3) fun r4=>
 .chk (r4.1.length=r4.2) <|
 .ret (r4.1,true)
def qik (N:Nat) (a0:qc):Option (List UInt8×Bool):=(qji N a0).run some
def qDb (N:Nat):List (Nat×qD):=[]
def qrV (N:Nat):Ent:=smF ⟨109,[],[.x qi],[],[]⟩ [qi] (List UInt8×Bool) (fun x=>qik N x.1) cs1 fun _=>qDm
theorem qAa (N:Nat):ze Tryz.prog (qrV N):=
 zd (H:=qDP) (L:=qL (qDb N)) (ts:=[qi]) (T:=fun x=>qji N x.1) 0 qyu (qyF N) (qo (by kernel_rfl) trivial) (rg0 (by kernel_rfl)) fun x=>by kernel_rfl
def qzH:TH:={ live:=[(0,[1]),(1,[1,6]),(2,[2,3]),(3,[2,3])],fresh:=[15],esc:=true }
def qzj (N:Nat):List Ent:=[XJ,qcj N]
theorem qt9 (N:Nat):qT Tryz.prog (qzj N):=⟨WC,qeo N,trivial⟩
def qzv:Unit⊕(List UInt8×Nat)→TV×THp
 | .inl z=>(.tup [.nils,.bc false],[])
 | .inr z=>(.tup [.v 100090 z.2,.bc true],[(100090,.vec false 1 .bl (z.1:List UInt8))])
def qfB (N:Nat) (a0:qc):Tree (Unit⊕(List UInt8×Nat)):=
 .bind (Xp a0) fun r1=>
 .cond (!r1) (
 .ret (.inl ())) <|
 .chk (0≤(3:Int)) <|
 let w2:Int:=qc5 .u64 (IntKind.u64.wrap (qc.N a0)) 3
 let w3:Int:=uOr .u64 w2 (IntKind.u64.wrap (qc.Rep a0))
 .bind (ZW N w3) fun r4=>
 .ret (.inr ((r4.1,r4.2)))
def qa6 (N:Nat) (a0:qc):Option (Unit⊕(List UInt8×Nat)):=(qfB N a0).run some
def qzh (N:Nat):List (Nat×qD):=[]
def qns (N:Nat):Ent:=smF ⟨109,[],[.x qi],[],[]⟩ [qi] (Unit⊕(List UInt8×Nat)) (fun x=>qa6 N x.1) (csS cs1) fun _=>qzv
theorem qxq (N:Nat):ze Tryz.prog (qns N):=
 zd (H:=qzH) (L:=qL (qzh N)) (ts:=[qi]) (T:=fun x=>qfB N x.1) 0 qyu (qt9 N) (qo (by kernel_rfl) trivial) (rg0 (by kernel_rfl)) fun x=>by kernel_rfl
noncomputable def qIe:Code:=Tryz.f134.body.getD .skip
theorem qIt:FnF Tryz.prog 134 Tryz.f134 qIe:=⟨qj,by kernel_rfl,by kernel_rfl,by kernel_rfl⟩
def qC_:TH:={ live:=[(0,[0]),(1,[2])],fresh:=[6] }
def qDA (N:Nat):List Ent:=[qcj N]
theorem qyY (N:Nat):qT Tryz.prog (qDA N):=⟨qeo N,trivial⟩
def qDZ (z:List UInt8):TV×THp:=(.tv .bl z,[])
def qjm (N:Nat) (a0:List UInt8):Tree (List UInt8):=
 let w1:Int:=IntKind.u64.wrap ((a0.length:Nat):Int)
 .bind (ZW N w1) fun r2=>
 .chk (jF r2.1.length r2.2 ((r2.1++a0).length) 1) <|
 .chk ((r2.1++a0).length=(r2.1++a0).length) <|
 .ret (r2.1++a0)
def qeE (N:Nat) (a0:List UInt8):Option (List UInt8):=(qjm N a0).run some
def qDr (N:Nat):List (Nat×qD):=[]
def qr2 (N:Nat):Ent:=smF ⟨134,[],[.x .s],[],[]⟩ [.s] (List UInt8) (fun x=>qeE N x.1) cs1 fun _=>qDZ
theorem qCx (N:Nat):ze Tryz.prog (qr2 N):=
 zd (H:=qC_) (L:=qL (qDr N)) (ts:=[.s]) (T:=fun x=>qjm N x.1) 0 qIt (qyY N) (qo (by kernel_rfl) trivial) (rg0 (by kernel_rfl)) fun x=>by kernel_rfl
noncomputable def qHY:Code:=Tryz.f110.body.getD .skip
theorem qJq:FnF Tryz.prog 110 Tryz.f110 qHY:=⟨qj,by kernel_rfl,by kernel_rfl,by kernel_rfl⟩
def qGo:TH:={ live:=[(0,[1]),(1,[1,8]),(2,[2,3]),(3,[1,4]),(4,[2,3])],fresh:=[12],nil:=[(3,[⟨.sl 4,45,.bl⟩])] }
def qGt (N:Nat):List Ent:=[qlw,qns N,qr2 N]
theorem qBD (N:Nat):qT Tryz.prog (qGt N):=⟨qsc,qxq N,qCx N,trivial⟩
def qFv (z:List UInt8×Bool):TV×THp:=(.tup [.tv .bl (z.1:List UInt8),xb z.2],[])
def qmk (N:Nat) (a0:qd):Tree (List UInt8×Bool):=
 .bind (Ks a0) fun r1=>
 .cond (!r1) (
 .ret ([],false)) <|
 .bind (qa6 N (qd.S a0)) fun r2=>
 .sum r2 (fun r3=>
 .bind (qeE N (qd.V a0)) fun r4=>
 .chk (jF ((([]:List UInt8)).length) 0 (((([]:List UInt8))++r4).length) 1) <|
 .chk (((([]:List UInt8))++r4).length=((([]:List UInt8))++r4).length) <|
 .ret ((([]:List UInt8))++r4,true)) fun r3=>
 .bind (qeE N (qd.V a0)) fun r4=>
 .chk (jF r3.1.length r3.2 ((r3.1++r4).length) 1) <|
 .chk ((r3.1++r4).length=(r3.1++r4).length) <|
 .ret (r3.1++r4,true)
def qme (N:Nat) (a0:qd):Option (List UInt8×Bool):=(qmk N a0).run some
def qFK (N:Nat):List (Nat×qD):=[]
def quh (N:Nat):Ent:=smF ⟨110,[],[.x qp],[],[]⟩ [qp] (List UInt8×Bool) (fun x=>qme N x.1) cs1 fun _=>qFv
theorem qD2 (N:Nat):ze Tryz.prog (quh N):=
 zd (H:=qGo) (L:=qL (qFK N)) (ts:=[qp]) (T:=fun x=>qmk N x.1) 0 qJq (qBD N) (qo (by kernel_rfl) trivial) (rg0 (by kernel_rfl)) fun x=>by kernel_rfl
noncomputable def qg9:Code:=Tryz.f84.body.getD .skip
theorem qKW:FnF Tryz.prog 84 Tryz.f84 qg9:=⟨qj,by kernel_rfl,by kernel_rfl,by kernel_rfl⟩
def qa8:TH:={ live:=[(0,[1]),(1,[1,15]),(2,[2,3]),(3,[1,4]),(4,[4,22,23,24]),(5,[4,22,23,24,25]),(6,[4,6,22,23,24]),(7,[4,6,7,22,23,24]),(8,[4,6,22,23,24]),(9,[4,22,23,24,47,48,49]),(10,[4,22,23,24,47,48,49,50]),(11,[4,10,22,23,24,47,48,49]),(12,[4,10,11,22,23,24,47,48,49]),(13,[4,22,23,24,47,48,49]),(14,[4,22,23,24,47,48,49]),(15,[4,22,23,24]),(16,[2,3])],fresh:=[20],rd:=[(6,[6]),(11,[10])] }
def qkj (N:Nat):List Ent:=[qcB N,qcj N,qrV N,quh N]
theorem qfF (N:Nat):qT Tryz.prog (qkj N):=⟨qep N,qeo N,qAa N,qD2 N,trivial⟩
abbrev Ke:=List qa×Int×Int×List qb×Int
abbrev Jh:=List UInt8×Nat×Int×Bool
def V_ (f:Ke) (y:Jh):Ex×TSt:=(.exit 2,⟨0,70,[],[(4,.v 100090 y.2.1),(22,.tv (.sl 19 qf) f.1),(23,xi f.2.1),(24,xi f.2.2.1),(47,.tv (.sl 4 qx) f.2.2.2.1),(48,xi f.2.2.2.2),(49,xi y.2.2.1),(50,xb y.2.2.2)],[(100090,.vec false 1 .bl (y.1:List UInt8))],false,[]⟩)
def qvv (N:Nat):List (Nat×qD):=[]
abbrev V7:=List UInt8×Nat×Int
def qiw:SP:=⟨0,70,[],[(4,.v 100090),(22,.x (.sl 19 qf)),(23,.x (.i .i64)),(24,.x (.i .i64)),(47,.x (.sl 4 qx)),(48,.x (.i .i64)),(49,.x (.i .i64))],[(100090,.vec false 1)],false,[]⟩
def qv0 (f:Ke) (v:V7):TSt:=zJ qiw [dv .bl v.1,dv .nat v.2.1,dv (.sl 19 qf) f.1,dv (.i .i64) f.2.1,dv (.i .i64) f.2.2.1,dv (.sl 4 qx) f.2.2.2.1,dv (.i .i64) f.2.2.2.2,dv (.i .i64) v.2.2]
def Kh (N:Nat) (s22_10:List qa) (s23_10:Int) (s24_10:Int) (s47_10:List qb) (s48_10:Int) (v:V7):Tree (V7⊕Jh):=
 .cond (decide (v.2.2 < s48_10)) (
 .bind (zh s47_10 v.2.2) fun e1=>
 .bind (qme N (qb.C e1)) fun r2=>
 .chk (inB (IntKind.u8.wrap (qb.No e1))) <|
 .chk (jF v.1.length v.2.1 ((v.1++[UInt8.ofNat (IntKind.u8.wrap (qb.No e1)).toNat]).length) 1) <|
 .chk (jF ((v.1++[UInt8.ofNat (IntKind.u8.wrap (qb.No e1)).toNat]).length) ((v.1++[UInt8.ofNat (IntKind.u8.wrap (qb.No e1)).toNat]).length) (((v.1++[UInt8.ofNat (IntKind.u8.wrap (qb.No e1)).toNat])++r2.1).length) 1) <|
 .chk (qt (v.2.2 + 1)) <|
 .ret (.inl ((v.1++[UInt8.ofNat (IntKind.u8.wrap (qb.No e1)).toNat])++r2.1,((v.1++[UInt8.ofNat (IntKind.u8.wrap (qb.No e1)).toNat])++r2.1).length,v.2.2 + 1))) <|
 .ret (.inr (v.1,v.2.1,v.2.2,decide (v.2.2 < s48_10)))
def qiR (N n:Nat) (f:Ke) (v:V7):Option Jh:=qY (Kh N f.1 f.2.1 f.2.2.1 f.2.2.2.1 f.2.2.2.2) some n v
theorem qvK (N:Nat) (f:Ke) (n:Nat) (v:V7) (y:Jh) (h:qiR N n f v=some y):LG Tryz.prog qa8 84 (qS (qS qg9 5) 10) (qv0 f v) (V_ f y):=
 zw qj (E:=qkj N) (L:=qL (qvv N)) (st:=V_ f) (g:=some) (R:=V_ f) (qfF N) (qo (by kernel_rfl) trivial) (rg0 (by kernel_rfl)) (fun v=>by kernel_rfl) (q6 (st:=V_ f) fun y=>by rfl) n v y h
def qfg (N:Nat) (s22_10:List qa) (s23_10:Int) (s24_10:Int) (s47_10:List qb) (s48_10:Int) (o_10:List UInt8) (s4_10:Nat) (s49_10:Int):Option Jh:=qiR N N (s22_10,s23_10,s24_10,s47_10,s48_10) (o_10,s4_10,s49_10)
def qi1 (N:Nat):qD:=smL qiw [.bl,.nat,(.sl 19 qf),(.i .i64),(.i .i64),(.sl 4 qx),(.i .i64),(.i .i64)] Jh (fun x=>qfg N x.2.2.1 x.2.2.2.1 x.2.2.2.2.1 x.2.2.2.2.2.1 x.2.2.2.2.2.2.1 x.1 x.2.1 x.2.2.2.2.2.2.2.1) cs1 fun x=>V_ (x.2.2.1,x.2.2.2.1,x.2.2.2.2.1,x.2.2.2.2.2.1,x.2.2.2.2.2.2.1)
theorem qtH (N:Nat):jG Tryz.prog qa8 84 (qS (qS qg9 5) 10) (qi1 N):=zI fun x z h=>qvK N (x.2.2.1,x.2.2.2.1,x.2.2.2.2.1,x.2.2.2.2.2.1,x.2.2.2.2.2.2.1) N (x.1,x.2.1,x.2.2.2.2.2.2.2.1) z h
abbrev qal:=List qa×Int
abbrev Vj:=List UInt8×Nat×Int×Bool
def WA (f:qal) (y:Vj):Ex×TSt:=(.exit 0,⟨0,70,[],[(4,.v 100090 y.2.1),(22,.tv (.sl 19 qf) f.1),(23,xi f.2),(24,xi y.2.2.1),(25,xb y.2.2.2)],[(100090,.vec false 1 .bl (y.1:List UInt8))],false,[]⟩)
def qxv (N:Nat):List (Nat×qD):=[(10,qi1 N)]
abbrev Wf:=List UInt8×Nat×Int
def qkX:SP:=⟨0,70,[],[(4,.v 100090),(22,.x (.sl 19 qf)),(23,.x (.i .i64)),(24,.x (.i .i64))],[(100090,.vec false 1)],false,[]⟩
def qxt (f:qal) (v:Wf):TSt:=zJ qkX [dv .bl v.1,dv .nat v.2.1,dv (.sl 19 qf) f.1,dv (.i .i64) f.2,dv (.i .i64) v.2.2]
def qaw (N:Nat) (s22_5:List qa) (s23_5:Int) (v:Wf):Tree (Wf⊕Vj):=
 .cond (decide (v.2.2 < s23_5)) (
 .bind (zh s22_5 v.2.2) fun e1=>
 .bind (qik N (qa.qH e1)) fun r2=>
 .chk (jF v.1.length v.2.1 ((v.1++((qa.ID e1).toList)).length) 1) <|
 .chk (jF ((v.1++((qa.ID e1).toList)).length) ((v.1++((qa.ID e1).toList)).length) (((v.1++((qa.ID e1).toList))++r2.1).length) 1) <|
 let w3:Int:=IntKind.u64.wrap (((qa.F e1).length:Nat):Int)
 .bind (ZW N w3) fun r4=>
 .chk (r4.1.length=r4.2) <|
 .chk (jF (((v.1++((qa.ID e1).toList))++r2.1).length) (((v.1++((qa.ID e1).toList))++r2.1).length) ((((v.1++((qa.ID e1).toList))++r2.1)++r4.1).length) 1) <|
 .bind (qfg N s22_5 s23_5 v.2.2 (qa.F e1) (((qa.F e1).length:Nat):Int) (((v.1++((qa.ID e1).toList))++r2.1)++r4.1) ((((v.1++((qa.ID e1).toList))++r2.1)++r4.1).length) 0) fun z5=>
 .chk (qt (v.2.2 + 1)) <|
 .ret (.inl (z5.1,z5.2.1,v.2.2 + 1))) <|
 .ret (.inr (v.1,v.2.1,v.2.2,decide (v.2.2 < s23_5)))
def qlg (N n:Nat) (f:qal) (v:Wf):Option Vj:=qY (qaw N f.1 f.2) some n v
theorem qwj (N:Nat) (f:qal) (n:Nat) (v:Wf) (y:Vj) (h:qlg N n f v=some y):LG Tryz.prog qa8 84 (qS qg9 5) (qxt f v) (WA f y):=
 zw qj (E:=qkj N) (L:=qL (qxv N)) (st:=WA f) (g:=some) (R:=WA f) (qfF N) (qo (by kernel_rfl) ⟨qtH N,trivial⟩) (rg0 (by kernel_rfl)) (fun v=>by kernel_rfl) (q6 (st:=WA f) fun y=>by rfl) n v y h
def qhY (N:Nat) (s22_5:List qa) (s23_5:Int) (o_5:List UInt8) (s4_5:Nat) (s24_5:Int):Option Vj:=qlg N N (s22_5,s23_5) (o_5,s4_5,s24_5)
def qlc (N:Nat):qD:=smL qkX [.bl,.nat,(.sl 19 qf),(.i .i64),(.i .i64)] Vj (fun x=>qhY N x.2.2.1 x.2.2.2.1 x.1 x.2.1 x.2.2.2.2.1) cs1 fun x=>WA (x.2.2.1,x.2.2.2.1)
theorem qt_ (N:Nat):jG Tryz.prog qa8 84 (qS qg9 5) (qlc N):=zI fun x z h=>qwj N (x.2.2.1,x.2.2.2.1) N (x.1,x.2.1,x.2.2.2.2.1) z h
def qDo (z:List UInt8×Bool):TV×THp:=(.tup [.tv .bl (z.1:List UInt8),xb z.2],[])
def qjd (N:Nat) (a0:qe):Tree (List UInt8×Bool):=
 .bind (Yg N a0) fun r1=>
 .cond (!r1) (
 .ret ([],false)) <|
 let w2:Int:=IntKind.u64.wrap (((qe.R a0).length:Nat):Int)
 .bind (ZW N w2) fun r3=>
 .bind (qhY N (qe.R a0) (((qe.R a0).length:Nat):Int) r3.1 r3.2 0) fun z4=>
 .chk (z4.1.length=z4.2.1) <|
 .ret (z4.1,true)
def qit (N:Nat) (a0:qe):Option (List UInt8×Bool):=(qjd N a0).run some
def qDG (N:Nat):List (Nat×qD):=[(5,qlc N)]
def qrZ (N:Nat):Ent:=smF ⟨84,[],[.x qu],[],[]⟩ [qu] (List UInt8×Bool) (fun x=>qit N x.1) cs1 fun _=>qDo
theorem qBi (N:Nat):ze Tryz.prog (qrZ N):=
 zd (H:=qa8) (L:=qL (qDG N)) (ts:=[qu]) (T:=fun x=>qjd N x.1) 0 qKW (qfF N) (qo (by kernel_rfl) ⟨qt_ N,trivial⟩) (rg0 (by kernel_rfl)) fun x=>by kernel_rfl
noncomputable def qJ7:Code:=Tryz.f50.body.getD .skip
theorem qJL:FnF Tryz.prog 50 Tryz.f50 qJ7:=⟨qj,by kernel_rfl,by kernel_rfl,by kernel_rfl⟩
def qxk:TH:={ live:=[(0,[1,2]),(1,[2,3]),(2,[2])] }
def qwC (N:Nat):List Ent:=[qrZ N,qpJ N]
theorem qsC (N:Nat):qT Tryz.prog (qwC N):=⟨qBi N,qmh N,trivial⟩
def qxj (z:Vector UInt8 32):TV×THp:=(.tv (.ba 32) z,[])
def qdO (N:Nat) (a0:qe):Tree (Vector UInt8 32):=
 .bind (qit N a0) fun r1=>
 .bind (X8 N r1.1) fun r2=>
 .ret r2
def KG (N:Nat) (a0:qe):Option (Vector UInt8 32):=(qdO N a0).run some
def qwU (N:Nat):List (Nat×qD):=[]
def qkH (N:Nat):Ent:=smF ⟨50,[],[.x qu],[],[]⟩ [qu] (Vector UInt8 32) (fun x=>KG N x.1) cs1 fun _=>qxj
theorem quY (N:Nat):ze Tryz.prog (qkH N):=
 zd (H:=qxk) (L:=qL (qwU N)) (ts:=[qu]) (T:=fun x=>qdO N x.1) 0 qJL (qsC N) (qo (by kernel_rfl) trivial) (rg0 (by kernel_rfl)) fun x=>by kernel_rfl
noncomputable def qKA:Code:=Tryz.f51.body.getD .skip
theorem qJC:FnF Tryz.prog 51 Tryz.f51 qKA:=⟨qj,by kernel_rfl,by kernel_rfl,by kernel_rfl⟩
def qLZ:TH:={ live:=[(0,[0,2]),(1,[2])] }
def qLG (N:Nat):List Ent:=[qpJ N]
theorem qGc (N:Nat):qT Tryz.prog (qLG N):=⟨qmh N,trivial⟩
def qJ0 (z:Vector UInt8 32):TV×THp:=(.tv (.ba 32) z,[])
def qtO (N:Nat) (a0:List UInt8):Tree (Vector UInt8 32):=
 .chk (qqn (a0:List UInt8).length) <|
 .bind (X8 N a0) fun r1=>
 .ret r1
def qfa (N:Nat) (a0:List UInt8):Option (Vector UInt8 32):=(qtO N a0).run some
def qK1 (N:Nat):List (Nat×qD):=[]
def qh0 (N:Nat):Ent:=smF ⟨51,[],[.x .s],[],[]⟩ [.s] (Vector UInt8 32) (fun x=>qfa N x.1) cs1 fun _=>qJ0
theorem qiB (N:Nat):ze Tryz.prog (qh0 N):=
 zd (H:=qLZ) (L:=qL (qK1 N)) (ts:=[.s]) (T:=fun x=>qtO N x.1) 0 qJC (qGc N) (qo (by kernel_rfl) trivial) (rg0 (by kernel_rfl)) fun x=>by kernel_rfl
noncomputable def qIa:Code:=Tryz.f137.body.getD .skip
theorem qIn:FnF Tryz.prog 137 Tryz.f137 qIa:=⟨qj,by kernel_rfl,by kernel_rfl,by kernel_rfl⟩
def qCT:TH:={ live:=[(0,[0,1]),(1,[4])] }
def qCR (N:Nat):List Ent:=[]
theorem qyL (N:Nat):qT Tryz.prog (qCR N):=trivial
def qDp (z:Int):TV×THp:=(.tv (.i .u32) z,[])
def qjr (a0:Int) (a1:Int):Tree (Int):=
 .chk (0≤(16:Int)) <|
 let w1:Int:=uOr .u32 (qc5 .u32 (IntKind.u32.wrap a1) 16) (IntKind.u32.wrap a0)
 .ret w1
def qpn (a0:Int) (a1:Int):Option (Int):=(qjr a0 a1).run some
def qDv:List (Nat×qD):=[]
def qsl:Ent:=smF ⟨137,[],[.x (.i .u16),.x (.i .u16)],[],[]⟩ [(.i .u16),(.i .u16)] (Int) (fun x=>qpn x.1 x.2.1) cs1 fun _=>qDp
theorem qCJ:ze Tryz.prog (qsl):=
 zd (H:=qCT) (L:=qL (qDv)) (ts:=[(.i .u16),(.i .u16)]) (T:=fun x=>qjr x.1 x.2.1) 0 qIn (qyL 0) (qo (by kernel_rfl) trivial) (rg0 (by kernel_rfl)) fun x=>by kernel_rfl
noncomputable def qp8:Code:=Tryz.f115.body.getD .skip
theorem qJr:FnF Tryz.prog 115 Tryz.f115 qp8:=⟨qj,by kernel_rfl,by kernel_rfl,by kernel_rfl⟩
def qmX:TH:={ live:=[(0,[0]),(1,[0,3,4]),(2,[0,3,4,7,8]),(3,[0,3,4,7,8,9]),(4,[0,3,4,5,7,8]),(5,[0,3,4,7,8]),(6,[0,3,4,7,8]),(7,[0,3,4,7,8]),(8,[2])] }
def qt1 (N:Nat):List Ent:=[qsl]
theorem qpr (N:Nat):qT Tryz.prog (qt1 N):=⟨qCJ,trivial⟩
abbrev qbm:=List UInt8×Int
abbrev V2:=Int×Int×Int×Bool
def Yz (f:qbm) (y:V2):Ex×TSt:=(.exit 0,⟨0,24,[],[(0,.tv .s f.1),(3,.tv (.i .u16) (y.1:Int)),(4,.tv (.i .u16) (y.2.1:Int)),(7,xi f.2),(8,xi y.2.2.1),(9,xb y.2.2.2)],[],false,[]⟩)
def qzM (N:Nat):List (Nat×qD):=[]
abbrev YE:=Int×Int×Int
def qnu:SP:=⟨0,24,[],[(0,.x .s),(3,.x (.i .u16)),(4,.x (.i .u16)),(7,.x (.i .i64)),(8,.x (.i .i64))],[],false,[]⟩
def qyX (f:qbm) (v:YE):TSt:=zJ qnu [dv .s f.1,dv (.i .u16) v.1,dv (.i .u16) v.2.1,dv (.i .i64) f.2,dv (.i .i64) v.2.2]
def qbh (N:Nat) (s0_3:List UInt8) (s7_3:Int) (v:YE):Tree (YE⊕V2):=
 .cond (decide (v.2.2 < s7_3)) (
 .bind (zh s0_3 v.2.2) fun e1=>
 let w2:Int:=IntKind.u16.wrap ((e1.toNat:Nat):Int)
 .chk (qt (v.2.2 + 1)) <|
 .ret (.inl (XD .u16 v.1 w2,XD .u16 v.2.1 (XD .u16 v.1 w2),v.2.2 + 1))) <|
 .ret (.inr (v.1,v.2.1,v.2.2,decide (v.2.2 < s7_3)))
def qnm (N n:Nat) (f:qbm) (v:YE):Option V2:=qY (qbh N f.1 f.2) some n v
theorem qy7 (N:Nat) (f:qbm) (n:Nat) (v:YE) (y:V2) (h:qnm N n f v=some y):LG Tryz.prog qmX 115 (qS qp8 3) (qyX f v) (Yz f y):=
 zw qj (E:=qt1 N) (L:=qL (qzM N)) (st:=Yz f) (g:=some) (R:=Yz f) (qpr N) (qo (by kernel_rfl) trivial) (rg0 (by kernel_rfl)) (fun v=>by kernel_rfl) (q6 (st:=Yz f) fun y=>by rfl) n v y h
def qjo (N:Nat) (s0_3:List UInt8) (s7_3:Int) (s3_3:Int) (s4_3:Int) (s8_3:Int):Option V2:=qnm N N (s0_3,s7_3) (s3_3,s4_3,s8_3)
def qnt (N:Nat):qD:=smL qnu [.s,(.i .u16),(.i .u16),(.i .i64),(.i .i64)] V2 (fun x=>qjo N x.1 x.2.2.2.1 x.2.1 x.2.2.1 x.2.2.2.2.1) cs1 fun x=>Yz (x.1,x.2.2.2.1)
theorem qxy (N:Nat):jG Tryz.prog qmX 115 (qS qp8 3) (qnt N):=zI fun x z h=>qy7 N (x.1,x.2.2.2.1) N (x.2.1,x.2.2.1,x.2.2.2.2.1) z h
def qGb (z:Int):TV×THp:=(.tv (.i .u32) z,[])
def qlQ (N:Nat) (a0:List UInt8):Tree (Int):=
 .bind (qjo N a0 ((a0.length:Nat):Int) 0 0 0) fun z1=>
 .bind (qpn z1.1 z1.2.1) fun r2=>
 .ret r2
def qmT (N:Nat) (a0:List UInt8):Option (Int):=(qlQ N a0).run some
def qFL (N:Nat):List (Nat×qD):=[(3,qnt N)]
def qum (N:Nat):Ent:=smF ⟨115,[],[.x .s],[],[]⟩ [.s] (Int) (fun x=>qmT N x.1) cs1 fun _=>qGb
theorem qC5 (N:Nat):ze Tryz.prog (qum N):=
 zd (H:=qmX) (L:=qL (qFL N)) (ts:=[.s]) (T:=fun x=>qlQ N x.1) 0 qJr (qpr N) (qo (by kernel_rfl) ⟨qxy N,trivial⟩) (rg0 (by kernel_rfl)) fun x=>by kernel_rfl
noncomputable def qLV:Code:=Tryz.f86.body.getD .skip
theorem qKj:FnF Tryz.prog 86 Tryz.f86 qLV:=⟨qj,by kernel_rfl,by kernel_rfl,by kernel_rfl⟩
def qE_:TH:={ live:=[(0,[0,2]),(1,[2])] }
def qFg (N:Nat):List Ent:=[qum N,qh0 N]
theorem qBv (N:Nat):qT Tryz.prog (qFg N):=⟨qC5 N,qiB N,trivial⟩
def qFT (z:q_):TV×THp:=(.tv vG z,[])
def qlR (N:Nat) (a0:List UInt8):Tree (q_):=
 .bind (qmT N a0) fun r1=>
 .bind (qfa N a0) fun r2=>
 .ret (q_.mk r1 r2)
def qmi (N:Nat) (a0:List UInt8):Option (q_):=(qlR N a0).run some
def qE9 (N:Nat):List (Nat×qD):=[]
def quz (N:Nat):Ent:=smF ⟨86,[],[.x .s],[],[]⟩ [.s] (q_) (fun x=>qmi N x.1) cs1 fun _=>qFT
theorem qDV (N:Nat):ze Tryz.prog (quz N):=
 zd (H:=qE_) (L:=qL (qE9 N)) (ts:=[.s]) (T:=fun x=>qlR N x.1) 0 qKj (qBv N) (qo (by kernel_rfl) trivial) (rg0 (by kernel_rfl)) fun x=>by kernel_rfl
noncomputable def qsW:Code:=Tryz.f52.body.getD .skip
theorem qLr:FnF Tryz.prog 52 Tryz.f52 qsW:=⟨qj,by kernel_rfl,by kernel_rfl,by kernel_rfl⟩
def qqf:TH:={ live:=[(0,[0]),(1,[0,6]),(2,[2]),(3,[0,3]),(4,[0,3,9]),(5,[0,3]),(6,[0,3]),(7,[2])],nil:=[(3,[⟨.sl 3,35,(.sl 33 vG)⟩])] }
def qx2 (N:Nat):List Ent:=[quz N]
theorem qrS (N:Nat):qT Tryz.prog (qx2 N):=⟨qDV N,trivial⟩
abbrev qcW:=Unit
abbrev Ws:=List q_×List UInt8×Bool
def Ky (f:qcW) (y:Ws):Ex×TSt:=(.exit 0,⟨0,19,[],[(0,.tv .s (y.2.1:List UInt8)),(3,.v 35 y.1.length),(9,xb y.2.2)],[(35,.vec false 33 (.sl 33 vG) (y.1:List q_))],false,[]⟩)
def qCi (N:Nat):List (Nat×qD):=[]
abbrev KR:=List q_×List UInt8
def qpv:SP:=⟨0,19,[],[(0,.x .s),(3,.vs 35)],[(35,.vec false 33)],false,[]⟩
def qB_ (f:qcW) (v:KR):TSt:=zJ qpv [dv (.sl 33 vG) v.1,dv .s v.2]
def qc2 (N:Nat) (v:KR):Tree (KR⊕Ws):=
 .cond (decide (((8:Int))≤((v.2.length:Nat):Int))) (
 .chk (0≤(0:Int)∧(0:Int)≤(8:Int)∧(8:Int)≤((v.2.length:Nat):Int)) <|
 .bind (qmi N ((v.2.take 8).drop 0)) fun r1=>
 .chk (jF v.1.length v.1.length ((v.1++[r1]).length) 36) <|
 .chk (0≤(8:Int)∧(8:Int)≤((v.2.length:Nat):Int)) <|
 .ret (.inl (v.1++[r1],v.2.drop 8))) <|
 .ret (.inr (v.1,v.2,decide (((8:Int))≤((v.2.length:Nat):Int))))
def qqb (N n:Nat) (f:qcW) (v:KR):Option Ws:=qY (qc2 N) some n v
theorem qz6 (N:Nat) (f:qcW) (n:Nat) (v:KR) (y:Ws) (h:qqb N n f v=some y):LG Tryz.prog qqf 52 (qS qsW 4) (qB_ f v) (Ky f y):=
 zw qj (E:=qx2 N) (L:=qL (qCi N)) (st:=Ky f) (g:=some) (R:=Ky f) (qrS N) (qo (by kernel_rfl) trivial) (rg0 (by kernel_rfl)) (fun v=>by kernel_rfl) (q6 (st:=Ky f) fun y=>by rfl) n v y h
def qlA (N:Nat) (o_4:List q_) (s0_4:List UInt8):Option Ws:=qqb N N () (o_4,s0_4)
def qoZ (N:Nat):qD:=smL qpv [(.sl 33 vG),.s] Ws (fun x=>qlA N x.1 x.2.1) cs1 fun x=>Ky ()
theorem qzE (N:Nat):jG Tryz.prog qqf 52 (qS qsW 4) (qoZ N):=zI fun x z h=>qz6 N () N (x.1,x.2.1) z h
def qHU (z:List q_):TV×THp:=(.tv (.sl 33 vG) z,[])
def qn7 (N:Nat) (a0:List UInt8):Tree (List q_):=
 .cond (decide (((a0.length:Nat):Int) < ((24:Int)))) (
 .ret []) <|
 .bind (je [(([]:List q_).length,0)] (qlA N [] a0)) fun z1=>
 .chk (z1.1.length=z1.1.length) <|
 .ret z1.1
def qqJ (N:Nat) (a0:List UInt8):Option (List q_):=(qn7 N a0).run some
def qJk (N:Nat):List (Nat×qD):=[(4,qoZ N)]
def qyi (N:Nat):Ent:=smF ⟨52,[],[.x .s],[],[]⟩ [.s] (List q_) (fun x=>qqJ N x.1) cs1 fun _=>qHU
theorem qGi (N:Nat):ze Tryz.prog (qyi N):=
 zd (H:=qqf) (L:=qL (qJk N)) (ts:=[.s]) (T:=fun x=>qn7 N x.1) 0 qLr (qrS N) (qo (by kernel_rfl) ⟨qzE N,trivial⟩) (rg0 (by kernel_rfl)) fun x=>by kernel_rfl
noncomputable def qhW:Code:=Tryz.f21.body.getD .skip
theorem qKH:FnF Tryz.prog 21 Tryz.f21 qhW:=⟨qj,by kernel_rfl,by kernel_rfl,by kernel_rfl⟩
def Yq:TH:={ live:=[(0,[1,2]),(1,[1,2,13]),(2,[2,3]),(3,[1,2,4]),(4,[2,4,19,20,21]),(5,[2,4,19,20,21,22]),(6,[2,4,6,19,20,21]),(7,[2,4,6,7,19,20,21]),(8,[2,4,7,19,20,21,31,32,33]),(9,[2,4,7,19,20,21,31,32,33,34]),(10,[2,4,7,9,19,20,21,31,32,33]),(11,[2,4,7,9,10,19,20,21,31,32,33]),(12,[2,4,7,19,20,21,31,32,33]),(13,[2,4,7,19,20,21,31,32,33]),(14,[2,4,19,20,21]),(15,[2,4,19,20,21]),(16,[2,3])],nil:=[(0,[⟨.ob 20 [1],24,(.sl 19 qP)⟩]),(2,[⟨.ob 20 [1],24,(.sl 19 qP)⟩]),(3,[⟨.ob 40 [1],44,(.sl 19 qP)⟩]),(7,[⟨.ob 70 [2],75,(.sl 37 qZ)⟩])] }
def qfG (N:Nat):List Ent:=[qcB N,qkH N,qh0 N,qyi N]
theorem qc4 (N:Nat):qT Tryz.prog (qfG N):=⟨qep N,quY N,qiB N,qGi N,trivial⟩
abbrev W_:=List ql×List ql×Vector UInt8 32×Vector UInt8 32×Vector UInt8 16×qc×List qa×Int×Int×List qb×Int
abbrev ZP:=List qn×Int×Bool
def VJ (f:W_) (y:ZP):Ex×TSt:=(.exit 2,⟨0,66,[],[(2,.p 20 [] 0),(4,.p 40 [] 0),(7,.p 70 [] 0),(19,.tv (.sl 19 qf) f.2.2.2.2.2.2.1),(20,xi f.2.2.2.2.2.2.2.1),(21,xi f.2.2.2.2.2.2.2.2.1),(31,.tv (.sl 4 qx) f.2.2.2.2.2.2.2.2.2.1),(32,xi f.2.2.2.2.2.2.2.2.2.2),(33,xi y.2.1),(34,xb y.2.2)],[(20,.cell false (.ag [.tv (.ba 32) f.2.2.1,.v 24 f.1.length])),(24,.vec false 19 (.sl 19 qP) f.1),(40,.cell false (.ag [.tv (.ba 32) f.2.2.2.1,.v 44 f.2.1.length])),(44,.vec false 19 (.sl 19 qP) f.2.1),(70,.cell false (.ag [.tv (.ba 16) f.2.2.2.2.1,.tv qi f.2.2.2.2.2.1,.v 75 y.1.length])),(75,.vec false 37 (.sl 37 qZ) (y.1:List qn))],false,[]⟩)
def qsw (N:Nat):List (Nat×qD):=[]
abbrev Vu:=List qn×Int
def qg_:SP:=⟨0,66,[],[(2,.k (.p 20 [] 0)),(4,.k (.p 40 [] 0)),(7,.k (.p 70 [] 0)),(19,.x (.sl 19 qf)),(20,.x (.i .i64)),(21,.x (.i .i64)),(31,.x (.sl 4 qx)),(32,.x (.i .i64)),(33,.x (.i .i64))],[(20,.cell false (.ag [.x (.ba 32),.vs 24])),(24,.vec false 19),(40,.cell false (.ag [.x (.ba 32),.vs 44])),(44,.vec false 19),(70,.cell false (.ag [.x (.ba 16),.x qi,.vs 75])),(75,.vec false 37)],false,[]⟩
def qtI (f:W_) (v:Vu):TSt:=zJ qg_ [dv (.sl 19 qP) f.1,dv (.sl 19 qP) f.2.1,dv (.sl 37 qZ) v.1,dv (.ba 32) f.2.2.1,dv (.ba 32) f.2.2.2.1,dv (.ba 16) f.2.2.2.2.1,dv qi f.2.2.2.2.2.1,dv (.sl 19 qf) f.2.2.2.2.2.2.1,dv (.i .i64) f.2.2.2.2.2.2.2.1,dv (.i .i64) f.2.2.2.2.2.2.2.2.1,dv (.sl 4 qx) f.2.2.2.2.2.2.2.2.2.1,dv (.i .i64) f.2.2.2.2.2.2.2.2.2.2,dv (.i .i64) v.2]
def WW (N:Nat) (o_9:List ql) (o_9_2:List ql) (o_9_4:Vector UInt8 32) (o_9_5:Vector UInt8 32) (o_9_6:Vector UInt8 16) (o_9_7:qc) (s19_9:List qa) (s20_9:Int) (s21_9:Int) (s31_9:List qb) (s32_9:Int) (v:Vu):Tree (Vu⊕ZP):=
 .cond (decide (v.2 < s32_9)) (
 .bind (zh s31_9 v.2) fun e1=>
 .bind (qfa N (qd.V (qb.C e1))) fun r2=>
 .bind (qqJ N (qd.V (qb.C e1))) fun r3=>
 .chk (jF v.1.length v.1.length ((v.1++[qn.mk (qb.No e1) (qd.S (qb.C e1)) (((qd.V (qb.C e1)).length:Nat):Int) r2 r3]).length) 88) <|
 .chk (qt (v.2 + 1)) <|
 .ret (.inl (v.1++[qn.mk (qb.No e1) (qd.S (qb.C e1)) (((qd.V (qb.C e1)).length:Nat):Int) r2 r3],v.2 + 1))) <|
 .ret (.inr (v.1,v.2,decide (v.2 < s32_9)))
def qho (N n:Nat) (f:W_) (v:Vu):Option ZP:=qY (WW N f.1 f.2.1 f.2.2.1 f.2.2.2.1 f.2.2.2.2.1 f.2.2.2.2.2.1 f.2.2.2.2.2.2.1 f.2.2.2.2.2.2.2.1 f.2.2.2.2.2.2.2.2.1 f.2.2.2.2.2.2.2.2.2.1 f.2.2.2.2.2.2.2.2.2.2) some n v
theorem qtU (N:Nat) (f:W_) (n:Nat) (v:Vu) (y:ZP) (h:qho N n f v=some y):LG Tryz.prog Yq 21 (qS (qS qhW 5) 9) (qtI f v) (VJ f y):=
 zw qj (E:=qfG N) (L:=qL (qsw N)) (st:=VJ f) (g:=some) (R:=VJ f) (qc4 N) (qo (by kernel_rfl) trivial) (rg0 (by kernel_rfl)) (fun v=>by kernel_rfl) (q6 (st:=VJ f) fun y=>by rfl) n v y h
def qaj (N:Nat) (o_9:List ql) (o_9_2:List ql) (o_9_4:Vector UInt8 32) (o_9_5:Vector UInt8 32) (o_9_6:Vector UInt8 16) (o_9_7:qc) (s19_9:List qa) (s20_9:Int) (s21_9:Int) (s31_9:List qb) (s32_9:Int) (o_9_3:List qn) (s33_9:Int):Option ZP:=qho N N (o_9,o_9_2,o_9_4,o_9_5,o_9_6,o_9_7,s19_9,s20_9,s21_9,s31_9,s32_9) (o_9_3,s33_9)
def qgV (N:Nat):qD:=smL qg_ [(.sl 19 qP),(.sl 19 qP),(.sl 37 qZ),(.ba 32),(.ba 32),(.ba 16),qi,(.sl 19 qf),(.i .i64),(.i .i64),(.sl 4 qx),(.i .i64),(.i .i64)] ZP (fun x=>qaj N x.1 x.2.1 x.2.2.2.1 x.2.2.2.2.1 x.2.2.2.2.2.1 x.2.2.2.2.2.2.1 x.2.2.2.2.2.2.2.1 x.2.2.2.2.2.2.2.2.1 x.2.2.2.2.2.2.2.2.2.1 x.2.2.2.2.2.2.2.2.2.2.1 x.2.2.2.2.2.2.2.2.2.2.2.1 x.2.2.1 x.2.2.2.2.2.2.2.2.2.2.2.2.1) cs1 fun x=>VJ (x.1,x.2.1,x.2.2.2.1,x.2.2.2.2.1,x.2.2.2.2.2.1,x.2.2.2.2.2.2.1,x.2.2.2.2.2.2.2.1,x.2.2.2.2.2.2.2.2.1,x.2.2.2.2.2.2.2.2.2.1,x.2.2.2.2.2.2.2.2.2.2.1,x.2.2.2.2.2.2.2.2.2.2.2.1)
theorem qqQ (N:Nat):jG Tryz.prog Yq 21 (qS (qS qhW 5) 9) (qgV N):=zI fun x z h=>qtU N (x.1,x.2.1,x.2.2.2.1,x.2.2.2.2.1,x.2.2.2.2.2.1,x.2.2.2.2.2.2.1,x.2.2.2.2.2.2.2.1,x.2.2.2.2.2.2.2.2.1,x.2.2.2.2.2.2.2.2.2.1,x.2.2.2.2.2.2.2.2.2.2.1,x.2.2.2.2.2.2.2.2.2.2.2.1) N (x.2.2.1,x.2.2.2.2.2.2.2.2.2.2.2.2.1) z h
abbrev W5:=List ql×Vector UInt8 32×Vector UInt8 32×List qa×Int
abbrev ZV:=List ql×Int×Bool
def Vy (f:W5) (y:ZV):Ex×TSt:=(.exit 0,⟨0,66,[],[(2,.p 20 [] 0),(4,.p 40 [] 0),(19,.tv (.sl 19 qf) f.2.2.2.1),(20,xi f.2.2.2.2),(21,xi y.2.1),(22,xb y.2.2)],[(20,.cell false (.ag [.tv (.ba 32) f.2.1,.v 24 f.1.length])),(24,.vec false 19 (.sl 19 qP) f.1),(40,.cell false (.ag [.tv (.ba 32) f.2.2.1,.v 44 y.1.length])),(44,.vec false 19 (.sl 19 qP) (y.1:List ql))],false,[]⟩)
def qsp (N:Nat):List (Nat×qD):=[(9,qgV N)]
abbrev Vt:=List ql×Int
def qhU:SP:=⟨0,66,[],[(2,.k (.p 20 [] 0)),(4,.k (.p 40 [] 0)),(19,.x (.sl 19 qf)),(20,.x (.i .i64)),(21,.x (.i .i64))],[(20,.cell false (.ag [.x (.ba 32),.vs 24])),(24,.vec false 19),(40,.cell false (.ag [.x (.ba 32),.vs 44])),(44,.vec false 19)],false,[]⟩
def qtw (f:W5) (v:Vt):TSt:=zJ qhU [dv (.sl 19 qP) f.1,dv (.sl 19 qP) v.1,dv (.ba 32) f.2.1,dv (.ba 32) f.2.2.1,dv (.sl 19 qf) f.2.2.2.1,dv (.i .i64) f.2.2.2.2,dv (.i .i64) v.2]
def Yo (N:Nat) (o_5:List ql) (o_5_3:Vector UInt8 32) (o_5_4:Vector UInt8 32) (s19_5:List qa) (s20_5:Int) (v:Vt):Tree (Vt⊕ZV):=
 .cond (decide (v.2 < s20_5)) (
 .bind (zh s19_5 v.2) fun e1=>
 .bind (je [(o_5.length,o_5.length),(v.1.length,v.1.length),(([]:List qn).length,0)] (qaj N o_5 v.1 o_5_3 o_5_4 (qa.ID e1) (qa.qH e1) s19_5 s20_5 v.2 (qa.F e1) (((qa.F e1).length:Nat):Int) [] 0)) fun z2=>
 .chk (z2.1.length=z2.1.length) <|
 .chk (jF v.1.length v.1.length ((v.1++[ql.mk (qa.ID e1) (qa.qH e1) z2.1]).length) 56) <|
 .chk (qt (v.2 + 1)) <|
 .ret (.inl (v.1++[ql.mk (qa.ID e1) (qa.qH e1) z2.1],v.2 + 1))) <|
 .ret (.inr (v.1,v.2,decide (v.2 < s20_5)))
def qgU (N n:Nat) (f:W5) (v:Vt):Option ZV:=qY (Yo N f.1 f.2.1 f.2.2.1 f.2.2.2.1 f.2.2.2.2) some n v
theorem qsL (N:Nat) (f:W5) (n:Nat) (v:Vt) (y:ZV) (h:qgU N n f v=some y):LG Tryz.prog Yq 21 (qS qhW 5) (qtw f v) (Vy f y):=
 zw qj (E:=qfG N) (L:=qL (qsp N)) (st:=Vy f) (g:=some) (R:=Vy f) (qc4 N) (qo (by kernel_rfl) ⟨qqQ N,trivial⟩) (rg0 (by kernel_rfl)) (fun v=>by kernel_rfl) (q6 (st:=Vy f) fun y=>by rfl) n v y h
def qam (N:Nat) (o_5:List ql) (o_5_3:Vector UInt8 32) (o_5_4:Vector UInt8 32) (s19_5:List qa) (s20_5:Int) (o_5_2:List ql) (s21_5:Int):Option ZV:=qgU N N (o_5,o_5_3,o_5_4,s19_5,s20_5) (o_5_2,s21_5)
def qhs (N:Nat):qD:=smL qhU [(.sl 19 qP),(.sl 19 qP),(.ba 32),(.ba 32),(.sl 19 qf),(.i .i64),(.i .i64)] ZV (fun x=>qam N x.1 x.2.2.1 x.2.2.2.1 x.2.2.2.2.1 x.2.2.2.2.2.1 x.2.1 x.2.2.2.2.2.2.1) cs1 fun x=>Vy (x.1,x.2.2.1,x.2.2.2.1,x.2.2.2.2.1,x.2.2.2.2.2.1)
theorem qq6 (N:Nat):jG Tryz.prog Yq 21 (qS qhW 5) (qhs N):=zI fun x z h=>qsL N (x.1,x.2.2.1,x.2.2.2.1,x.2.2.2.2.1,x.2.2.2.2.2.1) N (x.2.1,x.2.2.2.2.2.2.1) z h
def qy4 (z:qk×Bool):TV×THp:=(.tup [.tv qw (z.1:qk),xb z.2],[])
def qbu (N:Nat) (a0:qe):Tree (qk×Bool):=
 .bind (Yg N a0) fun r1=>
 .cond (!r1) (
 .chk (0=0) <|
 .ret (qk.mk ((Vector.replicate 32 0)) [],false)) <|
 .bind (KG N a0) fun r2=>
 .bind (je [(([]:List ql).length,0),(([]:List ql).length,0)] (qam N [] ((Vector.replicate 32 0)) r2 (qe.R a0) (((qe.R a0).length:Nat):Int) [] 0)) fun z3=>
 .chk (z3.1.length=z3.1.length) <|
 .ret (qk.mk r2 z3.1,true)
def Vc (N:Nat) (a0:qe):Option (qk×Bool):=(qbu N a0).run some
def qyH (N:Nat):List (Nat×qD):=[(5,qhs N)]
def qm5 (N:Nat):Ent:=smF ⟨21,[],[.x qu],[],[]⟩ [qu] (qk×Bool) (fun x=>Vc N x.1) cs1 fun _=>qy4
theorem qw3 (N:Nat):ze Tryz.prog (qm5 N):=
 zd (H:=Yq) (L:=qL (qyH N)) (ts:=[qu]) (T:=fun x=>qbu N x.1) 0 qKH (qc4 N) (qo (by kernel_rfl) ⟨qq6 N,trivial⟩) (rg0 (by kernel_rfl)) fun x=>by kernel_rfl
noncomputable def qLj:Code:=Tryz.f87.body.getD .skip
theorem qLS:FnF Tryz.prog 87 Tryz.f87 qLj:=⟨qj,by kernel_rfl,by kernel_rfl,by kernel_rfl⟩
def qry:TH:={ live:=[(0,[0,1]),(1,[0,1,6]),(2,[0,1]),(3,[0,1]),(4,[0,1,16]),(5,[0]),(6,[4])],esc:=true,nil:=[(5,[⟨.sl 0,900000870,(.sl 19 qf)⟩])] }
def qrD (N:Nat):List Ent:=[]
theorem qnR (N:Nat):qT Tryz.prog (qrD N):=trivial
def qrt:Unit⊕Unit→TV×THp
 | .inl z=>(.v 900000870 0,[(900000870,.vec false 19 (.sl 19 qf) ([]:List qa))])
 | .inr z=>(.nils,[])
def XX (a0:Int):Tree (Unit⊕Unit):=
 .cond (decide (a0 < ((0:Int)))) (
 .no) <|
 .chk (qt a0) <|
 .cond (decide (((0:Int)) < a0)) (
 .chk (0 < a0∧a0.toNat * 56≤zc) <|
 .ret (.inl ())) <|
 .ret (.inr ())
def Jk (a0:Int):Option (Unit⊕Unit):=(XX a0).run some
def qrH:List (Nat×qD):=[]
def qf4:Ent:=smF ⟨87,[],[.k .nils,.x (.i .i64)],[],[]⟩ [(.i .i64)] (Unit⊕Unit) (fun x=>Jk x.1) (csS cs1) fun _=>qrt
theorem qp7:ze Tryz.prog (qf4):=
 zd (H:=qry) (L:=qL (qrH)) (ts:=[(.i .i64)]) (T:=fun x=>XX x.1) 0 qLS (qnR 0) (qo (by kernel_rfl) trivial) (rg0 (by kernel_rfl)) fun x=>by kernel_rfl
noncomputable def qhh:Code:=Tryz.f53.body.getD .skip
theorem qKi:FnF Tryz.prog 53 Tryz.f53 qhh:=⟨qj,by kernel_rfl,by kernel_rfl,by kernel_rfl⟩
def ZI:TH:={ live:=[(0,[0]),(1,[0,3]),(2,[0,3,9,10,11]),(3,[0,3,9,10,11,12]),(4,[0,3,5,9,10,11]),(5,[0,3,9,10,11]),(6,[0,3,9,10,11,20]),(7,[0,3,9,10,11]),(8,[0,3,9,10,11]),(9,[0,6]),(10,[6,25,26,27]),(11,[6,25,26,27,28]),(12,[6,8,25,26,27]),(13,[6,25,26,27]),(14,[6,25,26,27]),(15,[2])],raw:=[87],fresh:=[24],nil:=[(9,[⟨.sl 6,900000870,(.sl 19 qf)⟩])] }
def Y5 (N:Nat):List Ent:=[qf4]
theorem Wa (N:Nat):qT Tryz.prog (Y5 N):=⟨qp7,trivial⟩
abbrev Z1:=List (List qa)×List (List qa)×Int
abbrev vA:=Int×Int×Bool
def QC (f:Z1) (y:vA):Ex×TSt:=(.exit 0,⟨0,36,[],[(0,.tv (.sl 1 (.sl 19 qf)) f.1),(3,xi y.1),(9,.tv (.sl 1 (.sl 19 qf)) f.2.1),(10,xi f.2.2),(11,xi y.2.1),(12,xb y.2.2)],[],false,[]⟩)
def qj5 (N:Nat):List (Nat×qD):=[]
abbrev Qy:=Int×Int
def qa0:SP:=⟨0,36,[],[(0,.x (.sl 1 (.sl 19 qf))),(3,.x (.i .i64)),(9,.x (.sl 1 (.sl 19 qf))),(10,.x (.i .i64)),(11,.x (.i .i64))],[],false,[]⟩
def qj4 (f:Z1) (v:Qy):TSt:=zJ qa0 [dv (.sl 1 (.sl 19 qf)) f.1,dv (.i .i64) v.1,dv (.sl 1 (.sl 19 qf)) f.2.1,dv (.i .i64) f.2.2,dv (.i .i64) v.2]
def Z0 (N:Nat) (s0_3:List (List qa)) (s9_3:List (List qa)) (s10_3:Int) (v:Qy):Tree (Qy⊕vA):=
 .cond (decide (v.2 < s10_3)) (
 .bind (zh s9_3 v.2) fun e1=>
 .chk (qt (v.1 + ((e1.length:Nat):Int))) <|
 .cond (decide ((v.1 + ((e1.length:Nat):Int)) < 0)) (
 .no) <|
 .chk (qt (v.2 + 1)) <|
 .ret (.inl (v.1 + ((e1.length:Nat):Int),v.2 + 1))) <|
 .ret (.inr (v.1,v.2,decide (v.2 < s10_3)))
def qbd (N n:Nat) (f:Z1) (v:Qy):Option vA:=qY (Z0 N f.1 f.2.1 f.2.2) some n v
theorem qjK (N:Nat) (f:Z1) (n:Nat) (v:Qy) (y:vA) (h:qbd N n f v=some y):LG Tryz.prog ZI 53 (qS qhh 3) (qj4 f v) (QC f y):=
 zw qj (E:=Y5 N) (L:=qL (qj5 N)) (st:=QC f) (g:=some) (R:=QC f) (Wa N) (qo (by kernel_rfl) trivial) (rg0 (by kernel_rfl)) (fun v=>by kernel_rfl) (q6 (st:=QC f) fun y=>by rfl) n v y h
def WT (N:Nat) (s0_3:List (List qa)) (s9_3:List (List qa)) (s10_3:Int) (s3_3:Int) (s11_3:Int):Option vA:=qbd N N (s0_3,s9_3,s10_3) (s3_3,s11_3)
def qaZ (N:Nat):qD:=smL qa0 [(.sl 1 (.sl 19 qf)),(.i .i64),(.sl 1 (.sl 19 qf)),(.i .i64),(.i .i64)] vA (fun x=>WT N x.1 x.2.2.1 x.2.2.2.1 x.2.1 x.2.2.2.2.1) cs1 fun x=>QC (x.1,x.2.2.1,x.2.2.2.1)
theorem qh_ (N:Nat):jG Tryz.prog ZI 53 (qS qhh 3) (qaZ N):=zI fun x z h=>qjK N (x.1,x.2.2.1,x.2.2.2.1) N (x.2.1,x.2.2.2.2.1) z h
abbrev ZE:=List (List qa)×Int
abbrev vm:=List qa×Int×Bool
def Qh (f:ZE) (y:vm):Ex×TSt:=(.exit 2,⟨0,36,[],[(6,.v 900000870 y.1.length),(25,.tv (.sl 1 (.sl 19 qf)) f.1),(26,xi f.2),(27,xi y.2.1),(28,xb y.2.2)],[(900000870,.vec false 19 (.sl 19 qf) (y.1:List qa))],false,[]⟩)
def qh8 (N:Nat):List (Nat×qD):=[]
abbrev Qi:=List qa×Int
def qaz:SP:=⟨0,36,[],[(6,.vs 900000870),(25,.x (.sl 1 (.sl 19 qf))),(26,.x (.i .i64)),(27,.x (.i .i64))],[(900000870,.vec false 19)],false,[]⟩
def qh5 (f:ZE) (v:Qi):TSt:=zJ qaz [dv (.sl 19 qf) v.1,dv (.sl 1 (.sl 19 qf)) f.1,dv (.i .i64) f.2,dv (.i .i64) v.2]
def ZA (N:Nat) (s25_11:List (List qa)) (s26_11:Int) (v:Qi):Tree (Qi⊕vm):=
 .cond (decide (v.2 < s26_11)) (
 .bind (zh s25_11 v.2) fun e1=>
 .chk (jF v.1.length v.1.length ((v.1++e1).length) 56) <|
 .chk (qt (v.2 + 1)) <|
 .ret (.inl (v.1++e1,v.2 + 1))) <|
 .ret (.inr (v.1,v.2,decide (v.2 < s26_11)))
def qaC (N n:Nat) (f:ZE) (v:Qi):Option vm:=qY (ZA N f.1 f.2) some n v
theorem qh9 (N:Nat) (f:ZE) (n:Nat) (v:Qi) (y:vm) (h:qaC N n f v=some y):LG Tryz.prog ZI 53 (qS qhh 11) (qh5 f v) (Qh f y):=
 zw qj (E:=Y5 N) (L:=qL (qh8 N)) (st:=Qh f) (g:=some) (R:=Qh f) (Wa N) (qo (by kernel_rfl) trivial) (rg0 (by kernel_rfl)) (fun v=>by kernel_rfl) (q6 (st:=Qh f) fun y=>by rfl) n v y h
def Jw (N:Nat) (s25_11:List (List qa)) (s26_11:Int) (o_11:List qa) (s27_11:Int):Option vm:=qaC N N (s25_11,s26_11) (o_11,s27_11)
def qaD (N:Nat):qD:=smL qaz [(.sl 19 qf),(.sl 1 (.sl 19 qf)),(.i .i64),(.i .i64)] vm (fun x=>Jw N x.2.1 x.2.2.1 x.1 x.2.2.2.1) cs1 fun x=>Qh (x.2.1,x.2.2.1)
theorem qhO (N:Nat):jG Tryz.prog ZI 53 (qS qhh 11) (qaD N):=zI fun x z h=>qh9 N (x.2.1,x.2.2.1) N (x.1,x.2.2.2.1) z h
def qnN (z:List qa):TV×THp:=(.tv (.sl 19 qf) z,[])
def Y4 (N:Nat) (a0:List (List qa)):Tree (List qa):=
 .bind (WT N a0 a0 ((a0.length:Nat):Int) 0 0) fun z1=>
 .bind (Jk z1.1) fun r2=>
 .sum r2 (fun r3=>
 .bind (je [(([]:List qa).length,0)] (Jw N a0 ((a0.length:Nat):Int) [] 0)) fun z4=>
 .chk (z4.1.length=z4.1.length) <|
 .ret z4.1) fun r3=>
 .bind (je [(([]:List qa).length,0)] (Jw N a0 ((a0.length:Nat):Int) [] 0)) fun z4=>
 .chk (z4.1.length=z4.1.length) <|
 .ret z4.1
def XU (N:Nat) (a0:List (List qa)):Option (List qa):=(Y4 N a0).run some
def qnE (N:Nat):List (Nat×qD):=[(3,qaZ N),(11,qaD N)]
def qdv (N:Nat):Ent:=smF ⟨53,[],[.x (.sl 1 (.sl 19 qf))],[],[]⟩ [(.sl 1 (.sl 19 qf))] (List qa) (fun x=>XU N x.1) cs1 fun _=>qnN
theorem qmK (N:Nat):ze Tryz.prog (qdv N):=
 zd (H:=ZI) (L:=qL (qnE N)) (ts:=[(.sl 1 (.sl 19 qf))]) (T:=fun x=>Y4 N x.1) 0 qKi (Wa N) (qo (by kernel_rfl) ⟨qh_ N,qhO N,trivial⟩) (rg0 (by kernel_rfl)) fun x=>by kernel_rfl
noncomputable def qJQ:Code:=Tryz.f88.body.getD .skip
theorem qs0:FnF Tryz.prog 88 Tryz.f88 qJQ:=⟨qj,by kernel_rfl,by kernel_rfl,by kernel_rfl⟩
def qln:TH:={ live:=[(0,[0]),(1,[0,4]),(2,[2]),(3,[2])],vecs:=[5] }
def qlG (N:Nat):List Ent:=[]
theorem qjf (N:Nat):qT Tryz.prog (qlG N):=trivial
def qcU (a0:List qb) (z:Unit):TV×THp:=(.tv (.sl 4 qx) ((([]:List qb))++a0:List qb),[])
def W7 (a0:List qb):Tree (Unit):=
 .chk (List.isEmpty a0=false) <|
 .chk (jF ((([]:List qb)).length) 0 (((([]:List qb))++a0).length) 40) <|
 .chk (((([]:List qb))++a0).length=((([]:List qb))++a0).length) <|
 .ret ()
def Kp (a0:List qb):Option (Unit):=(W7 a0).run some
def ql0:List (Nat×qD):=[]
theorem qjc:W2 Tryz.prog ⟨88,[],[.x (.sl 4 qx)],[],[]⟩ [(.sl 4 qx)] (fun x=>W7 x.1) (fun x=>qcU x.1):=
 VB (H:=qln) (L:=qL (ql0)) 0 qs0 (qjf 0) (qo (by kernel_rfl) trivial) (rg0 (by kernel_rfl)) fun x=>by kernel_rfl
def qjb:TH:={ live:=[(0,[0]),(1,[0,4]),(2,[2]),(3,[2])],vecs:=[5] }
def qka (N:Nat):List Ent:=[]
theorem qhw (N:Nat):qT Tryz.prog (qka N):=trivial
def qjT (z:Unit):TV×THp:=(.tv (.sl 4 qx) ([]:List qb),[])
def qa1:Tree (Unit):=
 .chk (0=0) <|
 .chk (0=0) <|
 .ret ()
def qmy:Option (Unit):=(qa1).run some
def qjG:List (Nat×qD):=[]
theorem qh4:W2 Tryz.prog ⟨88,[],[.k (.es 0)],[],[]⟩ [] (fun x=>qa1) (fun _=>qjT):=
 VB (H:=qjb) (L:=qL (qjG)) 0 qs0 (qhw 0) (qo (by kernel_rfl) trivial) (rg0 (by kernel_rfl)) fun x=>by kernel_rfl
def qi_:TH:={ live:=[(0,[0]),(1,[0,4]),(2,[2]),(3,[2])],vecs:=[5] }
def qj3 (N:Nat):List Ent:=[]
theorem qgO (N:Nat):qT Tryz.prog (qj3 N):=trivial
def qjp (z:Unit):TV×THp:=(.tv (.sl 4 qx) ([]:List qb),[])
def qa5:Tree (Unit):=
 .ret ()
def qmB:Option (Unit):=(qa5).run some
def qjN:List (Nat×qD):=[]
theorem qhf:W2 Tryz.prog ⟨88,[],[.k (.es 1)],[],[]⟩ [] (fun x=>qa5) (fun _=>qjp):=
 VB (H:=qi_) (L:=qL (qjN)) 0 qs0 (qgO 0) (qo (by kernel_rfl) trivial) (rg0 (by kernel_rfl)) fun x=>by kernel_rfl
def qa2 (z:Unit):Unit:=()
def qjV (z:Unit):Unit:=()
def Qv (a0:List qb):Option (Unit):=
 bif a0.isEmpty then
  (qmy).bind fun z0=>(qmB).bind fun z1=>chk (qa2 z0=qjV z1) (some (qa2 z0))
 else Kp a0
def qbU:Ent:=smF ⟨88,[],[.x (.sl 4 qx)],[],[]⟩ [(.sl 4 qx)] (Unit) (fun x=>Qv x.1) cs1 fun x=>qcU x.1
theorem qke:ze Tryz.prog (qbU):=qe4 fun x z h l=>by
 obtain ⟨a0,_⟩:=x
 replace h:Qv a0=some z:=h
 unfold Qv at h
 rcases qeu h with ⟨e,h2⟩ | ⟨_,h2⟩<;>clear h
 ·have e:=List.isEmpty_iff.1 e
  subst e
  obtain ⟨z0,c0,h2⟩:=bind_some h2
  obtain ⟨z1,c1,h2⟩:=bind_some h2
  obtain ⟨hE,h2⟩:=qdN h2
  obtain rfl:=Option.some.inj h2
  refine qeB (t:=(.sl 4 qx)) (x:=[]) rfl (TV.ers []) (TV.ers []) (by exact qh4 (()) _ c0 l) ?_
  rw [hE]
  exact (by exact qhf (()) _ c1 l)
 ·exact qjc (a0,()) z h2 l
noncomputable def qLp:Code:=Tryz.f54.body.getD .skip
theorem qJx:FnF Tryz.prog 54 Tryz.f54 qLp:=⟨qj,by kernel_rfl,by kernel_rfl,by kernel_rfl⟩
def qGh:TH:={ live:=[(0,[1,2]),(1,[1,2]),(2,[2])],nil:=[(0,[⟨.ob 20 [2],25,(.sl 4 qx)⟩])] }
def qFB (N:Nat):List Ent:=[qbU]
theorem qAp (N:Nat):qT Tryz.prog (qFB N):=⟨qke,trivial⟩
def qFP (a0:qa) (z:Unit):TV×THp:=(.tv qf (qa.mk (qa.ID a0) (qa.qH a0) ((([]:List qb))++(qa.F a0))),[])
def qgs (a0:qa):Tree (Unit):=
 .bind (Qv (qa.F a0)) fun r1=>
 .ret ()
def qbL (a0:qa):Option (Unit):=(qgs a0).run some
def qGC:List (Nat×qD):=[]
def qmY:Ent:=smF ⟨54,[],[.x qf],[],[]⟩ [qf] (Unit) (fun x=>qbL x.1) cs1 fun x=>qFP x.1
theorem qr8:ze Tryz.prog (qmY):=
 zd (H:=qGh) (L:=qL (qGC)) (ts:=[qf]) (T:=fun x=>qgs x.1) 0 qJx (qAp 0) (qo (by kernel_rfl) trivial) (rg0 (by kernel_rfl)) fun x=>by kernel_rfl
noncomputable def qJj:Code:=Tryz.f147.body.getD .skip
theorem qHE:FnF Tryz.prog 147 Tryz.f147 qJj:=⟨qj,by kernel_rfl,by kernel_rfl,by kernel_rfl⟩
def qpZ:TH:={ live:=[(0,[2,3,4]),(1,[2,3,4,7]),(2,[6]),(3,[12]),(4,[6]),(5,[6])] }
def qpI (N:Nat):List Ent:=[Jf N]
theorem qmd (N:Nat):qT Tryz.prog (qpI N):=⟨JE N,trivial⟩
def qn5 (z:Int):TV×THp:=(xi z,[])
def KF (N:Nat) (a0:qc) (a1:qc):Tree (Int):=
 .bind (jT N a0 a1) fun r1=>
 .cond r1 (
 .ret (-1)) <|
 .bind (jT N a1 a0) fun r2=>
 .cond r2 (
 .ret 1) <|
 .ret 0
def W0 (N:Nat) (a0:qc) (a1:qc):Option (Int):=(KF N a0 a1).run some
def qoc (N:Nat):List (Nat×qD):=[]
def qe_ (N:Nat):Ent:=smF ⟨147,[],[.x qi,.x qi,.fn 28 [] []],[],[]⟩ [qi,qi] (Int) (fun x=>W0 N x.1 x.2.1) cs1 fun _=>qn5
theorem qnP (N:Nat):ze Tryz.prog (qe_ N):=
 zd (H:=qpZ) (L:=qL (qoc N)) (ts:=[qi,qi]) (T:=fun x=>KF N x.1 x.2.1) 0 qHE (qmd N) (qo (by kernel_rfl) trivial) (rg0 (by kernel_rfl)) fun x=>by kernel_rfl
noncomputable def qIX:Code:=Tryz.f146.body.getD .skip
theorem qH9:FnF Tryz.prog 146 Tryz.f146 qIX:=⟨qj,by kernel_rfl,by kernel_rfl,by kernel_rfl⟩
def qzm:TH:={ live:=[(0,[0,1]),(1,[2])] }
def qzz (N:Nat):List Ent:=[qe_ N]
theorem qvj (N:Nat):qT Tryz.prog (qzz N):=⟨qnP N,trivial⟩
def qzi (a0:qd) (a1:qd) (z:Int):TV×THp:=(xi z,[(20,.cell false (.tv qp a0)),(30,.cell false (.tv qp a1))])
def qfc (N:Nat) (a0:qd) (a1:qd):Tree (Int):=
 .bind (W0 N (qd.S a0) (qd.S a1)) fun r1=>
 .ret r1
def qej (N:Nat) (a0:qd) (a1:qd):Option (Int):=(qfc N a0 a1).run some
def qyW (N:Nat):List (Nat×qD):=[]
def qnA (N:Nat):Ent:=smF ⟨146,[],[],[.k (.p 20 [] 0),.k (.p 30 [] 0)],[(20,.cell false (.x qp)),(30,.cell false (.x qp))]⟩ [qp,qp] (Int) (fun x=>qej N x.1 x.2.1) cs1 fun x=>qzi x.1 x.2.1
theorem qwL (N:Nat):ze Tryz.prog (qnA N):=
 zd (H:=qzm) (L:=qL (qyW N)) (ts:=[qp,qp]) (T:=fun x=>qfc N x.1 x.2.1) 0 qH9 (qvj N) (qo (by kernel_rfl) trivial) (rg0 (by kernel_rfl)) fun x=>by kernel_rfl
noncomputable def qL8:Code:=Tryz.f83.body.getD .skip
theorem qMg:FnF Tryz.prog 83 Tryz.f83 qL8:=⟨qj,by kernel_rfl,by kernel_rfl,by kernel_rfl⟩
def qF9:TH:={ live:=[(0,[2,3]),(1,[4])],dec:=[8] }
def qFy (N:Nat):List Ent:=[Kl]
theorem qAM (N:Nat):qT Tryz.prog (qFy N):=⟨qbN,trivial⟩
def qFW (z:Bool):TV×THp:=(xb z,[])
def qmG (a0:Vector UInt8 32) (a1:Vector UInt8 32):Tree (Bool):=
 .cond (!(eqE (.ba 32) a0 a1)) (
 .bind (Yw a0.toList a1.toList) fun r1=>
 .ret (decide (r1 < ((0:Int))))) <|
 .ret false
def qdB (a0:Vector UInt8 32) (a1:Vector UInt8 32):Option (Bool):=(qmG a0 a1).run some
def qFC:List (Nat×qD):=[]
def qmz:Ent:=smF ⟨83,[],[.x (.ba 32),.x (.ba 32)],[],[]⟩ [(.ba 32),(.ba 32)] (Bool) (fun x=>qdB x.1 x.2.1) cs1 fun _=>qFW
theorem qrM:ze Tryz.prog (qmz):=
 zd (H:=qF9) (L:=qL (qFC)) (ts:=[(.ba 32),(.ba 32)]) (T:=fun x=>qmG x.1 x.2.1) 0 qMg (qAM 0) (qo (by kernel_rfl) trivial) (rg0 (by kernel_rfl)) fun x=>by kernel_rfl
noncomputable def qHA:Code:=Tryz.f149.body.getD .skip
theorem qIq:FnF Tryz.prog 149 Tryz.f149 qHA:=⟨qj,by kernel_rfl,by kernel_rfl,by kernel_rfl⟩
def qnK:TH:={ live:=[(0,[2,3,4]),(1,[2,3,4,7]),(2,[6]),(3,[12]),(4,[6]),(5,[6])] }
def qnO (N:Nat):List Ent:=[qmz]
theorem qkI (N:Nat):qT Tryz.prog (qnO N):=⟨qrM,trivial⟩
def qnX (z:Int):TV×THp:=(xi z,[])
def Y6 (a0:Vector UInt8 32) (a1:Vector UInt8 32):Tree (Int):=
 .bind (qdB a0 a1) fun r1=>
 .cond r1 (
 .ret (-1)) <|
 .bind (qdB a1 a0) fun r2=>
 .cond r2 (
 .ret 1) <|
 .ret 0
def XY (a0:Vector UInt8 32) (a1:Vector UInt8 32):Option (Int):=(Y6 a0 a1).run some
def qnJ:List (Nat×qD):=[]
def qds:Ent:=smF ⟨149,[],[.x (.ba 32),.x (.ba 32),.fn 83 [] []],[],[]⟩ [(.ba 32),(.ba 32)] (Int) (fun x=>XY x.1 x.2.1) cs1 fun _=>qnX
theorem qlO:ze Tryz.prog (qds):=
 zd (H:=qnK) (L:=qL (qnJ)) (ts:=[(.ba 32),(.ba 32)]) (T:=fun x=>Y6 x.1 x.2.1) 0 qIq (qkI 0) (qo (by kernel_rfl) trivial) (rg0 (by kernel_rfl)) fun x=>by kernel_rfl
noncomputable def qJb:Code:=Tryz.f148.body.getD .skip
theorem qHX:FnF Tryz.prog 148 Tryz.f148 qJb:=⟨qj,by kernel_rfl,by kernel_rfl,by kernel_rfl⟩
def qyP:TH:={ live:=[(0,[0,1]),(1,[2])] }
def qyy (N:Nat):List Ent:=[qh0 N,qds]
theorem qvg (N:Nat):qT Tryz.prog (qyy N):=⟨qiB N,qlO,trivial⟩
def qzp (a0:qd) (a1:qd) (z:Int):TV×THp:=(xi z,[(20,.cell false (.tv qp a0)),(30,.cell false (.tv qp a1))])
def qfv (N:Nat) (a0:qd) (a1:qd):Tree (Int):=
 .bind (qfa N (qd.V a0)) fun r1=>
 .bind (qfa N (qd.V a1)) fun r2=>
 .bind (XY r1 r2) fun r3=>
 .ret r3
def qer (N:Nat) (a0:qd) (a1:qd):Option (Int):=(qfv N a0 a1).run some
def qza (N:Nat):List (Nat×qD):=[]
def qm_ (N:Nat):Ent:=smF ⟨148,[],[],[.k (.p 20 [] 0),.k (.p 30 [] 0)],[(20,.cell false (.x qp)),(30,.cell false (.x qp))]⟩ [qp,qp] (Int) (fun x=>qer N x.1 x.2.1) cs1 fun x=>qzp x.1 x.2.1
theorem qxo (N:Nat):ze Tryz.prog (qm_ N):=
 zd (H:=qyP) (L:=qL (qza N)) (ts:=[qp,qp]) (T:=fun x=>qfv N x.1 x.2.1) 0 qHX (qvg N) (qo (by kernel_rfl) trivial) (rg0 (by kernel_rfl)) fun x=>by kernel_rfl
noncomputable def qG_:Code:=Tryz.f153.body.getD .skip
theorem qJi:FnF Tryz.prog 153 Tryz.f153 qG_:=⟨qj,by kernel_rfl,by kernel_rfl,by kernel_rfl⟩
def qpg:TH:={ live:=[(0,[0]),(1,[2])] }
def qo1 (N:Nat):List Ent:=[]
theorem qlB (N:Nat):qT Tryz.prog (qo1 N):=trivial
def qo2 (a0:List UInt8) (z:Unit):TV×THp:=(xb (!decide (a0=a0)),[])
def qe0 (a0:List UInt8):Tree (Unit):=
 .ret ()
def WY (a0:List UInt8):Option (Unit):=(qe0 a0).run some
def qpF:List (Nat×qD):=[]
def qeG:Ent:=smF ⟨153,[],[.x .s],[],[]⟩ [.s] (Unit) (fun x=>WY x.1) cs1 fun x=>qo2 x.1
theorem qn1:ze Tryz.prog (qeG):=
 zd (H:=qpg) (L:=qL (qpF)) (ts:=[.s]) (T:=fun x=>qe0 x.1) 0 qJi (qlB 0) (qo (by kernel_rfl) trivial) (rg0 (by kernel_rfl)) fun x=>by kernel_rfl
noncomputable def qG5:Code:=Tryz.f151.body.getD .skip
theorem qId:FnF Tryz.prog 151 Tryz.f151 qG5:=⟨qj,by kernel_rfl,by kernel_rfl,by kernel_rfl⟩
def qlz:TH:={ live:=[(0,[0,1]),(1,[0,1,5]),(2,[0,1,5,6]),(3,[0,1,6,11]),(4,[12]),(5,[4]),(6,[4]),(7,[0,1,13]),(8,[4]),(9,[0,1,16]),(10,[4]),(11,[19]),(12,[4]),(13,[4])] }
def qlC (N:Nat):List Ent:=[qeG]
theorem qjA (N:Nat):qT Tryz.prog (qlC N):=⟨qn1,trivial⟩
def qlK (z:Int):TV×THp:=(xi z,[])
def WQ (a0:List UInt8) (a1:List UInt8):Tree (Int):=
 .bind (WY a0) fun r1=>
 .bind (WY a1) fun r2=>
 .cond (!decide (a0=a0)) (
 .cond (!decide (a1=a1)) (
 .ret 0) <|
 .ret (-1)) <|
 .cond (!decide (a1=a1)) (
 .ret 1) <|
 .cond (Op.bytesLess a0 a1) (
 .ret (-1)) <|
 .cond (!(Op.bytesLess a0 a1||decide (a0=a1))) (
 .ret 1) <|
 .ret 0
def Xk (a0:List UInt8) (a1:List UInt8):Option (Int):=(WQ a0 a1).run some
def qmZ:List (Nat×qD):=[]
def qcS:Ent:=smF ⟨151,[],[.x .s,.x .s],[],[]⟩ [.s,.s] (Int) (fun x=>Xk x.1 x.2.1) cs1 fun _=>qlK
theorem qk9:ze Tryz.prog (qcS):=
 zd (H:=qlz) (L:=qL (qmZ)) (ts:=[.s,.s]) (T:=fun x=>WQ x.1 x.2.1) 0 qId (qjA 0) (qo (by kernel_rfl) trivial) (rg0 (by kernel_rfl)) fun x=>by kernel_rfl
noncomputable def qIK:Code:=Tryz.f150.body.getD .skip
theorem qHG:FnF Tryz.prog 150 Tryz.f150 qIK:=⟨qj,by kernel_rfl,by kernel_rfl,by kernel_rfl⟩
def qzo:TH:={ live:=[(0,[0,1]),(1,[2])] }
def qyB (N:Nat):List Ent:=[qcS]
theorem qvk (N:Nat):qT Tryz.prog (qyB N):=⟨qk9,trivial⟩
def qzL (a0:qd) (a1:qd) (z:Int):TV×THp:=(xi z,[(20,.cell false (.tv qp a0)),(30,.cell false (.tv qp a1))])
def qfi (a0:qd) (a1:qd):Tree (Int):=
 .bind (Xk (qd.V a0) (qd.V a1)) fun r1=>
 .ret r1
def qee (a0:qd) (a1:qd):Option (Int):=(qfi a0 a1).run some
def qzD:List (Nat×qD):=[]
def qnr:Ent:=smF ⟨150,[],[],[.k (.p 20 [] 0),.k (.p 30 [] 0)],[(20,.cell false (.x qp)),(30,.cell false (.x qp))]⟩ [qp,qp] (Int) (fun x=>qee x.1 x.2.1) cs1 fun x=>qzL x.1 x.2.1
theorem qwo:ze Tryz.prog (qnr):=
 zd (H:=qzo) (L:=qL (qzD)) (ts:=[qp,qp]) (T:=fun x=>qfi x.1 x.2.1) 0 qHG (qvk 0) (qo (by kernel_rfl) trivial) (rg0 (by kernel_rfl)) fun x=>by kernel_rfl
noncomputable def qbY:Code:=Tryz.f138.body.getD .skip
theorem qHK:FnF Tryz.prog 138 Tryz.f138 qbY:=⟨qj,by kernel_rfl,by kernel_rfl,by kernel_rfl⟩
def YT:TH:={ live:=[(0,[2,3]),(1,[5]),(2,[13,14]),(3,[13,14,15]),(4,[7,13,14]),(5,[8,13,14]),(6,[8,13,14,20]),(7,[4]),(8,[13,14]),(9,[4])] }
def qaV (N:Nat):List Ent:=[qnA N,qm_ N,qnr]
theorem YF (N:Nat):qT Tryz.prog (qaV N):=⟨qwL N,qxo N,qwo,trivial⟩
abbrev zB:=qd×qd
abbrev zH:=Bool⊕Unit
def zK (f:zB):zH→Ex×TSt
 | .inl y=>(.ret,⟨0,24,[],[(4,xb y)],[],false,[]⟩)
 | .inr y=>(.exit 0,⟨0,24,[],[(13,.ag [.fn (.func 146) [] [.p 20 [] 0,.p 30 [] 0],.fn (.func 148) [] [.p 20 [] 0,.p 30 [] 0],.fn (.func 150) [] [.p 20 [] 0,.p 30 [] 0]]),(14,.ic .i64 3),(15,.bc false)],[(20,.cell false (.tv qp f.1)),(30,.cell false (.tv qp f.2))],false,[]⟩)
def qau (N:Nat):List (Nat×qD):=[]
abbrev Zw:=Unit
def qq0:SP:=⟨0,24,[],[(13,.ag [.fn 146 [] [.k (.p 20 [] 0),.k (.p 30 [] 0)],.fn 148 [] [.k (.p 20 [] 0),.k (.p 30 [] 0)],.fn 150 [] [.k (.p 20 [] 0),.k (.p 30 [] 0)]]),(14,.k (.ic .i64 3))],[(20,.cell false (.x qp)),(30,.cell false (.x qp))],false,[]⟩
def qfY (f:zB) (v:Zw):TSt:=zJ qq0 [dv qp f.1,dv qp f.2]
def JN (N:Nat) (o_3:qd) (o_3_2:qd) (v:Zw):Tree (Zw⊕zH):=
 .ret (.inr (.inr ()))
def qfM (N n:Nat) (f:zB) (v:Zw):Option zH:=qY (JN N f.1 f.2) some n v
theorem qq_ (N:Nat) (f:zB) (n:Nat) (v:Zw) (y:zH) (h:qfM N n f v=some y):LG Tryz.prog YT 138 (qS qbY 3) (qfY f v) (zK f y):=
 zw qj (E:=qaV N) (L:=qL (qau N)) (st:=zK f) (g:=some) (R:=zK f) (YF N) (qo (by kernel_rfl) trivial) (rg0 (by kernel_rfl)) (fun v=>by kernel_rfl) (q6 (st:=zK f) fun y=>by rcases y with _ | _<;>rfl) n v y h
abbrev Zs:=Unit
def qrJ:SP:=⟨0,24,[],[(13,.ag [.fn 146 [] [.k (.p 20 [] 0),.k (.p 30 [] 0)],.fn 148 [] [.k (.p 20 [] 0),.k (.p 30 [] 0)],.fn 150 [] [.k (.p 20 [] 0),.k (.p 30 [] 0)]]),(14,.k (.ic .i64 2))],[(20,.cell false (.x qp)),(30,.cell false (.x qp))],false,[]⟩
def qfW (f:zB) (v:Zs):TSt:=zJ qrJ [dv qp f.1,dv qp f.2]
abbrev qaJ:=Zw⊕zH
def Zp (N:Nat) (o_3:qd) (o_3_2:qd) (v:Zs):Tree (Zs⊕qaJ):=
 .chk (0≤(2:Int)∧(2:Int) < ((3:Nat):Int)) <|
 .bind (qee o_3 o_3_2) fun r1=>
 .cond (!decide (r1=((0:Int)))) (
 .ret (.inr (.inr ((.inl (decide (r1 < ((0:Int))))))))) <|
 .ret (.inr (.inl ()))
def JV (N n:Nat) (f:zB):qaJ→Option zH
 | .inl w=>qfM N n f w
 | .inr w=>some w
def qq2 (f:zB):qaJ→Ex×TSt
 | .inl w=>(.normal,qfY f w)
 | .inr w=>zK f w
def qgb (N n:Nat) (f:zB) (v:Zs):Option zH:=qY (Zp N f.1 f.2) (JV N n f) n v
theorem qrL (N:Nat) (f:zB) (n:Nat) (v:Zs) (y:zH) (h:qgb N n f v=some y):LG Tryz.prog YT 138 (qS qbY 3) (qfW f v) (zK f y):=
 zw qj (E:=qaV N) (L:=qL (qau N)) (st:=qq2 f) (g:=(JV N n f)) (R:=zK f) (YF N) (qo (by kernel_rfl) trivial) (rg0 (by kernel_rfl)) (fun v=>by kernel_rfl) (fun w y h=>by
 rcases w with w | w
 ·exact qq_ N f n w y h
 ·exact q6 (st:=zK f) (fun y=>by rcases y with _ | _<;>rfl) w y h
) n v y h
abbrev Zu:=Unit
def qqO:SP:=⟨0,24,[],[(13,.ag [.fn 146 [] [.k (.p 20 [] 0),.k (.p 30 [] 0)],.fn 148 [] [.k (.p 20 [] 0),.k (.p 30 [] 0)],.fn 150 [] [.k (.p 20 [] 0),.k (.p 30 [] 0)]]),(14,.k (.ic .i64 1))],[(20,.cell false (.x qp)),(30,.cell false (.x qp))],false,[]⟩
def qf3 (f:zB) (v:Zu):TSt:=zJ qqO [dv qp f.1,dv qp f.2]
abbrev qaH:=Zs⊕zH
def Zm (N:Nat) (o_3:qd) (o_3_2:qd) (v:Zu):Tree (Zu⊕qaH):=
 .chk (0≤(1:Int)∧(1:Int) < ((3:Nat):Int)) <|
 .bind (qer N o_3 o_3_2) fun r1=>
 .cond (!decide (r1=((0:Int)))) (
 .ret (.inr (.inr ((.inl (decide (r1 < ((0:Int))))))))) <|
 .ret (.inr (.inl ()))
def JO (N n:Nat) (f:zB):qaH→Option zH
 | .inl w=>qgb N n f w
 | .inr w=>some w
def qrf (f:zB):qaH→Ex×TSt
 | .inl w=>(.normal,qfW f w)
 | .inr w=>zK f w
def qf1 (N n:Nat) (f:zB) (v:Zu):Option zH:=qY (Zm N f.1 f.2) (JO N n f) n v
theorem qrC (N:Nat) (f:zB) (n:Nat) (v:Zu) (y:zH) (h:qf1 N n f v=some y):LG Tryz.prog YT 138 (qS qbY 3) (qf3 f v) (zK f y):=
 zw qj (E:=qaV N) (L:=qL (qau N)) (st:=qrf f) (g:=(JO N n f)) (R:=zK f) (YF N) (qo (by kernel_rfl) trivial) (rg0 (by kernel_rfl)) (fun v=>by kernel_rfl) (fun w y h=>by
 rcases w with w | w
 ·exact qrL N f n w y h
 ·exact q6 (st:=zK f) (fun y=>by rcases y with _ | _<;>rfl) w y h
) n v y h
abbrev Wo:=Unit
def qkT:SP:=⟨0,24,[],[(13,.ag [.fn 146 [] [.k (.p 20 [] 0),.k (.p 30 [] 0)],.fn 148 [] [.k (.p 20 [] 0),.k (.p 30 [] 0)],.fn 150 [] [.k (.p 20 [] 0),.k (.p 30 [] 0)]]),(14,.k (.ic .i64 0))],[(20,.cell false (.x qp)),(30,.cell false (.x qp))],false,[]⟩
def qwK (f:zB) (v:Wo):TSt:=zJ qkT [dv qp f.1,dv qp f.2]
abbrev qd7:=Zu⊕zH
def qad (N:Nat) (o_3:qd) (o_3_2:qd) (v:Wo):Tree (Wo⊕qd7):=
 .chk (0≤(0:Int)∧(0:Int) < ((3:Nat):Int)) <|
 .bind (qej N o_3 o_3_2) fun r1=>
 .cond (!decide (r1=((0:Int)))) (
 .ret (.inr (.inr ((.inl (decide (r1 < ((0:Int))))))))) <|
 .ret (.inr (.inl ()))
def qd2 (N n:Nat) (f:zB):qd7→Option zH
 | .inl w=>qf1 N n f w
 | .inr w=>some w
def qwx (f:zB):qd7→Ex×TSt
 | .inl w=>(.normal,qf3 f w)
 | .inr w=>zK f w
def qkV (N n:Nat) (f:zB) (v:Wo):Option zH:=qY (qad N f.1 f.2) (qd2 N n f) n v
theorem qwf (N:Nat) (f:zB) (n:Nat) (v:Wo) (y:zH) (h:qkV N n f v=some y):LG Tryz.prog YT 138 (qS qbY 3) (qwK f v) (zK f y):=
 zw qj (E:=qaV N) (L:=qL (qau N)) (st:=qwx f) (g:=(qd2 N n f)) (R:=zK f) (YF N) (qo (by kernel_rfl) trivial) (rg0 (by kernel_rfl)) (fun v=>by kernel_rfl) (fun w y h=>by
 rcases w with w | w
 ·exact qrC N f n w y h
 ·exact q6 (st:=zK f) (fun y=>by rcases y with _ | _<;>rfl) w y h
) n v y h
def qcr (N:Nat) (o_3:qd) (o_3_2:qd):Option zH:=qkV N N (o_3,o_3_2) ()
def qkQ (N:Nat):qD:=smL qkT [qp,qp] zH (fun x=>qcr N x.1 x.2.1) (csS cs1) fun x=>zK (x.1,x.2.1)
theorem qvF (N:Nat):jG Tryz.prog YT 138 (qS qbY 3) (qkQ N):=zI fun x z h=>qwf N (x.1,x.2.1) N () z h
def qDT (z:Bool):TV×THp:=(xb z,[])
def qjZ (N:Nat) (a0:qd) (a1:qd):Tree (Bool):=
 .bind (qcr N a0 a1) fun z1=>
 .sum z1 (fun z2=>
 .ret z2) fun z2=>
 .ret false
def qiJ (N:Nat) (a0:qd) (a1:qd):Option (Bool):=(qjZ N a0 a1).run some
def qDf (N:Nat):List (Nat×qD):=[(3,qkQ N)]
def qr4 (N:Nat):Ent:=smF ⟨138,[],[.x qp,.x qp],[],[]⟩ [qp,qp] (Bool) (fun x=>qiJ N x.1 x.2.1) cs1 fun _=>qDT
theorem qBr (N:Nat):ze Tryz.prog (qr4 N):=
 zd (H:=YT) (L:=qL (qDf N)) (ts:=[qp,qp]) (T:=fun x=>qjZ N x.1 x.2.1) 0 qHK (YF N) (qo (by kernel_rfl) ⟨qvF N,trivial⟩) (rg0 (by kernel_rfl)) fun x=>by kernel_rfl
noncomputable def qHj:Code:=Tryz.f116.body.getD .skip
theorem qIO:FnF Tryz.prog 116 Tryz.f116 qHj:=⟨qj,by kernel_rfl,by kernel_rfl,by kernel_rfl⟩
def qC8:TH:={ live:=[(0,[2,3,4]),(1,[2,3,4,7]),(2,[4]),(3,[4])] }
def qDh (N:Nat):List Ent:=[qr4 N]
theorem qyw (N:Nat):qT Tryz.prog (qDh N):=⟨qBr N,trivial⟩
def qDS (z:qd):TV×THp:=(.tv qp z,[])
def qj_ (N:Nat) (a0:qd) (a1:qd):Tree (qd):=
 .bind (qiJ N a0 a1) fun r1=>
 .cond r1 (
 .ret a1) <|
 .ret a0
def qiX (N:Nat) (a0:qd) (a1:qd):Option (qd):=(qj_ N a0 a1).run some
def qDJ (N:Nat):List (Nat×qD):=[]
def qsi (N:Nat):Ent:=smF ⟨116,[],[.x qp,.x qp],[],[]⟩ [qp,qp] (qd) (fun x=>qiX N x.1 x.2.1) cs1 fun _=>qDS
theorem qAt (N:Nat):ze Tryz.prog (qsi N):=
 zd (H:=qC8) (L:=qL (qDJ N)) (ts:=[qp,qp]) (T:=fun x=>qj_ N x.1 x.2.1) 0 qIO (qyw N) (qo (by kernel_rfl) trivial) (rg0 (by kernel_rfl)) fun x=>by kernel_rfl
noncomputable def qtW:Code:=Tryz.f89.body.getD .skip
theorem qJE:FnF Tryz.prog 89 Tryz.f89 qtW:=⟨qj,by kernel_rfl,by kernel_rfl,by kernel_rfl⟩
def KP:TH:={ live:=[(0,[0,3]),(1,[0,9,10,11]),(2,[0,9,10,11,12]),(3,[0,5,9,10,11]),(4,[0,5,6,7,9,10,11]),(5,[0,5,6,9,10,11,22]),(6,[0,9,10,11]),(7,[0,9,10,11]),(8,[0,9,10,11])] }
def qe8 (N:Nat):List Ent:=[qsi N]
theorem qcw (N:Nat):qT Tryz.prog (qe8 N):=⟨qAt N,trivial⟩
abbrev Jq:=List qb×Int
abbrev vS:=Nat×List (Int×qd×Nat)×Int×Bool
def QX (f:Jq) (y:vS):Ex×TSt:=(.exit 0,⟨1,36,[250],[(0,.m 250),(9,.tv (.sl 4 qx) f.1),(10,xi f.2),(11,xi y.2.2.1),(12,xb y.2.2.2)],[(250,.map y.1 (.i .i64) qp (y.2.1:List (Int×qd×Nat)))],false,[]⟩)
def qkt (N:Nat):List (Nat×qD):=[]
abbrev QV:=Nat×List (Int×qd×Nat)×Int
def qb1:SP:=⟨1,36,[250],[(0,.k (.m 250)),(9,.x (.sl 4 qx)),(10,.x (.i .i64)),(11,.x (.i .i64))],[(250,.map (.i .i64) qp)],false,[]⟩
def qkM (f:Jq) (v:QV):TSt:=zJ qb1 [dv .nat v.1,dv (W6 (.i .i64) qp) v.2.1,dv (.sl 4 qx) f.1,dv (.i .i64) f.2,dv (.i .i64) v.2.2]
def QS (N:Nat) (s9_2:List qb) (s10_2:Int) (v:QV):Tree (QV⊕vS):=
 .cond (decide (v.2.2 < s10_2)) (
 .bind (zh s9_2 v.2.2) fun e1=>
 .opt (fnd (β:=qd) (.i .i64) (qb.No e1) v.2.1) (
 .chk (qt (v.2.2 + 1)) <|
 .ret (.inl ((Q7 (.i .i64) (qb.No e1) (qb.C e1) v.1 v.2.1).1,(Q7 (.i .i64) (qb.No e1) (qb.C e1) v.1 v.2.1).2,v.2.2 + 1))) fun e2=>
 .bind (qiX N e2.1 (qb.C e1)) fun r3=>
 .chk (qt (v.2.2 + 1)) <|
 .ret (.inl ((Q7 (.i .i64) (qb.No e1) r3 v.1 v.2.1).1,(Q7 (.i .i64) (qb.No e1) r3 v.1 v.2.1).2,v.2.2 + 1))) <|
 .ret (.inr (v.1,v.2.1,v.2.2,decide (v.2.2 < s10_2)))
def qb7 (N n:Nat) (f:Jq) (v:QV):Option vS:=qY (QS N f.1 f.2) some n v
theorem qkC (N:Nat) (f:Jq) (n:Nat) (v:QV) (y:vS) (h:qb7 N n f v=some y):LG Tryz.prog KP 89 (qS qtW 2) (qkM f v) (QX f y):=
 zw qj (E:=qe8 N) (L:=qL (qkt N)) (st:=QX f) (g:=some) (R:=QX f) (qcw N) (qo (by kernel_rfl) trivial) (rg0 (by kernel_rfl)) (fun v=>by kernel_rfl) (q6 (st:=QX f) fun y=>by rfl) n v y h
def Y3 (N:Nat) (s9_2:List qb) (s10_2:Int) (o_2:Nat) (o_2_2:List (Int×qd×Nat)) (s11_2:Int):Option vS:=qb7 N N (s9_2,s10_2) (o_2,o_2_2,s11_2)
def qca (N:Nat):qD:=smL qb1 [.nat,(W6 (.i .i64) qp),(.sl 4 qx),(.i .i64),(.i .i64)] vS (fun x=>Y3 N x.2.2.1 x.2.2.2.1 x.1 x.2.1 x.2.2.2.2.1) cs1 fun x=>QX (x.2.2.1,x.2.2.2.1)
theorem qi6 (N:Nat):jG Tryz.prog KP 89 (qS qtW 2) (qca N):=zI fun x z h=>qkC N (x.2.2.1,x.2.2.2.1) N (x.1,x.2.1,x.2.2.2.2.1) z h
def qpo (z:Nat×List (Int×qd×Nat)):TV×THp:=(.tup [],[(250,.map z.1 (.i .i64) qp (z.2:List (Int×qd×Nat)))])
def KQ (N:Nat) (a0:Nat) (a1:List (Int×qd×Nat)) (a2:qa):Tree (Nat×List (Int×qd×Nat)):=
 .bind (Y3 N (qa.F a2) (((qa.F a2).length:Nat):Int) a0 a1 0) fun z1=>
 .ret (z1.1,z1.2.1)
def Vs (N:Nat) (a0:Nat) (a1:List (Int×qd×Nat)) (a2:qa):Option (Nat×List (Int×qd×Nat)):=(KQ N a0 a1 a2).run some
def qp4 (N:Nat):List (Nat×qD):=[(2,qca N)]
def qeR (N:Nat):Ent:=smF ⟨89,[],[.k (.m 250),.x qf],[],[(250,.map (.i .i64) qp)]⟩ [.nat,(W6 (.i .i64) qp),qf] (Nat×List (Int×qd×Nat)) (fun x=>Vs N x.1 x.2.1 x.2.2.1) cs1 fun _=>qpo
theorem qnT (N:Nat):ze Tryz.prog (qeR N):=
 zd (H:=KP) (L:=qL (qp4 N)) (ts:=[.nat,(W6 (.i .i64) qp),qf]) (T:=fun x=>KQ N x.1 x.2.1 x.2.2.1) 0 qJE (qcw N) (qo (by kernel_rfl) ⟨qi6 N,trivial⟩) (rg0 (by kernel_rfl)) fun x=>by kernel_rfl
noncomputable def qLn:Code:=Tryz.f90.body.getD .skip
theorem qKn:FnF Tryz.prog 90 Tryz.f90 qLn:=⟨qj,by kernel_rfl,by kernel_rfl,by kernel_rfl⟩
def qDu:TH:={ live:=[(0,[2,3,4]),(1,[2,3,4,7]),(2,[4]),(3,[4])] }
def qDk (N:Nat):List Ent:=[Jf N]
theorem qzI (N:Nat):qT Tryz.prog (qDk N):=⟨JE N,trivial⟩
def qD0 (z:qc):TV×THp:=(.tv qi z,[])
def qjR (N:Nat) (a0:qc) (a1:qc):Tree (qc):=
 .bind (jT N a0 a1) fun r1=>
 .cond r1 (
 .ret a1) <|
 .ret a0
def qiF (N:Nat) (a0:qc) (a1:qc):Option (qc):=(qjR N a0 a1).run some
def qD4 (N:Nat):List (Nat×qD):=[]
def qrX (N:Nat):Ent:=smF ⟨90,[],[.x qi,.x qi],[],[]⟩ [qi,qi] (qc) (fun x=>qiF N x.1 x.2.1) cs1 fun _=>qD0
theorem qBH (N:Nat):ze Tryz.prog (qrX N):=
 zd (H:=qDu) (L:=qL (qD4 N)) (ts:=[qi,qi]) (T:=fun x=>qjR N x.1 x.2.1) 0 qKn (qzI N) (qo (by kernel_rfl) trivial) (rg0 (by kernel_rfl)) fun x=>by kernel_rfl
noncomputable def qLJ:Code:=Tryz.f91.body.getD .skip
theorem qJY:FnF Tryz.prog 91 Tryz.f91 qLJ:=⟨qj,by kernel_rfl,by kernel_rfl,by kernel_rfl⟩
def qlh:TH:={ live:=[(0,[2,3]),(1,[4])],esc:=true }
def qkK (N:Nat):List Ent:=[]
theorem qif (N:Nat):qT Tryz.prog (qkK N):=trivial
def qkz (a0:Nat) (a1:List (Int×qd×Nat)) (a2:qc) (z:Unit):TV×THp:=(.fn (.func 117) [] [.p 100020 [] 0,.p 100030 [] 0],[(250,.map a0 (.i .i64) qp a1),(100020,.cell false (.m 250)),(100030,.cell false (.tv qi a2))])
def qbR (a0:Nat) (a1:List (Int×qd×Nat)) (a2:qc):Tree (Unit):=
 .ret ()
def qdy (a0:Nat) (a1:List (Int×qd×Nat)) (a2:qc):Option (Unit):=(qbR a0 a1 a2).run some
def qk3:List (Nat×qD):=[]
def qbQ:Ent:=smF ⟨91,[],[.k (.m 250),.x qi],[],[(250,.map (.i .i64) qp)]⟩ [.nat,(W6 (.i .i64) qp),qi] (Unit) (fun x=>qdy x.1 x.2.1 x.2.2.1) cs1 fun x=>qkz x.1 x.2.1 x.2.2.1
theorem qjq:ze Tryz.prog (qbQ):=
 zd (H:=qlh) (L:=qL (qk3)) (ts:=[.nat,(W6 (.i .i64) qp),qi]) (T:=fun x=>qbR x.1 x.2.1 x.2.2.1) 0 qJY (qif 0) (qo (by kernel_rfl) trivial) (rg0 (by kernel_rfl)) fun x=>by kernel_rfl
def qor:TH:={ live:=[(0,[2,3,4]),(1,[2,3,4,23]),(2,[4,5]),(3,[2,3,4,6]),(4,[2,3,4,6]),(5,[2,3,4,6]),(6,[4,6,7]),(7,[4,7,43]),(8,[7,8]),(10,[4,5])],dec:=[12,17],fresh:=[43] }
def qp0 (N:Nat):List Ent:=[]
theorem qlN (N:Nat):qT Tryz.prog (qp0 N):=trivial
def qpb (a0:List qb) (a1:List qb) (a2:Nat) (a3:List (Int×qd×Nat)) (a4:Vector UInt8 16) (a5:qc) (a6:Vector UInt8 16) (a7:qc) (a8:qc) (a9:qb) (z:Unit):TV×THp:=(.bc true,[(40,.cell false (.ag [.tv (.ba 16) a4,.tv qi a5,.v 45 a0.length])),(45,.vec false 4 (.sl 4 qx) a0),(70,.cell false (.ag [.tv (.ba 16) a6,.tv qi a7,.v 75 ((a1++[a9]).length)])),(75,.vec false 4 (.sl 4 qx) (a1++[a9]:List qb)),(250,.map a2 (.i .i64) qp a3),(50080,.loop [44] 52 [(4,.p 40 [] 0),(7,.p 70 [] 0),(43,.fn (.func 117) [] [.p 100020 [] 0,.p 100030 [] 0])] 5500008 55 .ready none 50081),(50081,.dfr true),(100020,.cell false (.m 250)),(100030,.cell false (.tv qi a8))])
def K1 (a0:List qb) (a1:List qb) (a2:Nat) (a3:List (Int×qd×Nat)) (a4:Vector UInt8 16) (a5:qc) (a6:Vector UInt8 16) (a7:qc) (a8:qc) (a9:qb):Tree (Unit):=
 .chk (jF a1.length a1.length ((a1++[a9]).length) 40) <|
 .ret ()
def Ym (a0:List qb) (a1:List qb) (a2:Nat) (a3:List (Int×qd×Nat)) (a4:Vector UInt8 16) (a5:qc) (a6:Vector UInt8 16) (a7:qc) (a8:qc) (a9:qb):Option (Unit):=(K1 a0 a1 a2 a3 a4 a5 a6 a7 a8 a9).run some
def qqh:List (Nat×qD):=[]
def qeP:Ent:=smR 50080 [.x qx] [(40,.cell false (.ag [.x (.ba 16),.x qi,.vs 45])),(45,.vec false 4),(70,.cell false (.ag [.x (.ba 16),.x qi,.vs 75])),(75,.vec false 4),(250,.map (.i .i64) qp),(50080,.loop [44] 52 [(4,.k (.p 40 [] 0)),(7,.k (.p 70 [] 0)),(43,.fn 117 [] [.k (.p 100020 [] 0),.k (.p 100030 [] 0)])] 5500008 55 .ready none 50081),(50081,.dfr true),(100020,.cell false (.k (.m 250))),(100030,.cell false (.x qi))] [(.sl 4 qx),(.sl 4 qx),.nat,(W6 (.i .i64) qp),(.ba 16),qi,(.ba 16),qi,qi,qx] (Unit) (fun x=>Ym x.1 x.2.1 x.2.2.1 x.2.2.2.1 x.2.2.2.2.1 x.2.2.2.2.2.1 x.2.2.2.2.2.2.1 x.2.2.2.2.2.2.2.1 x.2.2.2.2.2.2.2.2.1 x.2.2.2.2.2.2.2.2.2.1) cs1 fun x=>qpb x.1 x.2.1 x.2.2.1 x.2.2.2.1 x.2.2.2.2.1 x.2.2.2.2.2.1 x.2.2.2.2.2.2.1 x.2.2.2.2.2.2.2.1 x.2.2.2.2.2.2.2.2.1 x.2.2.2.2.2.2.2.2.2.1
theorem qnD:ze Tryz.prog (qeP):=
 qGZ (H:=qor) (L:=qL (qqh)) (ts:=[(.sl 4 qx),(.sl 4 qx),.nat,(W6 (.i .i64) qp),(.ba 16),qi,(.ba 16),qi,qi,qx]) (T:=fun x=>K1 x.1 x.2.1 x.2.2.1 x.2.2.2.1 x.2.2.2.2.1 x.2.2.2.2.2.1 x.2.2.2.2.2.2.1 x.2.2.2.2.2.2.2.1 x.2.2.2.2.2.2.2.2.1 x.2.2.2.2.2.2.2.2.2.1) (K:=55) (cid:=5500008) 2 qj (qlN 0) (by kernel_rfl) (qo (by kernel_rfl) trivial) (rg0 (by kernel_rfl)) (rg0 (by kernel_rfl)) (fun x=>by kernel_rfl) fun x=>by kernel_rfl
noncomputable def qqc:Code:=Tryz.f117.body.getD .skip
theorem qJa:FnF Tryz.prog 117 Tryz.f117 qqc:=⟨qj,by kernel_rfl,by kernel_rfl,by kernel_rfl⟩
def VT:TH:={ live:=[(0,[0,1,2,7]),(1,[0,1,2,7,8]),(2,[0,1,2,4,7]),(3,[0,1,2,4,5,6,7]),(4,[0,1,2,7,30]),(5,[0,1,2,7])],dec:=[17,23] }
def qaB (N:Nat):List Ent:=[Jf N,qeP]
theorem Kd (N:Nat):qT Tryz.prog (qaB N):=⟨JE N,qnD,trivial⟩
abbrev QE:=List qb×Nat×List (Int×qd×Nat)×Vector UInt8 16×qc×Vector UInt8 16×qc×qc
abbrev jI:=List qb×Int×Bool
def vr (f:QE) (y:jI):Ex×TSt:=(.exit 0,⟨2,32,[40,45,70,75,250,50080,50081,100020,100030],[(0,.yl 50080),(1,.p 100020 [] 0),(2,.p 100030 [] 0),(7,xi y.2.1),(8,xb y.2.2)],[(40,.cell false (.ag [.tv (.ba 16) f.2.2.2.1,.tv qi f.2.2.2.2.1,.v 45 f.1.length])),(45,.vec false 4 (.sl 4 qx) f.1),(70,.cell false (.ag [.tv (.ba 16) f.2.2.2.2.2.1,.tv qi f.2.2.2.2.2.2.1,.v 75 y.1.length])),(75,.vec false 4 (.sl 4 qx) (y.1:List qb)),(250,.map f.2.1 (.i .i64) qp f.2.2.1),(50080,.loop [44] 52 [(4,.p 40 [] 0),(7,.p 70 [] 0),(43,.fn (.func 117) [] [.p 100020 [] 0,.p 100030 [] 0])] 5500008 55 .ready none 50081),(50081,.dfr true),(100020,.cell false (.m 250)),(100030,.cell false (.tv qi f.2.2.2.2.2.2.2))],false,[]⟩)
def qff (N:Nat):List (Nat×qD):=[]
abbrev vu:=List qb×Int
def YK:SP:=⟨2,32,[40,45,70,75,250,50080,50081,100020,100030],[(0,.k (.yl 50080)),(1,.k (.p 100020 [] 0)),(2,.k (.p 100030 [] 0)),(7,.x (.i .i64))],[(40,.cell false (.ag [.x (.ba 16),.x qi,.vs 45])),(45,.vec false 4),(70,.cell false (.ag [.x (.ba 16),.x qi,.vs 75])),(75,.vec false 4),(250,.map (.i .i64) qp),(50080,.loop [44] 52 [(4,.k (.p 40 [] 0)),(7,.k (.p 70 [] 0)),(43,.fn 117 [] [.k (.p 100020 [] 0),.k (.p 100030 [] 0)])] 5500008 55 .ready none 50081),(50081,.dfr true),(100020,.cell false (.k (.m 250))),(100030,.cell false (.x qi))],false,[]⟩
def qfu (f:QE) (v:vu):TSt:=zJ YK [dv (.sl 4 qx) f.1,dv (.sl 4 qx) v.1,dv .nat f.2.1,dv (W6 (.i .i64) qp) f.2.2.1,dv (.ba 16) f.2.2.2.1,dv qi f.2.2.2.2.1,dv (.ba 16) f.2.2.2.2.2.1,dv qi f.2.2.2.2.2.2.1,dv qi f.2.2.2.2.2.2.2,dv (.i .i64) v.2]
def QK (N:Nat) (o_1:List qb) (o_1_3:Nat) (o_1_4:List (Int×qd×Nat)) (o_1_5:Vector UInt8 16) (o_1_6:qc) (o_1_7:Vector UInt8 16) (o_1_8:qc) (o_1_9:qc) (v:vu):Tree (vu⊕jI):=
 .cond (decide (v.2 < ((8:Int)))) (
 .opt (fnd (β:=qd) (.i .i64) v.2 o_1_4) (
 .chk (qt (v.2 + 1)) <|
 .ret (.inl (v.1,v.2 + 1))) fun e1=>
 .bind (jT N o_1_9 (qd.S e1.1)) fun r2=>
 .cond r2 (
 .bind (je [(o_1.length,o_1.length),(v.1.length,v.1.length)] (Ym o_1 v.1 o_1_3 o_1_4 o_1_5 o_1_6 o_1_7 o_1_8 o_1_9 (qb.mk v.2 e1.1))) fun r3=>
 .chk (qt (v.2 + 1)) <|
 .ret (.inl (v.1++[qb.mk v.2 e1.1],v.2 + 1))) <|
 .chk (qt (v.2 + 1)) <|
 .ret (.inl (v.1,v.2 + 1))) <|
 .ret (.inr (v.1,v.2,decide (v.2 < ((8:Int)))))
def YJ (N n:Nat) (f:QE) (v:vu):Option jI:=qY (QK N f.1 f.2.1 f.2.2.1 f.2.2.2.1 f.2.2.2.2.1 f.2.2.2.2.2.1 f.2.2.2.2.2.2.1 f.2.2.2.2.2.2.2) some n v
theorem qfJ (N:Nat) (f:QE) (n:Nat) (v:vu) (y:jI) (h:YJ N n f v=some y):LG Tryz.prog VT 117 (qS qqc 1) (qfu f v) (vr f y):=
 zw qj (E:=qaB N) (L:=qL (qff N)) (st:=vr f) (g:=some) (R:=vr f) (Kd N) (qo (by kernel_rfl) trivial) (rg0 (by kernel_rfl)) (fun v=>by kernel_rfl) (q6 (st:=vr f) fun y=>by rfl) n v y h
def VH (N:Nat) (o_1:List qb) (o_1_3:Nat) (o_1_4:List (Int×qd×Nat)) (o_1_5:Vector UInt8 16) (o_1_6:qc) (o_1_7:Vector UInt8 16) (o_1_8:qc) (o_1_9:qc) (o_1_2:List qb) (s7_1:Int):Option jI:=YJ N N (o_1,o_1_3,o_1_4,o_1_5,o_1_6,o_1_7,o_1_8,o_1_9) (o_1_2,s7_1)
def YD (N:Nat):qD:=smL YK [(.sl 4 qx),(.sl 4 qx),.nat,(W6 (.i .i64) qp),(.ba 16),qi,(.ba 16),qi,qi,(.i .i64)] jI (fun x=>VH N x.1 x.2.2.1 x.2.2.2.1 x.2.2.2.2.1 x.2.2.2.2.2.1 x.2.2.2.2.2.2.1 x.2.2.2.2.2.2.2.1 x.2.2.2.2.2.2.2.2.1 x.2.1 x.2.2.2.2.2.2.2.2.2.1) cs1 fun x=>vr (x.1,x.2.2.1,x.2.2.2.1,x.2.2.2.2.1,x.2.2.2.2.2.1,x.2.2.2.2.2.2.1,x.2.2.2.2.2.2.2.1,x.2.2.2.2.2.2.2.2.1)
theorem qeW (N:Nat):jG Tryz.prog VT 117 (qS qqc 1) (YD N):=zI fun x z h=>qfJ N (x.1,x.2.2.1,x.2.2.2.1,x.2.2.2.2.1,x.2.2.2.2.2.1,x.2.2.2.2.2.2.1,x.2.2.2.2.2.2.2.1,x.2.2.2.2.2.2.2.2.1) N (x.2.1,x.2.2.2.2.2.2.2.2.2.1) z h
def qic (a0:List qb) (a2:Nat) (a3:List (Int×qd×Nat)) (a4:Vector UInt8 16) (a5:qc) (a6:Vector UInt8 16) (a7:qc) (a8:qc) (z:List qb):TV×THp:=(.tup [],[(40,.cell false (.ag [.tv (.ba 16) a4,.tv qi a5,.v 45 a0.length])),(45,.vec false 4 (.sl 4 qx) a0),(70,.cell false (.ag [.tv (.ba 16) a6,.tv qi a7,.v 75 z.length])),(75,.vec false 4 (.sl 4 qx) z),(250,.map a2 (.i .i64) qp a3),(50080,.loop [44] 52 [(4,.p 40 [] 0),(7,.p 70 [] 0),(43,.fn (.func 117) [] [.p 100020 [] 0,.p 100030 [] 0])] 5500008 55 .ready none 50081),(50081,.dfr true),(100020,.cell false (.m 250)),(100030,.cell false (.tv qi a8))])
def VS (N:Nat) (a0:List qb) (a1:List qb) (a2:Nat) (a3:List (Int×qd×Nat)) (a4:Vector UInt8 16) (a5:qc) (a6:Vector UInt8 16) (a7:qc) (a8:qc):Tree (List qb):=
 .bind (je [(a0.length,a0.length),(a1.length,a1.length)] (VH N a0 a2 a3 a4 a5 a6 a7 a8 a1 0)) fun z1=>
 .ret z1.1
def Jo (N:Nat) (a0:List qb) (a1:List qb) (a2:Nat) (a3:List (Int×qd×Nat)) (a4:Vector UInt8 16) (a5:qc) (a6:Vector UInt8 16) (a7:qc) (a8:qc):Option (List qb):=(VS N a0 a1 a2 a3 a4 a5 a6 a7 a8).run some
def qh6 (N:Nat):List (Nat×qD):=[(1,YD N)]
def qaE (N:Nat):Ent:=smF ⟨117,[],[.k (.yl 50080)],[.k (.p 100020 [] 0),.k (.p 100030 [] 0)],[(40,.cell false (.ag [.x (.ba 16),.x qi,.vs 45])),(45,.vec false 4),(70,.cell false (.ag [.x (.ba 16),.x qi,.vs 75])),(75,.vec false 4),(250,.map (.i .i64) qp),(50080,.loop [44] 52 [(4,.k (.p 40 [] 0)),(7,.k (.p 70 [] 0)),(43,.fn 117 [] [.k (.p 100020 [] 0),.k (.p 100030 [] 0)])] 5500008 55 .ready none 50081),(50081,.dfr true),(100020,.cell false (.k (.m 250))),(100030,.cell false (.x qi))]⟩ [(.sl 4 qx),(.sl 4 qx),.nat,(W6 (.i .i64) qp),(.ba 16),qi,(.ba 16),qi,qi] (List qb) (fun x=>Jo N x.1 x.2.1 x.2.2.1 x.2.2.2.1 x.2.2.2.2.1 x.2.2.2.2.2.1 x.2.2.2.2.2.2.1 x.2.2.2.2.2.2.2.1 x.2.2.2.2.2.2.2.2.1) cs1 fun x=>qic x.1 x.2.2.1 x.2.2.2.1 x.2.2.2.2.1 x.2.2.2.2.2.1 x.2.2.2.2.2.2.1 x.2.2.2.2.2.2.2.1 x.2.2.2.2.2.2.2.2.1
theorem qhP (N:Nat):ze Tryz.prog (qaE N):=
 zd (H:=VT) (L:=qL (qh6 N)) (ts:=[(.sl 4 qx),(.sl 4 qx),.nat,(W6 (.i .i64) qp),(.ba 16),qi,(.ba 16),qi,qi]) (T:=fun x=>VS N x.1 x.2.1 x.2.2.1 x.2.2.2.1 x.2.2.2.2.1 x.2.2.2.2.2.1 x.2.2.2.2.2.2.1 x.2.2.2.2.2.2.2.1 x.2.2.2.2.2.2.2.2.1) 1 qJa (Kd N) (qo (by kernel_rfl) ⟨qeW N,trivial⟩) (rg0 (by kernel_rfl)) fun x=>by kernel_rfl
noncomputable def qKE:Code:=Tryz.f55.body.getD .skip
theorem qLK:FnF Tryz.prog 55 Tryz.f55 qKE:=⟨qj,by kernel_rfl,by kernel_rfl,by kernel_rfl⟩
def qFY:TH:={ live:=[(0,[2,3,4]),(1,[2,3,4,23]),(2,[4,5]),(3,[2,3,4,6]),(4,[2,3,4,6]),(5,[2,3,4,6]),(6,[4,6,7]),(7,[4,7,43]),(8,[7,8]),(10,[4,5])],dec:=[12,17],fresh:=[43],nil:=[(0,[⟨.ob 40 [2],45,(.sl 4 qx)⟩]),(2,[⟨.ob 40 [2],45,(.sl 4 qx)⟩]),(6,[⟨.ob 70 [2],75,(.sl 4 qx)⟩])] }
def qFc (N:Nat):List Ent:=[qp5 N,qeR N,qrX N,qbQ,qaE N]
theorem qAe (N:Nat):qT Tryz.prog (qFc N):=⟨qvc N,qnT N,qBH N,qjq,qhP N,trivial⟩
def qFd (z:qa×Bool):TV×THp:=(.tup [.tv qf (z.1:qa),xb z.2],[])
def qmm (N:Nat) (a0:qa) (a1:qa):Tree (qa×Bool):=
 .bind (qgH N a0) fun r1=>
 .cond (!r1) (
 .chk (0=0) <|
 .ret (qa.mk ((Vector.replicate 16 0)) (qc.mk 0 0) [],false)) <|
 .bind (qgH N a1) fun r2=>
 .cond (!r2) (
 .chk (0=0) <|
 .ret (qa.mk ((Vector.replicate 16 0)) (qc.mk 0 0) [],false)) <|
 .cond (!(eqE (.ba 16) (qa.ID a0) (qa.ID a1))) (
 .chk (0=0) <|
 .ret (qa.mk ((Vector.replicate 16 0)) (qc.mk 0 0) [],false)) <|
 .bind (Vs N 0 [] a0) fun r3=>
 .bind (Vs N r3.1 r3.2 a1) fun r4=>
 .bind (qiF N (qa.qH a0) (qa.qH a1)) fun r5=>
 .bind (qdy r4.1 r4.2 r5) fun r6=>
 .bind (je [(([]:List qb).length,0),(([]:List qb).length,0)] (Jo N [] [] r4.1 r4.2 ((Vector.replicate 16 0)) (qc.mk 0 0) (qa.ID a0) r5 r5)) fun r7=>
 .chk (r7.length=r7.length) <|
 .ret (qa.mk (qa.ID a0) r5 r7,true)
def qmo (N:Nat) (a0:qa) (a1:qa):Option (qa×Bool):=(qmm N a0 a1).run some
def qGw (N:Nat):List (Nat×qD):=[]
def qt5 (N:Nat):Ent:=smF ⟨55,[],[.x qf,.x qf],[],[]⟩ [qf,qf] (qa×Bool) (fun x=>qmo N x.1 x.2.1) cs1 fun _=>qFd
theorem qDx (N:Nat):ze Tryz.prog (qt5 N):=
 zd (H:=qFY) (L:=qL (qGw N)) (ts:=[qf,qf]) (T:=fun x=>qmm N x.1 x.2.1) 0 qLK (qAe N) (qo (by kernel_rfl) trivial) (rgs (by kernel_rfl)) fun x=>by kernel_rfl
noncomputable def qH2:Code:=Tryz.f127.body.getD .skip
theorem qIs:FnF Tryz.prog 127 Tryz.f127 qH2:=⟨qj,by kernel_rfl,by kernel_rfl,by kernel_rfl⟩
def qqW:TH:={ live:=[(0,[0,2]),(1,[0,2,4]),(2,[0]),(3,[0,2]),(4,[0,2,8]),(5,[0,2]),(6,[0,2]),(7,[0,2,14]),(8,[0,2]),(9,[0,2]),(10,[2])] }
def qrq (N:Nat):List Ent:=[]
theorem qnY (N:Nat):qT Tryz.prog (qrq N):=trivial
def qrG (z:Int):TV×THp:=(xi z,[])
def qfT (a0:Int):Tree (Int):=
 .cond (decide (((4294967296:Int))≤a0)) (
 .chk (0≤(32:Int)) <|
 .cond (decide (65536≤(Qz a0 32))) (
 .chk (0≤(16:Int)) <|
 .cond (decide (256≤(Qz (Qz a0 32) 16))) (
 .chk (0≤(8:Int)) <|
 let w1:Int:=IntKind.u8.wrap (Qz (Qz (Qz a0 32) 16) 8)
 .bind (zh qpQ w1) fun e2=>
 .chk (qt ((e2.toNat:Nat):Int)) <|
 .chk (qt (((56:Int)) + ((e2.toNat:Nat):Int))) <|
 .ret (((56:Int)) + ((e2.toNat:Nat):Int))) <|
 .bind (zh qpQ (IntKind.u8.wrap (Qz (Qz a0 32) 16))) fun e1=>
 .chk (qt ((e1.toNat:Nat):Int)) <|
 .chk (qt (((48:Int)) + ((e1.toNat:Nat):Int))) <|
 .ret (((48:Int)) + ((e1.toNat:Nat):Int))) <|
 .cond (decide (256≤(Qz a0 32))) (
 .chk (0≤(8:Int)) <|
 .bind (zh qpQ (IntKind.u8.wrap (Qz (Qz a0 32) 8))) fun e1=>
 .chk (qt ((e1.toNat:Nat):Int)) <|
 .chk (qt (((40:Int)) + ((e1.toNat:Nat):Int))) <|
 .ret (((40:Int)) + ((e1.toNat:Nat):Int))) <|
 .bind (zh qpQ (IntKind.u8.wrap (Qz a0 32))) fun e1=>
 .chk (qt ((e1.toNat:Nat):Int)) <|
 .chk (qt (((32:Int)) + ((e1.toNat:Nat):Int))) <|
 .ret (((32:Int)) + ((e1.toNat:Nat):Int))) <|
 .cond (decide (((65536:Int))≤a0)) (
 .chk (0≤(16:Int)) <|
 .cond (decide (256≤(Qz a0 16))) (
 .chk (0≤(8:Int)) <|
 .bind (zh qpQ (IntKind.u8.wrap (Qz (Qz a0 16) 8))) fun e1=>
 .chk (qt ((e1.toNat:Nat):Int)) <|
 .chk (qt (((24:Int)) + ((e1.toNat:Nat):Int))) <|
 .ret (((24:Int)) + ((e1.toNat:Nat):Int))) <|
 .bind (zh qpQ (IntKind.u8.wrap (Qz a0 16))) fun e1=>
 .chk (qt ((e1.toNat:Nat):Int)) <|
 .chk (qt (((16:Int)) + ((e1.toNat:Nat):Int))) <|
 .ret (((16:Int)) + ((e1.toNat:Nat):Int))) <|
 .cond (decide (((256:Int))≤a0)) (
 .chk (0≤(8:Int)) <|
 .bind (zh qpQ (IntKind.u8.wrap (Qz a0 8))) fun e1=>
 .chk (qt ((e1.toNat:Nat):Int)) <|
 .chk (qt (((8:Int)) + ((e1.toNat:Nat):Int))) <|
 .ret (((8:Int)) + ((e1.toNat:Nat):Int))) <|
 .bind (zh qpQ (IntKind.u8.wrap a0)) fun e1=>
 .chk (qt ((e1.toNat:Nat):Int)) <|
 .chk (qt (((0:Int)) + ((e1.toNat:Nat):Int))) <|
 .ret (((0:Int)) + ((e1.toNat:Nat):Int))
def qiq (a0:Int):Option (Int):=(qfT a0).run some
def qqU:List (Nat×qD):=[]
def qfR:Ent:=smF ⟨127,[],[.x (.i .u64)],[],[]⟩ [(.i .u64)] (Int) (fun x=>qiq x.1) cs1 fun _=>qrG
theorem qoF:ze Tryz.prog (qfR):=
 zd (H:=qqW) (L:=qL (qqU)) (ts:=[(.i .u64)]) (T:=fun x=>qfT x.1) 0 qIs (qnY 0) (qo (by kernel_rfl) trivial) (rg0 (by kernel_rfl)) fun x=>by kernel_rfl
noncomputable def qJT:Code:=Tryz.f93.body.getD .skip
theorem qKK:FnF Tryz.prog 93 Tryz.f93 qJT:=⟨qj,by kernel_rfl,by kernel_rfl,by kernel_rfl⟩
def qt0:TH:={ live:=[(0,[0]),(1,[2]),(2,[2])] }
def qv5 (N:Nat):List Ent:=[qfR]
theorem qqT (N:Nat):qT Tryz.prog (qv5 N):=⟨qoF,trivial⟩
def qtZ (z:Int):TV×THp:=(xi z,[])
def qi0 (a0:Int):Tree (Int):=
 .bind (qiq a0) fun r1=>
 .ret r1
def qbr (a0:Int):Option (Int):=(qi0 a0).run some
def qv8:List (Nat×qD):=[]
def qix:Ent:=smF ⟨93,[],[.x (.i .u64)],[],[]⟩ [(.i .u64)] (Int) (fun x=>qbr x.1) cs1 fun _=>qtZ
theorem qtN:ze Tryz.prog (qix):=
 zd (H:=qt0) (L:=qL (qv8)) (ts:=[(.i .u64)]) (T:=fun x=>qi0 x.1) 0 qKK (qqT 0) (qo (by kernel_rfl) trivial) (rg0 (by kernel_rfl)) fun x=>by kernel_rfl
noncomputable def qKu:Code:=Tryz.f57.body.getD .skip
theorem qL5:FnF Tryz.prog 57 Tryz.f57 qKu:=⟨qj,by kernel_rfl,by kernel_rfl,by kernel_rfl⟩
def qxB:TH:={ live:=[(0,[2,3]),(1,[4])] }
def qxF (N:Nat):List Ent:=[Kl]
theorem qtx (N:Nat):qT Tryz.prog (qxF N):=⟨qbN,trivial⟩
def qxg (z:Int):TV×THp:=(xi z,[])
def qku (a0:Vector UInt8 16) (a1:Vector UInt8 16):Tree (Int):=
 .bind (Yw a0.toList a1.toList) fun r1=>
 .ret r1
def qhZ (a0:Vector UInt8 16) (a1:Vector UInt8 16):Option (Int):=(qku a0 a1).run some
def qxl:List (Nat×qD):=[]
def qkv:Ent:=smF ⟨57,[],[.x (.ba 16),.x (.ba 16)],[],[]⟩ [(.ba 16),(.ba 16)] (Int) (fun x=>qhZ x.1 x.2.1) cs1 fun _=>qxg
theorem qub:ze Tryz.prog (qkv):=
 zd (H:=qxB) (L:=qL (qxl)) (ts:=[(.ba 16),(.ba 16)]) (T:=fun x=>qku x.1 x.2.1) 0 qL5 (qtx 0) (qo (by kernel_rfl) trivial) (rg0 (by kernel_rfl)) fun x=>by kernel_rfl
noncomputable def qeZ:Code:=Tryz.f118.body.getD .skip
theorem qHC:FnF Tryz.prog 118 Tryz.f118 qeZ:=⟨qj,by kernel_rfl,by kernel_rfl,by kernel_rfl⟩
def jw:TH:={ live:=[(0,[0,1,2,3,8]),(1,[0,1,2,3,8,14]),(2,[0,1,2,3,8]),(3,[0,1,2,3,8,9]),(4,[0,1,2,3,8,9,34]),(5,[0,1,2,3,8,9]),(6,[0,1,2,3,8,9])],dec:=[21] }
def QM (N:Nat):List Ent:=[qkv]
theorem Ql (N:Nat):qT Tryz.prog (QM N):=⟨qub,trivial⟩
abbrev jN:=Nat×Int×Int×Int
abbrev zN:=List (Vector UInt8 16)×Int×Bool
def jg (f:jN) (y:zN):Ex×TSt:=(.exit 2,⟨1,53,[75],[(0,.v 75 f.1),(1,xi f.2.1),(2,xi f.2.2.1),(3,.fn (.func 57) [] []),(8,xi f.2.2.2),(9,xi y.2.1),(34,xb y.2.2)],[(75,.vec false 16 (.sl 16 (.ba 16)) (y.1:List (Vector UInt8 16)))],false,[]⟩)
def qai (N:Nat):List (Nat×qD):=[]
abbrev jd:=List (Vector UInt8 16)×Int
def Jl:SP:=⟨1,53,[75],[(0,.v 75),(1,.x (.i .i64)),(2,.x (.i .i64)),(3,.fn 57 [] []),(8,.x (.i .i64)),(9,.x (.i .i64))],[(75,.vec false 16)],false,[]⟩
def qac (f:jN) (v:jd):TSt:=zJ Jl [dv (.sl 16 (.ba 16)) v.1,dv .nat f.1,dv (.i .i64) f.2.1,dv (.i .i64) f.2.2.1,dv (.i .i64) f.2.2.2,dv (.i .i64) v.2]
def jf (N:Nat) (s0_4:Nat) (s1_4:Int) (s2_4:Int) (s8_4:Int) (v:jd):Tree (jd⊕zN):=
 .cond (decide (s1_4 < v.2)) (
 .chk (0≤v.2∧v.2 < ((s0_4:Nat):Int)) <|
 .bind (Xu v.1 s0_4 v.2.toNat) fun e1=>
 .chk (qt (v.2 - 1)) <|
 .chk (0≤(v.2 - 1)∧(v.2 - 1) < ((s0_4:Nat):Int)) <|
 .bind (Xu v.1 s0_4 ((v.2 - 1).toNat)) fun e2=>
 .bind (qhZ e1 e2) fun r3=>
 .cond (decide (r3 < ((0:Int)))) (
 .chk (qt (v.2 - 1)) <|
 .chk (qt (v.2 - 1)) <|
 .chk (0≤(v.2 - 1)∧(v.2 - 1) < ((s0_4:Nat):Int)) <|
 .bind (Xu v.1 s0_4 ((v.2 - 1).toNat)) fun e4=>
 .chk (0≤v.2∧v.2 < ((s0_4:Nat):Int)) <|
 .bind (Xu v.1 s0_4 v.2.toNat) fun e5=>
 .chk (0≤v.2∧v.2 < ((s0_4:Nat):Int)) <|
 .chk (qbs v.1.length s0_4 v.2.toNat) <|
 .chk (0≤(v.2 - 1)∧(v.2 - 1) < ((s0_4:Nat):Int)) <|
 .chk (qbs ((v.1.set v.2.toNat e4).length) s0_4 ((v.2 - 1).toNat)) <|
 .chk (qt (v.2 - 1)) <|
 .ret (.inl ((v.1.set v.2.toNat e4).set ((v.2 - 1).toNat) e5,v.2 - 1))) <|
 .ret (.inr (v.1,v.2,decide (r3 < ((0:Int)))))) <|
 .ret (.inr (v.1,v.2,false))
def Jp (N n:Nat) (f:jN) (v:jd):Option zN:=qY (jf N f.1 f.2.1 f.2.2.1 f.2.2.2) some n v
theorem qao (N:Nat) (f:jN) (n:Nat) (v:jd) (y:zN) (h:Jp N n f v=some y):LG Tryz.prog jw 118 (qS (qS qeZ 1) 4) (qac f v) (jg f y):=
 zw qj (E:=QM N) (L:=qL (qai N)) (st:=jg f) (g:=some) (R:=jg f) (Ql N) (qo (by kernel_rfl) trivial) (rg0 (by kernel_rfl)) (fun v=>by kernel_rfl) (q6 (st:=jg f) fun y=>by rfl) n v y h
def J_ (N:Nat) (s0_4:Nat) (s1_4:Int) (s2_4:Int) (s8_4:Int) (o_4:List (Vector UInt8 16)) (s9_4:Int):Option zN:=Jp N N (s0_4,s1_4,s2_4,s8_4) (o_4,s9_4)
def Jg (N:Nat):qD:=smL Jl [(.sl 16 (.ba 16)),.nat,(.i .i64),(.i .i64),(.i .i64),(.i .i64)] zN (fun x=>J_ N x.2.1 x.2.2.1 x.2.2.2.1 x.2.2.2.2.1 x.1 x.2.2.2.2.2.1) cs1 fun x=>jg (x.2.1,x.2.2.1,x.2.2.2.1,x.2.2.2.2.1)
theorem Ko (N:Nat):jG Tryz.prog jw 118 (qS (qS qeZ 1) 4) (Jg N):=zI fun x z h=>qao N (x.2.1,x.2.2.1,x.2.2.2.1,x.2.2.2.2.1) N (x.1,x.2.2.2.2.2.1) z h
abbrev jL:=Nat×Int×Int
abbrev zO:=List (Vector UInt8 16)×Int×Bool
def jc (f:jL) (y:zO):Ex×TSt:=(.exit 0,⟨1,53,[75],[(0,.v 75 f.1),(1,xi f.2.1),(2,xi f.2.2),(3,.fn (.func 57) [] []),(8,xi y.2.1),(14,xb y.2.2)],[(75,.vec false 16 (.sl 16 (.ba 16)) (y.1:List (Vector UInt8 16)))],false,[]⟩)
def qap (N:Nat):List (Nat×qD):=[(4,Jg N)]
abbrev jb:=List (Vector UInt8 16)×Int
def Jm:SP:=⟨1,53,[75],[(0,.v 75),(1,.x (.i .i64)),(2,.x (.i .i64)),(3,.fn 57 [] []),(8,.x (.i .i64))],[(75,.vec false 16)],false,[]⟩
def K9 (f:jL) (v:jb):TSt:=zJ Jm [dv (.sl 16 (.ba 16)) v.1,dv .nat f.1,dv (.i .i64) f.2.1,dv (.i .i64) f.2.2,dv (.i .i64) v.2]
def zC (N:Nat) (s0_1:Nat) (s1_1:Int) (s2_1:Int) (v:jb):Tree (jb⊕zO):=
 .cond (decide (v.2 < s2_1)) (
 .bind (J_ N s0_1 s1_1 s2_1 v.2 v.1 v.2) fun z1=>
 .chk (qt (v.2 + 1)) <|
 .ret (.inl (z1.1,v.2 + 1))) <|
 .ret (.inr (v.1,v.2,decide (v.2 < s2_1)))
def Jx (N n:Nat) (f:jL) (v:jb):Option zO:=qY (zC N f.1 f.2.1 f.2.2) some n v
theorem qak (N:Nat) (f:jL) (n:Nat) (v:jb) (y:zO) (h:Jx N n f v=some y):LG Tryz.prog jw 118 (qS qeZ 1) (K9 f v) (jc f y):=
 zw qj (E:=QM N) (L:=qL (qap N)) (st:=jc f) (g:=some) (R:=jc f) (Ql N) (qo (by kernel_rfl) ⟨Ko N,trivial⟩) (rg0 (by kernel_rfl)) (fun v=>by kernel_rfl) (q6 (st:=jc f) fun y=>by rfl) n v y h
def vb (N:Nat) (s0_1:Nat) (s1_1:Int) (s2_1:Int) (o_1:List (Vector UInt8 16)) (s8_1:Int):Option zO:=Jx N N (s0_1,s1_1,s2_1) (o_1,s8_1)
def Jy (N:Nat):qD:=smL Jm [(.sl 16 (.ba 16)),.nat,(.i .i64),(.i .i64),(.i .i64)] zO (fun x=>vb N x.2.1 x.2.2.1 x.2.2.2.1 x.1 x.2.2.2.2.1) cs1 fun x=>jc (x.2.1,x.2.2.1,x.2.2.2.1)
theorem KA (N:Nat):jG Tryz.prog jw 118 (qS qeZ 1) (Jy N):=zI fun x z h=>qak N (x.2.1,x.2.2.1,x.2.2.2.1) N (x.1,x.2.2.2.2.1) z h
def qbD (z:List (Vector UInt8 16)):TV×THp:=(.tup [],[(75,.vec false 16 (.sl 16 (.ba 16)) z)])
def vn (N:Nat) (a0:List (Vector UInt8 16)) (a1:Int) (a2:Int):Tree (List (Vector UInt8 16)):=
 .chk (qt (a1 + 1)) <|
 .bind (vb N a0.length a1 a2 a0 (a1 + 1)) fun z1=>
 .ret z1.1
def zQ (N:Nat) (a0:List (Vector UInt8 16)) (a1:Int) (a2:Int):Option (List (Vector UInt8 16)):=(vn N a0 a1 a2).run some
def qbO (N:Nat):List (Nat×qD):=[(1,Jy N)]
def Vr (N:Nat):Ent:=smF ⟨118,[],[.vs 75,.x (.i .i64),.x (.i .i64),.fn 57 [] []],[],[(75,.vec false 16)]⟩ [(.sl 16 (.ba 16)),(.i .i64),(.i .i64)] (List (Vector UInt8 16)) (fun x=>zQ N x.1 x.2.1 x.2.2.1) cs1 fun _=>qbD
theorem qaQ (N:Nat):ze Tryz.prog (Vr N):=
 zd (H:=jw) (L:=qL (qbO N)) (ts:=[(.sl 16 (.ba 16)),(.i .i64),(.i .i64)]) (T:=fun x=>vn N x.1 x.2.1 x.2.2.1) 0 qHC (Ql N) (qo (by kernel_rfl) ⟨KA N,trivial⟩) (rg0 (by kernel_rfl)) fun x=>by kernel_rfl
noncomputable def qtm:Code:=Tryz.f92.body.getD .skip
theorem qJB:FnF Tryz.prog 92 Tryz.f92 qtm:=⟨qj,by kernel_rfl,by kernel_rfl,by kernel_rfl⟩
def JG:TH:={ live:=[(0,[0,1,2,3,4,10]),(1,[0,1,2,3,4,10,11]),(2,[0,1,2,3,4,10,11,12]),(3,[0,1,2,3,4,10,11,12,25]),(5,[0,1,2,3,4,10,11,12,32]),(7,[0,1,2,3,4,10,11,12,39]),(8,[0,1,2,3,4,10,11,12]),(9,[0,1,2,3,4,10,11,12]),(10,[0,1,2,3,4,10,11,12,13,14]),(11,[0,1,2,3,4,10,11,12,13,14,56]),(12,[0,1,2,3,4,10,11,12,13]),(13,[0,1,2,3,4,10,11,12,13]),(14,[0,1,2,3,4,10,11,12,13,14]),(15,[0,1,2,3,4,10,11,12,13,75]),(16,[0,1,2,3,4,10,11,12,13,80]),(17,[0,1,2,3,4,10,11,12,13,97]),(18,[0,2,3,4,10,11,15]),(19,[0,1,2,3,4,10,11]),(20,[0,1,2,3,4,12,16,17]),(21,[0,1,2,3,4,11,12,16]),(22,[0,1,2,3,4,11,12,16,18,19]),(23,[0,1,2,3,4,11,16,18,19,20]),(24,[0,1,2,3,4,11,16,18,19,20,125]),(25,[0,1,2,3,4,10,11,16]),(26,[0,2,3,4,10,11,16]),(27,[0,1,2,3,4,10,11]),(28,[0,1,2,3,4,10,11,16]),(29,[0,1,3,4,10,11,16]),(30,[0,1,2,3,4,10,11])],dec:=[69,72,83],raw:=[118] }
def YI (N:Nat):List Ent:=[Vr N]
theorem Wn (N:Nat):qT Tryz.prog (YI N):=⟨qaQ N,trivial⟩
abbrev vW:=List (Vector UInt8 16)×Int×Int×Int
abbrev jl:=List (Vector UInt8 16)
def jP (f:vW) (y:jl):Ex×TSt:=(.ret,⟨1,148,[75],[],[(75,.vec false 16 (.sl 16 (.ba 16)) y)],false,[]⟩)
def qdl (N:Nat):List (Nat×qD):=[]
abbrev jO:=Unit
def XL:SP:=⟨1,148,[75],[(0,.vs 75),(1,.x (.i .i64)),(2,.x (.i .i64)),(3,.x (.i .i64)),(4,.fn 57 [] []),(10,.k (.bc true)),(11,.k (.bc true))],[(75,.vec false 16)],false,[]⟩
def qdk (f:vW) (v:jO):TSt:=zJ XL [dv (.sl 16 (.ba 16)) f.1,dv (.i .i64) f.2.1,dv (.i .i64) f.2.2.1,dv (.i .i64) f.2.2.2]
def vX (N:Nat) (o_2:List (Vector UInt8 16)) (s1_2:Int) (s2_2:Int) (s3_2:Int) (v:jO):Tree (jO⊕jl):=
 .chk (qt (s2_2 - s1_2)) <|
 .cond (decide ((s2_2 - s1_2)≤12)) (
 .bind (je [(o_2.length,o_2.length)] (zQ N o_2 s1_2 s2_2)) fun r1=>
 .ret (.inr r1)) <|
 .cond (decide (s3_2=((0:Int)))) (
 .chk (o_2.length=o_2.length) <|
 .no) <|
 .chk (o_2.length=o_2.length) <|
 .no
def XM (N n:Nat) (f:vW) (v:jO):Option jl:=qY (vX N f.1 f.2.1 f.2.2.1 f.2.2.2) some n v
theorem qdp (N:Nat) (f:vW) (n:Nat) (v:jO) (y:jl) (h:XM N n f v=some y):LG Tryz.prog JG 92 (qS qtm 2) (qdk f v) (jP f y):=
 zw qj (E:=YI N) (L:=qL (qdl N)) (st:=jP f) (g:=some) (R:=jP f) (Wn N) (qo (by kernel_rfl) trivial) (rg0 (by kernel_rfl)) (fun v=>by kernel_rfl) (q6 (st:=jP f) fun y=>by rfl) n v y h
def Ja (N:Nat) (o_2:List (Vector UInt8 16)) (s1_2:Int) (s2_2:Int) (s3_2:Int):Option jl:=XM N N (o_2,s1_2,s2_2,s3_2) ()
def XN (N:Nat):qD:=smL XL [(.sl 16 (.ba 16)),(.i .i64),(.i .i64),(.i .i64)] jl (fun x=>Ja N x.1 x.2.1 x.2.2.1 x.2.2.2.1) cs1 fun x=>jP (x.1,x.2.1,x.2.2.1,x.2.2.2.1)
theorem qcK (N:Nat):jG Tryz.prog JG 92 (qS qtm 2) (XN N):=zI fun x z h=>qdp N (x.1,x.2.1,x.2.2.1,x.2.2.2.1) N () z h
def qfA (z:List (Vector UInt8 16)):TV×THp:=(.tup [],[(75,.vec false 16 (.sl 16 (.ba 16)) z)])
def Jz (N:Nat) (a0:List (Vector UInt8 16)) (a1:Int) (a2:Int) (a3:Int):Tree (List (Vector UInt8 16)):=
 .bind (je [(a0.length,a0.length)] (Ja N a0 a1 a2 a3)) fun z1=>
 .ret z1
def Zi (N:Nat) (a0:List (Vector UInt8 16)) (a1:Int) (a2:Int) (a3:Int):Option (List (Vector UInt8 16)):=(Jz N a0 a1 a2 a3).run some
def qfm (N:Nat):List (Nat×qD):=[(2,XN N)]
def YQ (N:Nat):Ent:=smF ⟨92,[],[.vs 75,.x (.i .i64),.x (.i .i64),.x (.i .i64),.fn 57 [] []],[],[(75,.vec false 16)]⟩ [(.sl 16 (.ba 16)),(.i .i64),(.i .i64),(.i .i64)] (List (Vector UInt8 16)) (fun x=>Zi N x.1 x.2.1 x.2.2.1 x.2.2.2.1) cs1 fun _=>qfA
theorem qeN (N:Nat):ze Tryz.prog (YQ N):=
 zd (H:=JG) (L:=qL (qfm N)) (ts:=[(.sl 16 (.ba 16)),(.i .i64),(.i .i64),(.i .i64)]) (T:=fun x=>Jz N x.1 x.2.1 x.2.2.1 x.2.2.2.1) 0 qJB (Wn N) (qo (by kernel_rfl) ⟨qcK N,trivial⟩) (rg0 (by kernel_rfl)) fun x=>by kernel_rfl
noncomputable def qLX:Code:=Tryz.f56.body.getD .skip
theorem qJF:FnF Tryz.prog 56 Tryz.f56 qLX:=⟨qj,by kernel_rfl,by kernel_rfl,by kernel_rfl⟩
def qlL:TH:={ live:=[(0,[0,1,4])],raw:=[92] }
def ql_ (N:Nat):List Ent:=[qix,YQ N]
theorem qjW (N:Nat):qT Tryz.prog (ql_ N):=⟨qtN,qeN N,trivial⟩
def qlo (z:List (Vector UInt8 16)):TV×THp:=(.tup [],[(75,.vec false 16 (.sl 16 (.ba 16)) z)])
def WU (N:Nat) (a0:List (Vector UInt8 16)):Tree (List (Vector UInt8 16)):=
 let w1:Int:=IntKind.u64.wrap ((a0.length:Nat):Int)
 .bind (qbr w1) fun r2=>
 .bind (je [(a0.length,a0.length)] (Zi N a0 0 ((a0.length:Nat):Int) r2)) fun r3=>
 .ret r3
def Xj (N:Nat) (a0:List (Vector UInt8 16)):Option (List (Vector UInt8 16)):=(WU N a0).run some
def qmj (N:Nat):List (Nat×qD):=[]
def qcn (N:Nat):Ent:=smF ⟨56,[],[.vs 75,.fn 57 [] []],[],[(75,.vec false 16)]⟩ [(.sl 16 (.ba 16))] (List (Vector UInt8 16)) (fun x=>Xj N x.1) cs1 fun _=>qlo
theorem qk_ (N:Nat):ze Tryz.prog (qcn N):=
 zd (H:=qlL) (L:=qL (qmj N)) (ts:=[(.sl 16 (.ba 16))]) (T:=fun x=>WU N x.1) 0 qJF (qjW N) (qo (by kernel_rfl) trivial) (rg0 (by kernel_rfl)) fun x=>by kernel_rfl
noncomputable def qhC:Code:=Tryz.f22.body.getD .skip
theorem qJJ:FnF Tryz.prog 22 Tryz.f22 qhC:=⟨qj,by kernel_rfl,by kernel_rfl,by kernel_rfl⟩
def qa3:TH:={ live:=[(0,[2,3,4]),(1,[2,3,4,22]),(2,[4,5]),(3,[2,3,4,6]),(4,[2,3,4,6,7]),(5,[4,6,7,30,31,32]),(6,[4,6,7,30,31,32,33]),(7,[4,6,7,9,30,31,32]),(8,[4,6,7,9,10,11,30,31,32]),(9,[4,6,7,9,10,30,31,32,44]),(10,[4,6,7,9,30,31,32]),(11,[4,6,7,30,31,32]),(12,[4,6,7,30,31,32]),(13,[4,6,7,30,31,32]),(14,[4,6,7,67]),(15,[4,5]),(16,[4,6,7]),(17,[4,6,7,12]),(18,[4,6,12,71,72,73]),(19,[4,6,12,71,72,73,74]),(20,[4,6,12,14,71,72,73]),(21,[4,6,12,71,72,73]),(22,[4,6,12,71,72,73]),(23,[4,5])],dec:=[18],raw:=[56],nil:=[(0,[⟨.ob 40 [0],43,(.sl 19 qf)⟩]),(2,[⟨.ob 40 [0],43,(.sl 19 qf)⟩]),(4,[⟨.sl 7,75,(.sl 16 (.ba 16))⟩]),(8,[⟨.ob 100 [2],105,(.sl 4 qx)⟩]),(15,[⟨.ob 40 [0],43,(.sl 19 qf)⟩]),(17,[⟨.ob 120 [0],123,(.sl 19 qf)⟩])] }
def qjO (N:Nat):List Ent:=[qcB N,qdv N,qmY,qt5 N,qcn N]
theorem qfp (N:Nat):qT Tryz.prog (qjO N):=⟨qep N,qmK N,qr8,qDx N,qk_ N,trivial⟩
abbrev qae:=List qa×List qa×Int
abbrev Vi:=List (Vector UInt8 16)×Nat×List (Vector UInt8 16×qa×Nat)×Int×Bool
def X7 (f:qae) (y:Vi):Ex×TSt:=(.exit 0,⟨0,87,[],[(4,.p 40 [] 0),(6,.m 240),(7,.v 75 y.1.length),(30,.tv (.sl 19 qf) f.2.1),(31,xi f.2.2),(32,xi y.2.2.2.1),(33,xb y.2.2.2.2)],[(40,.cell false (.ag [.v 43 f.1.length])),(43,.vec false 19 (.sl 19 qf) f.1),(75,.vec false 16 (.sl 16 (.ba 16)) (y.1:List (Vector UInt8 16))),(240,.map y.2.1 (.ba 16) qf (y.2.2.1:List (Vector UInt8 16×qa×Nat)))],false,[]⟩)
def qw0 (N:Nat):List (Nat×qD):=[]
abbrev Wi:=List (Vector UInt8 16)×Nat×List (Vector UInt8 16×qa×Nat)×Int
def qkp:SP:=⟨0,87,[],[(4,.k (.p 40 [] 0)),(6,.k (.m 240)),(7,.vs 75),(30,.x (.sl 19 qf)),(31,.x (.i .i64)),(32,.x (.i .i64))],[(40,.cell false (.ag [.vs 43])),(43,.vec false 19),(75,.vec false 16),(240,.map (.ba 16) qf)],false,[]⟩
def qxu (f:qae) (v:Wi):TSt:=zJ qkp [dv (.sl 19 qf) f.1,dv (.sl 16 (.ba 16)) v.1,dv .nat v.2.1,dv (W6 (.ba 16) qf) v.2.2.1,dv (.sl 19 qf) f.2.1,dv (.i .i64) f.2.2,dv (.i .i64) v.2.2.2]
def X4 (N:Nat) (o_6:List qa) (s30_6:List qa) (s31_6:Int) (v:Wi):Tree (Wi⊕Vi):=
 .cond (decide (v.2.2.2 < s31_6)) (
 .bind (zh s30_6 v.2.2.2) fun e1=>
 .opt (fnd (β:=qa) (.ba 16) (qa.ID e1) v.2.2.1) (
 .chk (jF v.1.length v.1.length ((v.1++[qa.ID e1]).length) 16) <|
 .bind (qbL e1) fun r3=>
 .chk (qt (v.2.2.2 + 1)) <|
 .ret (.inl (v.1++[qa.ID e1],(Q7 (.ba 16) (qa.ID e1) (qa.mk (qa.ID e1) (qa.qH e1) ((([]:List qb))++(qa.F e1))) v.2.1 v.2.2.1).1,(Q7 (.ba 16) (qa.ID e1) (qa.mk (qa.ID e1) (qa.qH e1) ((([]:List qb))++(qa.F e1))) v.2.1 v.2.2.1).2,v.2.2.2 + 1))) fun e2=>
 .bind (qmo N e2.1 e1) fun r3=>
 .chk (qt (v.2.2.2 + 1)) <|
 .ret (.inl (v.1,(Q7 (.ba 16) (qa.ID e1) r3.1 v.2.1 v.2.2.1).1,(Q7 (.ba 16) (qa.ID e1) r3.1 v.2.1 v.2.2.1).2,v.2.2.2 + 1))) <|
 .ret (.inr (v.1,v.2.1,v.2.2.1,v.2.2.2,decide (v.2.2.2 < s31_6)))
def qko (N n:Nat) (f:qae) (v:Wi):Option Vi:=qY (X4 N f.1 f.2.1 f.2.2) some n v
theorem qwQ (N:Nat) (f:qae) (n:Nat) (v:Wi) (y:Vi) (h:qko N n f v=some y):LG Tryz.prog qa3 22 (qS qhC 6) (qxu f v) (X7 f y):=
 zw qj (E:=qjO N) (L:=qL (qw0 N)) (st:=X7 f) (g:=some) (R:=X7 f) (qfp N) (qo (by kernel_rfl) trivial) (rg0 (by kernel_rfl)) (fun v=>by kernel_rfl) (q6 (st:=X7 f) fun y=>by rfl) n v y h
def qgZ (N:Nat) (o_6:List qa) (s30_6:List qa) (s31_6:Int) (o_6_2:List (Vector UInt8 16)) (o_6_3:Nat) (o_6_4:List (Vector UInt8 16×qa×Nat)) (s32_6:Int):Option Vi:=qko N N (o_6,s30_6,s31_6) (o_6_2,o_6_3,o_6_4,s32_6)
def qkn (N:Nat):qD:=smL qkp [(.sl 19 qf),(.sl 16 (.ba 16)),.nat,(W6 (.ba 16) qf),(.sl 19 qf),(.i .i64),(.i .i64)] Vi (fun x=>qgZ N x.1 x.2.2.2.2.1 x.2.2.2.2.2.1 x.2.1 x.2.2.1 x.2.2.2.1 x.2.2.2.2.2.2.1) cs1 fun x=>X7 (x.1,x.2.2.2.2.1,x.2.2.2.2.2.1)
theorem qud (N:Nat):jG Tryz.prog qa3 22 (qS qhC 6) (qkn N):=zI fun x z h=>qwQ N (x.1,x.2.2.2.2.1,x.2.2.2.2.2.1) N (x.2.1,x.2.2.1,x.2.2.2.1,x.2.2.2.2.2.2.1) z h
abbrev Y8:=List qa×List (Vector UInt8 16)×Nat×List (Vector UInt8 16×qa×Nat)×Nat×Int
abbrev Jv:=List qa×Int×Bool
def Xg (f:Y8) (y:Jv):Ex×TSt:=(.exit 2,⟨0,87,[],[(4,.p 40 [] 0),(6,.m 240),(12,.p 120 [] 0),(71,.v 75 f.2.2.2.2.1),(72,xi f.2.2.2.2.2),(73,xi y.2.1),(74,xb y.2.2)],[(40,.cell false (.ag [.v 43 f.1.length])),(43,.vec false 19 (.sl 19 qf) f.1),(75,.vec false 16 (.sl 16 (.ba 16)) f.2.1),(120,.cell false (.ag [.v 123 y.1.length])),(123,.vec false 19 (.sl 19 qf) (y.1:List qa)),(240,.map f.2.2.1 (.ba 16) qf f.2.2.2.1)],false,[]⟩)
def qua (N:Nat):List (Nat×qD):=[]
abbrev Xq:=List qa×Int
def qi4:SP:=⟨0,87,[],[(4,.k (.p 40 [] 0)),(6,.k (.m 240)),(12,.k (.p 120 [] 0)),(71,.v 75),(72,.x (.i .i64)),(73,.x (.i .i64))],[(40,.cell false (.ag [.vs 43])),(43,.vec false 19),(75,.vec false 16),(120,.cell false (.ag [.vs 123])),(123,.vec false 19),(240,.map (.ba 16) qf)],false,[]⟩
def qvz (f:Y8) (v:Xq):TSt:=zJ qi4 [dv (.sl 19 qf) f.1,dv (.sl 16 (.ba 16)) f.2.1,dv (.sl 19 qf) v.1,dv .nat f.2.2.1,dv (W6 (.ba 16) qf) f.2.2.2.1,dv .nat f.2.2.2.2.1,dv (.i .i64) f.2.2.2.2.2,dv (.i .i64) v.2]
def Kc (N:Nat) (o_19:List qa) (o_19_2:List (Vector UInt8 16)) (o_19_4:Nat) (o_19_5:List (Vector UInt8 16×qa×Nat)) (s71_19:Nat) (s72_19:Int) (v:Xq):Tree (Xq⊕Jv):=
 .cond (decide (v.2 < s72_19)) (
 .chk (0≤v.2∧v.2 < ((s71_19:Nat):Int)) <|
 .bind (Xu o_19_2 s71_19 v.2.toNat) fun e1=>
 .opt (fnd (β:=qa) (.ba 16) e1 o_19_5) (
 .chk (jF v.1.length v.1.length ((v.1++[qa.mk ((Vector.replicate 16 0)) (qc.mk 0 0) []]).length) 56) <|
 .chk (qt (v.2 + 1)) <|
 .ret (.inl (v.1++[qa.mk ((Vector.replicate 16 0)) (qc.mk 0 0) []],v.2 + 1))) fun e2=>
 .chk (jF v.1.length v.1.length ((v.1++[e2.1]).length) 56) <|
 .chk (qt (v.2 + 1)) <|
 .ret (.inl (v.1++[e2.1],v.2 + 1))) <|
 .ret (.inr (v.1,v.2,decide (v.2 < s72_19)))
def qiH (N n:Nat) (f:Y8) (v:Xq):Option Jv:=qY (Kc N f.1 f.2.1 f.2.2.1 f.2.2.2.1 f.2.2.2.2.1 f.2.2.2.2.2) some n v
theorem quD (N:Nat) (f:Y8) (n:Nat) (v:Xq) (y:Jv) (h:qiH N n f v=some y):LG Tryz.prog qa3 22 (qS qhC 19) (qvz f v) (Xg f y):=
 zw qj (E:=qjO N) (L:=qL (qua N)) (st:=Xg f) (g:=some) (R:=Xg f) (qfp N) (qo (by kernel_rfl) trivial) (rg0 (by kernel_rfl)) (fun v=>by kernel_rfl) (q6 (st:=Xg f) fun y=>by rfl) n v y h
def qfb (N:Nat) (o_19:List qa) (o_19_2:List (Vector UInt8 16)) (o_19_4:Nat) (o_19_5:List (Vector UInt8 16×qa×Nat)) (s71_19:Nat) (s72_19:Int) (o_19_3:List qa) (s73_19:Int):Option Jv:=qiH N N (o_19,o_19_2,o_19_4,o_19_5,s71_19,s72_19) (o_19_3,s73_19)
def qi3 (N:Nat):qD:=smL qi4 [(.sl 19 qf),(.sl 16 (.ba 16)),(.sl 19 qf),.nat,(W6 (.ba 16) qf),.nat,(.i .i64),(.i .i64)] Jv (fun x=>qfb N x.1 x.2.1 x.2.2.2.1 x.2.2.2.2.1 x.2.2.2.2.2.1 x.2.2.2.2.2.2.1 x.2.2.1 x.2.2.2.2.2.2.2.1) cs1 fun x=>Xg (x.1,x.2.1,x.2.2.2.1,x.2.2.2.2.1,x.2.2.2.2.2.1,x.2.2.2.2.2.2.1)
theorem qte (N:Nat):jG Tryz.prog qa3 22 (qS qhC 19) (qi3 N):=zI fun x z h=>quD N (x.1,x.2.1,x.2.2.2.1,x.2.2.2.2.1,x.2.2.2.2.2.1,x.2.2.2.2.2.2.1) N (x.2.2.1,x.2.2.2.2.2.2.2.1) z h
def qDw (z:qe×Int):TV×THp:=(.tup [.tv qu (z.1:qe),xi z.2],[])
def qen (N:Nat) (a0:qe) (a1:qe):Tree (qe×Int):=
 .bind (Yg N a0) fun r1=>
 .cond (!r1) (
 .chk (0=0) <|
 .ret (qe.mk [],1)) <|
 .bind (Yg N a1) fun r2=>
 .cond (!r2) (
 .chk (0=0) <|
 .ret (qe.mk [],1)) <|
 .bind (XU N [qe.R a0,qe.R a1]) fun r3=>
 .bind (je [(([]:List qa).length,0),(([]:List (Vector UInt8 16)).length,0)] (qgZ N [] r3 ((r3.length:Nat):Int) [] 0 [] 0)) fun z4=>
 .cond (decide (((10:Int)) < ((z4.1.length:Nat):Int))) (
 .chk (0=0) <|
 .ret (qe.mk [],4)) <|
 .bind (je [(z4.1.length,z4.1.length)] (Xj N z4.1)) fun r5=>
 .bind (je [(([]:List qa).length,0),(([]:List qa).length,0)] (qfb N [] r5 z4.2.1 z4.2.2.1 z4.1.length ((z4.1.length:Nat):Int) [] 0)) fun z6=>
 .chk (z6.1.length=z6.1.length) <|
 .ret (qe.mk z6.1,0)
def WL (N:Nat) (a0:qe) (a1:qe):Option (qe×Int):=(qen N a0 a1).run some
def qDc (N:Nat):List (Nat×qD):=[(6,qkn N),(19,qi3 N)]
def qr7 (N:Nat):Ent:=smF ⟨22,[],[.x qu,.x qu],[],[]⟩ [qu,qu] (qe×Int) (fun x=>WL N x.1 x.2.1) cs1 fun _=>qDw
theorem qB3 (N:Nat):ze Tryz.prog (qr7 N):=
 zd (H:=qa3) (L:=qL (qDc N)) (ts:=[qu,qu]) (T:=fun x=>qen N x.1 x.2.1) 0 qJJ (qfp N) (qo (by kernel_rfl) ⟨qud N,qte N,trivial⟩) (rg0 (by kernel_rfl)) fun x=>by kernel_rfl
noncomputable def qI3:Code:=Tryz.f132.body.getD .skip
theorem qG7:FnF Tryz.prog 132 Tryz.f132 qI3:=⟨qj,by kernel_rfl,by kernel_rfl,by kernel_rfl⟩
def qrE:TH:={ live:=[(0,[0]),(1,[0,4]),(2,[2]),(3,[2])] }
def qrm (N:Nat):List Ent:=[]
theorem qn2 (N:Nat):qT Tryz.prog (qrm N):=trivial
def qrc (z:Int):TV×THp:=(xi z,[])
def qaI (a0:Int):Tree (Int):=
 .cond (decide (a0 < ((24:Int)))) (
 .ret 0) <|
 .chk ((8:Int)≠0) <|
 .chk (qt (a0.tdiv 8)) <|
 .ret (a0.tdiv 8)
def Kg (a0:Int):Option (Int):=(qaI a0).run some
def qrI:List (Nat×qD):=[]
def qfN:Ent:=smF ⟨132,[],[.x (.i .i64)],[],[]⟩ [(.i .i64)] (Int) (fun x=>Kg x.1) cs1 fun _=>qrc
theorem qoC:ze Tryz.prog (qfN):=
 zd (H:=qrE) (L:=qL (qrI)) (ts:=[(.i .i64)]) (T:=fun x=>qaI x.1) 0 qG7 (qn2 0) (qo (by kernel_rfl) trivial) (rg0 (by kernel_rfl)) fun x=>by kernel_rfl
noncomputable def qI1:Code:=Tryz.f103.body.getD .skip
theorem qHc:FnF Tryz.prog 103 Tryz.f103 qI1:=⟨qj,by kernel_rfl,by kernel_rfl,by kernel_rfl⟩
def qtF:TH:={ live:=[(0,[2,3]),(1,[4])],dec:=[8,13,18,23,32,37] }
def qs6 (N:Nat):List Ent:=[qfN,XJ,Jf N]
theorem qqe (N:Nat):qT Tryz.prog (qs6 N):=⟨qoC,WC,JE N,trivial⟩
def qsR (z:Bool):TV×THp:=(xb z,[])
def qbI (N:Nat) (a0:qn) (a1:qc):Tree (Bool):=
 .cond (decide (((0:Int))≤(qn.No a0))) (
 .cond (decide ((qn.No a0) < ((8:Int)))) (
 .cond (decide (((0:Int))≤(qn.Len a0))) (
 .cond (decide ((qn.Len a0)≤((200:Int)))) (
 .bind (Kg (qn.Len a0)) fun r1=>
 .cond (decide ((((qn.B a0).length:Nat):Int)=r1)) (
 .bind (Xp (qn.S a0)) fun r2=>
 .cond r2 (
 .bind (jT N a1 (qn.S a0)) fun r3=>
 .ret r3) <|
 .ret false) <|
 .ret false) <|
 .ret false) <|
 .ret false) <|
 .ret false) <|
 .ret false
def qav (N:Nat) (a0:qn) (a1:qc):Option (Bool):=(qbI N a0 a1).run some
def qtQ (N:Nat):List (Nat×qD):=[]
def qhK (N:Nat):Ent:=smF ⟨103,[],[.x qZ,.x qi],[],[]⟩ [qZ,qi] (Bool) (fun x=>qav N x.1 x.2.1) cs1 fun _=>qsR
theorem qq7 (N:Nat):ze Tryz.prog (qhK N):=
 zd (H:=qtF) (L:=qL (qtQ N)) (ts:=[qZ,qi]) (T:=fun x=>qbI N x.1 x.2.1) 0 qHc (qqe N) (qo (by kernel_rfl) trivial) (rg0 (by kernel_rfl)) fun x=>by kernel_rfl
noncomputable def qst:Code:=Tryz.f78.body.getD .skip
theorem qJ1:FnF Tryz.prog 78 Tryz.f78 qst:=⟨qj,by kernel_rfl,by kernel_rfl,by kernel_rfl⟩
def qct:TH:={ live:=[(0,[1]),(1,[1,6,7,8]),(2,[1,6,7,8,9]),(3,[1,3,4,6,7,8]),(4,[1,6,7,8,33]),(5,[2]),(6,[1,6,7,8]),(7,[2])],dec:=[18,21,38,43] }
def qiu (N:Nat):List Ent:=[qhK N,XJ]
theorem qfL (N:Nat):qT Tryz.prog (qiu N):=⟨qq7 N,WC,trivial⟩
abbrev Xc:=ql×List qn×Int
abbrev QO:=Unit⊕(Int×Bool)
def Jc (f:Xc):QO→Ex×TSt
 | .inl y=>(.ret,⟨0,50,[],[(2,.bc false)],[],false,[]⟩)
 | .inr y=>(.exit 0,⟨0,50,[],[(1,.p 10 [] 0),(6,.tv (.sl 37 qZ) f.2.1),(7,xi f.2.2),(8,xi y.1),(9,xb y.2)],[(10,.cell false (.tv qP f.1))],false,[]⟩)
def qpc (N:Nat):List (Nat×qD):=[]
abbrev Jb:=Int
def qeQ:SP:=⟨0,50,[],[(1,.k (.p 10 [] 0)),(6,.x (.sl 37 qZ)),(7,.x (.i .i64)),(8,.x (.i .i64))],[(10,.cell false (.x qP))],false,[]⟩
def qoI (f:Xc) (v:Jb):TSt:=zJ qeQ [dv qP f.1,dv (.sl 37 qZ) f.2.1,dv (.i .i64) f.2.2,dv (.i .i64) v]
def Xi (N:Nat) (o_2:ql) (s6_2:List qn) (s7_2:Int) (v:Jb):Tree (Jb⊕QO):=
 .cond (decide (v < s7_2)) (
 .bind (zh s6_2 v) fun e1=>
 .bind (qav N e1 (ql.qH o_2)) fun r2=>
 .cond (!r2) (
 .ret (.inr (.inl ()))) <|
 .cond (decide (((0:Int)) < v)) (
 .chk (qt (v - 1)) <|
 .bind (zh (ql.F o_2) (v - 1)) fun e3=>
 .cond (decide ((qn.No e1)≤(qn.No e3))) (
 .ret (.inr (.inl ()))) <|
 .chk (qt (v + 1)) <|
 .ret (.inl (v + 1))) <|
 .chk (qt (v + 1)) <|
 .ret (.inl (v + 1))) <|
 .ret (.inr (.inr ((v,decide (v < s7_2)))))
def qeU (N n:Nat) (f:Xc) (v:Jb):Option QO:=qY (Xi N f.1 f.2.1 f.2.2) some n v
theorem qph (N:Nat) (f:Xc) (n:Nat) (v:Jb) (y:QO) (h:qeU N n f v=some y):LG Tryz.prog qct 78 (qS qst 2) (qoI f v) (Jc f y):=
 zw qj (E:=qiu N) (L:=qL (qpc N)) (st:=Jc f) (g:=some) (R:=Jc f) (qfL N) (qo (by kernel_rfl) trivial) (rg0 (by kernel_rfl)) (fun v=>by kernel_rfl) (q6 (st:=Jc f) fun y=>by rcases y with _ | _<;>rfl) n v y h
def qbK (N:Nat) (o_2:ql) (s6_2:List qn) (s7_2:Int) (s8_2:Int):Option QO:=qeU N N (o_2,s6_2,s7_2) s8_2
def qeH (N:Nat):qD:=smL qeQ [qP,(.sl 37 qZ),(.i .i64),(.i .i64)] QO (fun x=>qbK N x.1 x.2.1 x.2.2.1 x.2.2.2.1) (csS cs1) fun x=>Jc (x.1,x.2.1,x.2.2.1)
theorem qnW (N:Nat):jG Tryz.prog qct 78 (qS qst 2) (qeH N):=zI fun x z h=>qph N (x.1,x.2.1,x.2.2.1) N x.2.2.2.1 z h
def qur (z:Bool):TV×THp:=(xb z,[])
def qda (N:Nat) (a0:ql):Tree (Bool):=
 .bind (qbK N a0 (ql.F a0) (((ql.F a0).length:Nat):Int) 0) fun z1=>
 .sum z1 (fun z2=>
 .ret false) fun z2=>
 .bind (Xp (ql.qH a0)) fun r3=>
 .cond r3 (
 .cond (decide (((0:Int)) < (((ql.F a0).length:Nat):Int))) (
 .ret true) <|
 .ret (!(eqE qi (ql.qH a0) (qc.mk 0 0)))) <|
 .ret false
def qbw (N:Nat) (a0:ql):Option (Bool):=(qda N a0).run some
def qv4 (N:Nat):List (Nat×qD):=[(2,qeH N)]
def qiD (N:Nat):Ent:=smF ⟨78,[],[.x qP],[],[]⟩ [qP] (Bool) (fun x=>qbw N x.1) cs1 fun _=>qur
theorem qtb (N:Nat):ze Tryz.prog (qiD N):=
 zd (H:=qct) (L:=qL (qv4 N)) (ts:=[qP]) (T:=fun x=>qda N x.1) 0 qJ1 (qfL N) (qo (by kernel_rfl) ⟨qnW N,trivial⟩) (rg0 (by kernel_rfl)) fun x=>by kernel_rfl
noncomputable def qs_:Code:=Tryz.f40.body.getD .skip
theorem qKe:FnF Tryz.prog 40 Tryz.f40 qs_:=⟨qj,by kernel_rfl,by kernel_rfl,by kernel_rfl⟩
def qeb:TH:={ live:=[(0,[1]),(1,[1,6,7,8]),(2,[1,6,7,8,9]),(3,[1,3,4,6,7,8]),(4,[1,6,7,8,32]),(5,[2]),(6,[1,6,7,8]),(7,[2])],dec:=[16,19] }
def qkF (N:Nat):List Ent:=[qiD N,qkg]
theorem qgX (N:Nat):qT Tryz.prog (qkF N):=⟨qtb N,qpY,trivial⟩
abbrev XW:=qk×List ql×Int
abbrev Zo:=Unit⊕(Int×Bool)
def JR (f:XW):Zo→Ex×TSt
 | .inl y=>(.ret,⟨0,38,[],[(2,.bc false)],[],false,[]⟩)
 | .inr y=>(.exit 0,⟨0,38,[],[(1,.p 10 [] 0),(6,.tv (.sl 19 qP) f.2.1),(7,xi f.2.2),(8,xi y.1),(9,xb y.2)],[(10,.cell false (.tv qw f.1))],false,[]⟩)
def qrv (N:Nat):List (Nat×qD):=[]
abbrev JQ:=Int
def qfU:SP:=⟨0,38,[],[(1,.k (.p 10 [] 0)),(6,.x (.sl 19 qP)),(7,.x (.i .i64)),(8,.x (.i .i64))],[(10,.cell false (.x qw))],false,[]⟩
def qqR (f:XW) (v:JQ):TSt:=zJ qfU [dv qw f.1,dv (.sl 19 qP) f.2.1,dv (.i .i64) f.2.2,dv (.i .i64) v]
def XQ (N:Nat) (o_2:qk) (s6_2:List ql) (s7_2:Int) (v:JQ):Tree (JQ⊕Zo):=
 .cond (decide (v < s7_2)) (
 .bind (zh s6_2 v) fun e1=>
 .bind (qbw N e1) fun r2=>
 .cond (!r2) (
 .ret (.inr (.inl ()))) <|
 .cond (decide (((0:Int)) < v)) (
 .chk (qt (v - 1)) <|
 .bind (zh (qk.L o_2) (v - 1)) fun e3=>
 .bind (qe9 (ql.ID e3) (ql.ID e1)) fun r4=>
 .cond (!r4) (
 .ret (.inr (.inl ()))) <|
 .chk (qt (v + 1)) <|
 .ret (.inl (v + 1))) <|
 .chk (qt (v + 1)) <|
 .ret (.inl (v + 1))) <|
 .ret (.inr (.inr ((v,decide (v < s7_2)))))
def qfV (N n:Nat) (f:XW) (v:JQ):Option Zo:=qY (XQ N f.1 f.2.1 f.2.2) some n v
theorem qrn (N:Nat) (f:XW) (n:Nat) (v:JQ) (y:Zo) (h:qfV N n f v=some y):LG Tryz.prog qeb 40 (qS qs_ 2) (qqR f v) (JR f y):=
 zw qj (E:=qkF N) (L:=qL (qrv N)) (st:=JR f) (g:=some) (R:=JR f) (qgX N) (qo (by kernel_rfl) trivial) (rg0 (by kernel_rfl)) (fun v=>by kernel_rfl) (q6 (st:=JR f) fun y=>by rcases y with _ | _<;>rfl) n v y h
def qdb (N:Nat) (o_2:qk) (s6_2:List ql) (s7_2:Int) (s8_2:Int):Option Zo:=qfV N N (o_2,s6_2,s7_2) s8_2
def qf2 (N:Nat):qD:=smL qfU [qw,(.sl 19 qP),(.i .i64),(.i .i64)] Zo (fun x=>qdb N x.1 x.2.1 x.2.2.1 x.2.2.2.1) (csS cs1) fun x=>JR (x.1,x.2.1,x.2.2.1)
theorem qpd (N:Nat):jG Tryz.prog qeb 40 (qS qs_ 2) (qf2 N):=zI fun x z h=>qrn N (x.1,x.2.1,x.2.2.1) N x.2.2.2.1 z h
def qwB (z:Bool):TV×THp:=(xb z,[])
def qdI (N:Nat) (a0:qk):Tree (Bool):=
 .bind (qdb N a0 (qk.L a0) (((qk.L a0).length:Nat):Int) 0) fun z1=>
 .sum z1 (fun z2=>
 .ret false) fun z2=>
 .ret (decide ((((qk.L a0).length:Nat):Int)≤((10:Int))))
def qcm (N:Nat) (a0:qk):Option (Bool):=(qdI N a0).run some
def qwi (N:Nat):List (Nat×qD):=[(2,qf2 N)]
def qk2 (N:Nat):Ent:=smF ⟨40,[],[.x qw],[],[]⟩ [qw] (Bool) (fun x=>qcm N x.1) cs1 fun _=>qwB
theorem qvh (N:Nat):ze Tryz.prog (qk2 N):=
 zd (H:=qeb) (L:=qL (qwi N)) (ts:=[qw]) (T:=fun x=>qdI N x.1) 0 qKe (qgX N) (qo (by kernel_rfl) ⟨qpd N,trivial⟩) (rg0 (by kernel_rfl)) fun x=>by kernel_rfl
noncomputable def qK8:Code:=Tryz.f41.body.getD .skip
theorem qLw:FnF Tryz.prog 41 Tryz.f41 qK8:=⟨qj,by kernel_rfl,by kernel_rfl,by kernel_rfl⟩
def qA7:TH:={ live:=[(0,[2,3]),(1,[4])],esc:=true }
def qCj (N:Nat):List Ent:=[]
theorem qwn (N:Nat):qT Tryz.prog (qCj N):=trivial
def qCg (a0:qe) (a1:qk) (z:Unit):TV×THp:=(.fn (.func 79) [] [.p 100020 [] 0,.p 100030 [] 0],[(100020,.cell false (.tv qu a0)),(100030,.cell false (.tv qw a1))])
def qpE (a0:qe) (a1:qk):Tree (Unit):=
 .ret ()
def qlS (a0:qe) (a1:qk):Option (Unit):=(qpE a0 a1).run some
def qCe:List (Nat×qD):=[]
def qow:Ent:=smF ⟨41,[],[.x qu,.x qw],[],[]⟩ [qu,qw] (Unit) (fun x=>qlS x.1 x.2.1) cs1 fun x=>qCg x.1 x.2.1
theorem qy_:ze Tryz.prog (qow):=
 zd (H:=qA7) (L:=qL (qCe)) (ts:=[qu,qw]) (T:=fun x=>qpE x.1 x.2.1) 0 qLw (qwn 0) (qo (by kernel_rfl) trivial) (rg0 (by kernel_rfl)) fun x=>by kernel_rfl
noncomputable def qLg:Code:=Tryz.f62.body.getD .skip
theorem qJD:FnF Tryz.prog 62 Tryz.f62 qLg:=⟨qj,by kernel_rfl,by kernel_rfl,by kernel_rfl⟩
def qru:TH:={ live:=[(0,[1,2]),(1,[3])] }
def qrb (N:Nat):List Ent:=[]
theorem qnG (N:Nat):qT Tryz.prog (qrb N):=trivial
def qro (a0:Vector UInt8 16) (a1:ql) (z:Unit):TV×THp:=(xb (eqE (.ba 16) (ql.ID a1) a0),[(30,.cell false (.tv (.ba 16) a0))])
def qaO (a0:Vector UInt8 16) (a1:ql):Tree (Unit):=
 .ret ()
def qdf (a0:Vector UInt8 16) (a1:ql):Option (Unit):=(qaO a0 a1).run some
def qrs:List (Nat×qD):=[]
def qfK:Ent:=smF ⟨62,[],[.x qP],[.k (.p 30 [] 0)],[(30,.cell false (.x (.ba 16)))]⟩ [(.ba 16),qP] (Unit) (fun x=>qdf x.1 x.2.1) cs1 fun x=>qro x.1 x.2.1
theorem qo4:ze Tryz.prog (qfK):=
 zd (H:=qru) (L:=qL (qrs)) (ts:=[(.ba 16),qP]) (T:=fun x=>qaO x.1 x.2.1) 0 qJD (qnG 0) (qo (by kernel_rfl) trivial) (rg0 (by kernel_rfl)) fun x=>by kernel_rfl
noncomputable def qsB:Code:=Tryz.f61.body.getD .skip
theorem qKO:FnF Tryz.prog 61 Tryz.f61 qsB:=⟨qj,by kernel_rfl,by kernel_rfl,by kernel_rfl⟩
def VQ:TH:={ live:=[(0,[0,1]),(1,[0,1,7,8]),(2,[0,1,7,8,9]),(3,[0,1,5,7,8]),(4,[0,1,5,7,8,16]),(5,[4]),(6,[0,1,7,8]),(7,[4])] }
def qaG (N:Nat):List Ent:=[qfK]
theorem Y9 (N:Nat):qT Tryz.prog (qaG N):=⟨qo4,trivial⟩
abbrev QJ:=Vector UInt8 16×List ql×Int
abbrev jJ:=Int⊕(Int×Bool)
def vq (f:QJ):jJ→Ex×TSt
 | .inl y=>(.ret,⟨1,19,[30],[(4,xi y)],[(30,.cell false (.tv (.ba 16) f.1))],false,[]⟩)
 | .inr y=>(.exit 0,⟨1,19,[30],[(0,.tv (.sl 19 qP) f.2.1),(1,.fn (.func 62) [] [.p 30 [] 0]),(7,xi f.2.2),(8,xi y.1),(9,xb y.2)],[(30,.cell false (.tv (.ba 16) f.1))],false,[]⟩)
def qfs (N:Nat):List (Nat×qD):=[]
abbrev vw:=Int
def Yr:SP:=⟨1,19,[30],[(0,.x (.sl 19 qP)),(1,.fn 62 [] [.k (.p 30 [] 0)]),(7,.x (.i .i64)),(8,.x (.i .i64))],[(30,.cell false (.x (.ba 16)))],false,[]⟩
def qfd (f:QJ) (v:vw):TSt:=zJ Yr [dv (.ba 16) f.1,dv (.sl 19 qP) f.2.1,dv (.i .i64) f.2.2,dv (.i .i64) v]
def vz (N:Nat) (o_2:Vector UInt8 16) (s0_2:List ql) (s7_2:Int) (v:vw):Tree (vw⊕jJ):=
 .cond (decide (v < s7_2)) (
 .bind (zh s0_2 v) fun e1=>
 .bind (qdf o_2 e1) fun r2=>
 .cond (eqE (.ba 16) (ql.ID e1) o_2) (
 .ret (.inr (.inl v))) <|
 .chk (qt (v + 1)) <|
 .ret (.inl (v + 1))) <|
 .ret (.inr (.inr ((v,decide (v < s7_2)))))
def YN (N n:Nat) (f:QJ) (v:vw):Option jJ:=qY (vz N f.1 f.2.1 f.2.2) some n v
theorem qfC (N:Nat) (f:QJ) (n:Nat) (v:vw) (y:jJ) (h:YN N n f v=some y):LG Tryz.prog VQ 61 (qS qsB 2) (qfd f v) (vq f y):=
 zw qj (E:=qaG N) (L:=qL (qfs N)) (st:=vq f) (g:=some) (R:=vq f) (Y9 N) (qo (by kernel_rfl) trivial) (rg0 (by kernel_rfl)) (fun v=>by kernel_rfl) (q6 (st:=vq f) fun y=>by rcases y with _ | _<;>rfl) n v y h
def VI (N:Nat) (o_2:Vector UInt8 16) (s0_2:List ql) (s7_2:Int) (s8_2:Int):Option jJ:=YN N N (o_2,s0_2,s7_2) s8_2
def YC (N:Nat):qD:=smL Yr [(.ba 16),(.sl 19 qP),(.i .i64),(.i .i64)] jJ (fun x=>VI N x.1 x.2.1 x.2.2.1 x.2.2.2.1) (csS cs1) fun x=>vq (x.1,x.2.1,x.2.2.1)
theorem qe3 (N:Nat):jG Tryz.prog VQ 61 (qS qsB 2) (YC N):=zI fun x z h=>qfC N (x.1,x.2.1,x.2.2.1) N x.2.2.2.1 z h
def qie (a0:Vector UInt8 16) (z:Int):TV×THp:=(xi z,[(30,.cell false (.tv (.ba 16) a0))])
def VU (N:Nat) (a0:Vector UInt8 16) (a1:List ql):Tree (Int):=
 .bind (VI N a0 a1 ((a1.length:Nat):Int) 0) fun z1=>
 .sum z1 (fun z2=>
 .ret z2) fun z2=>
 .ret (-1)
def Jr (N:Nat) (a0:Vector UInt8 16) (a1:List ql):Option (Int):=(VU N a0 a1).run some
def qia (N:Nat):List (Nat×qD):=[(2,YC N)]
def qaA (N:Nat):Ent:=smF ⟨61,[],[.x (.sl 19 qP),.fn 62 [] [.k (.p 30 [] 0)]],[],[(30,.cell false (.x (.ba 16)))]⟩ [(.ba 16),(.sl 19 qP)] (Int) (fun x=>Jr N x.1 x.2.1) cs1 fun x=>qie x.1
theorem qg8 (N:Nat):ze Tryz.prog (qaA N):=
 zd (H:=VQ) (L:=qL (qia N)) (ts:=[(.ba 16),(.sl 19 qP)]) (T:=fun x=>VU N x.1 x.2.1) 0 qKO (Y9 N) (qo (by kernel_rfl) ⟨qe3 N,trivial⟩) (rg0 (by kernel_rfl)) fun x=>by kernel_rfl
noncomputable def qLN:Code:=Tryz.f96.body.getD .skip
theorem qts:FnF Tryz.prog 96 Tryz.f96 qLN:=⟨qj,by kernel_rfl,by kernel_rfl,by kernel_rfl⟩
def qmp:TH:={ live:=[(0,[0]),(1,[0,4]),(2,[2]),(3,[2])],vecs:=[5],esc:=true }
def qlF (N:Nat):List Ent:=[]
theorem qjt (N:Nat):qT Tryz.prog (qlF N):=trivial
def qcO (a0:List qn) (z:Unit):TV×THp:=(.v 100050 (((([]:List qn))++a0).length),[(100050,.vec false 37 (.sl 37 qZ) ((([]:List qn))++a0:List qn))])
def W8 (a0:List qn):Tree (Unit):=
 .chk (List.isEmpty a0=false) <|
 .chk (jF ((([]:List qn)).length) 0 (((([]:List qn))++a0).length) 88) <|
 .ret ()
def Kz (a0:List qn):Option (Unit):=(W8 a0).run some
def qmM:List (Nat×qD):=[]
theorem qjh:W2 Tryz.prog ⟨96,[],[.x (.sl 37 qZ)],[],[]⟩ [(.sl 37 qZ)] (fun x=>W8 x.1) (fun x=>qcO x.1):=
 VB (H:=qmp) (L:=qL (qmM)) 0 qts (qjt 0) (qo (by kernel_rfl) trivial) (rg0 (by kernel_rfl)) fun x=>by kernel_rfl
def qkh:TH:={ live:=[(0,[0]),(1,[0,4]),(2,[2]),(3,[2])],vecs:=[5],esc:=true }
def qja (N:Nat):List Ent:=[]
theorem qhB (N:Nat):qT Tryz.prog (qja N):=trivial
def qjY (z:Unit):TV×THp:=(.v 100050 0,[(100050,.vec false 37 (.sl 37 qZ) ([]:List qn))])
def qaX:Tree (Unit):=
 .chk (0=0) <|
 .ret ()
def qmg:Option (Unit):=(qaX).run some
def qjL:List (Nat×qD):=[]
theorem qhd:W2 Tryz.prog ⟨96,[],[.k (.es 0)],[],[]⟩ [] (fun x=>qaX) (fun _=>qjY):=
 VB (H:=qkh) (L:=qL (qjL)) 0 qts (qhB 0) (qo (by kernel_rfl) trivial) (rg0 (by kernel_rfl)) fun x=>by kernel_rfl
def qjl:TH:={ live:=[(0,[0]),(1,[0,4]),(2,[2]),(3,[2])],vecs:=[5],esc:=true }
def qj9 (N:Nat):List Ent:=[]
theorem qhL (N:Nat):qT Tryz.prog (qj9 N):=trivial
def qjB (z:Unit):TV×THp:=(.nils,[])
def qaT:Tree (Unit):=
 .ret ()
def ql9:Option (Unit):=(qaT).run some
def qjJ:List (Nat×qD):=[]
theorem qhn:W2 Tryz.prog ⟨96,[],[.k (.es 1)],[],[]⟩ [] (fun x=>qaT) (fun _=>qjB):=
 VB (H:=qjl) (L:=qL (qjJ)) 0 qts (qhL 0) (qo (by kernel_rfl) trivial) (rg0 (by kernel_rfl)) fun x=>by kernel_rfl
def qaY (z:Unit):Unit:=()
def qkc (z:Unit):Unit:=()
def Qs (a0:List qn):Option (Unit):=
 bif a0.isEmpty then
  (qmg).bind fun z0=>(ql9).bind fun z1=>chk (qaY z0=qkc z1) (some (qaY z0))
 else Kz a0
def qb3:Ent:=smF ⟨96,[],[.x (.sl 37 qZ)],[],[]⟩ [(.sl 37 qZ)] (Unit) (fun x=>Qs x.1) cs1 fun x=>qcO x.1
theorem qjj:ze Tryz.prog (qb3):=qe4 fun x z h l=>by
 obtain ⟨a0,_⟩:=x
 replace h:Qs a0=some z:=h
 unfold Qs at h
 rcases qeu h with ⟨e,h2⟩ | ⟨_,h2⟩<;>clear h
 ·have e:=List.isEmpty_iff.1 e
  subst e
  obtain ⟨z0,c0,h2⟩:=bind_some h2
  obtain ⟨z1,c1,h2⟩:=bind_some h2
  obtain ⟨hE,h2⟩:=qdN h2
  obtain rfl:=Option.some.inj h2
  refine qeB (t:=(.sl 37 qZ)) (x:=[]) rfl (TV.ers []) (TV.ers []) (by exact qhd (()) _ c0 l) ?_
  rw [hE]
  exact (qEM (n:=100050) (sz:=37) (x:=qE (.sl 37 qZ) ([]:List qn)) rfl (by kernel_rfl) (by kernel_rfl) (qhn (()) _ c1 l))
 ·exact qjh (a0,()) z h2 l
noncomputable def qLI:Code:=Tryz.f97.body.getD .skip
theorem qtP:FnF Tryz.prog 97 Tryz.f97 qLI:=⟨qj,by kernel_rfl,by kernel_rfl,by kernel_rfl⟩
def qpq:TH:={ live:=[(0,[0]),(1,[0,4]),(2,[2]),(3,[2])],vecs:=[5] }
def qoa (N:Nat):List Ent:=[]
theorem qm0 (N:Nat):qT Tryz.prog (qoa N):=trivial
def qeV (a0:List q_) (z:Unit):TV×THp:=(.tv (.sl 33 vG) ((([]:List q_))++a0:List q_),[])
def Ku (a0:List q_):Tree (Unit):=
 .chk (List.isEmpty a0=false) <|
 .chk (jF ((([]:List q_)).length) 0 (((([]:List q_))++a0).length) 36) <|
 .chk (((([]:List q_))++a0).length=((([]:List q_))++a0).length) <|
 .ret ()
def qbJ (a0:List q_):Option (Unit):=(Ku a0).run some
def qpR:List (Nat×qD):=[]
theorem qmA:W2 Tryz.prog ⟨97,[],[.x (.sl 33 vG)],[],[]⟩ [(.sl 33 vG)] (fun x=>Ku x.1) (fun x=>qeV x.1):=
 VB (H:=qpq) (L:=qL (qpR)) 0 qtP (qm0 0) (qo (by kernel_rfl) trivial) (rg0 (by kernel_rfl)) fun x=>by kernel_rfl
def qml:TH:={ live:=[(0,[0]),(1,[0,4]),(2,[2]),(3,[2])],vecs:=[5] }
def qlx (N:Nat):List Ent:=[]
theorem qkd (N:Nat):qT Tryz.prog (qlx N):=trivial
def qmc (z:Unit):TV×THp:=(.tv (.sl 33 vG) ([]:List q_),[])
def qc8:Tree (Unit):=
 .chk (0=0) <|
 .chk (0=0) <|
 .ret ()
def qoJ:Option (Unit):=(qc8).run some
def qlv:List (Nat×qD):=[]
theorem qjS:W2 Tryz.prog ⟨97,[],[.k (.es 0)],[],[]⟩ [] (fun x=>qc8) (fun _=>qmc):=
 VB (H:=qml) (L:=qL (qlv)) 0 qtP (qkd 0) (qo (by kernel_rfl) trivial) (rg0 (by kernel_rfl)) fun x=>by kernel_rfl
def qlu:TH:={ live:=[(0,[0]),(1,[0,4]),(2,[2]),(3,[2])],vecs:=[5] }
def qmn (N:Nat):List Ent:=[]
theorem qjg (N:Nat):qT Tryz.prog (qmn N):=trivial
def ql4 (z:Unit):TV×THp:=(.tv (.sl 33 vG) ([]:List q_),[])
def qcV:Tree (Unit):=
 .ret ()
def qoQ:Option (Unit):=(qcV).run some
def qmL:List (Nat×qD):=[]
theorem qjM:W2 Tryz.prog ⟨97,[],[.k (.es 1)],[],[]⟩ [] (fun x=>qcV) (fun _=>ql4):=
 VB (H:=qlu) (L:=qL (qmL)) 0 qtP (qjg 0) (qo (by kernel_rfl) trivial) (rg0 (by kernel_rfl)) fun x=>by kernel_rfl
def qcP (z:Unit):Unit:=()
def qmu (z:Unit):Unit:=()
def Zn (a0:List q_):Option (Unit):=
 bif a0.isEmpty then
  (qoJ).bind fun z0=>(qoQ).bind fun z1=>chk (qcP z0=qmu z1) (some (qcP z0))
 else qbJ a0
def qdw:Ent:=smF ⟨97,[],[.x (.sl 33 vG)],[],[]⟩ [(.sl 33 vG)] (Unit) (fun x=>Zn x.1) cs1 fun x=>qeV x.1
theorem ql1:ze Tryz.prog (qdw):=qe4 fun x z h l=>by
 obtain ⟨a0,_⟩:=x
 replace h:Zn a0=some z:=h
 unfold Zn at h
 rcases qeu h with ⟨e,h2⟩ | ⟨_,h2⟩<;>clear h
 ·have e:=List.isEmpty_iff.1 e
  subst e
  obtain ⟨z0,c0,h2⟩:=bind_some h2
  obtain ⟨z1,c1,h2⟩:=bind_some h2
  obtain ⟨hE,h2⟩:=qdN h2
  obtain rfl:=Option.some.inj h2
  refine qeB (t:=(.sl 33 vG)) (x:=[]) rfl (TV.ers []) (TV.ers []) (by exact qjS (()) _ c0 l) ?_
  rw [hE]
  exact (by exact qjM (()) _ c1 l)
 ·exact qmA (a0,()) z h2 l
noncomputable def qsz:Code:=Tryz.f63.body.getD .skip
theorem qJ6:FnF Tryz.prog 63 Tryz.f63 qsz:=⟨qj,by kernel_rfl,by kernel_rfl,by kernel_rfl⟩
def qdW:TH:={ live:=[(0,[1,2]),(1,[1,2]),(2,[1,2,10,11]),(3,[1,2,10,11,12]),(4,[1,2,3,10,11]),(5,[1,2,10,11]),(6,[1,2,10,11]),(7,[2])],fresh:=[6],nil:=[(0,[⟨.ob 20 [2],25,(.sl 37 qZ)⟩])] }
def qkE (N:Nat):List Ent:=[qb3,qdw]
theorem qhz (N:Nat):qT Tryz.prog (qkE N):=⟨qjj,ql1,trivial⟩
abbrev XZ:=List qn×Vector UInt8 16×qc×Nat×Vector UInt8 16×qc×Int
abbrev Zv:=List qn×Int×Bool
def JL (f:XZ) (y:Zv):Ex×TSt:=(.exit 0,⟨0,28,[],[(1,.p 10 [] 0),(2,.p 20 [] 0),(10,xi f.2.2.2.2.2.2),(11,xi y.2.1),(12,xb y.2.2)],[(10,.cell false (.ag [.tv (.ba 16) f.2.1,.tv qi f.2.2.1,.v 100050 f.2.2.2.1])),(20,.cell false (.ag [.tv (.ba 16) f.2.2.2.2.1,.tv qi f.2.2.2.2.2.1,.v 25 f.1.length])),(25,.vec false 37 (.sl 37 qZ) f.1),(100050,.vec false 37 (.sl 37 qZ) (y.1:List qn))],false,[]⟩)
def qqV (N:Nat):List (Nat×qD):=[]
abbrev JX:=List qn×Int
def qfQ:SP:=⟨0,28,[],[(1,.k (.p 10 [] 0)),(2,.k (.p 20 [] 0)),(10,.x (.i .i64)),(11,.x (.i .i64))],[(10,.cell false (.ag [.x (.ba 16),.x qi,.v 100050])),(20,.cell false (.ag [.x (.ba 16),.x qi,.vs 25])),(25,.vec false 37),(100050,.vec false 37)],false,[]⟩
def qrg (f:XZ) (v:JX):TSt:=zJ qfQ [dv (.sl 37 qZ) f.1,dv (.sl 37 qZ) v.1,dv (.ba 16) f.2.1,dv qi f.2.2.1,dv .nat f.2.2.2.1,dv (.ba 16) f.2.2.2.2.1,dv qi f.2.2.2.2.2.1,dv (.i .i64) f.2.2.2.2.2.2,dv (.i .i64) v.2]
def XP (N:Nat) (o_3:List qn) (o_3_3:Vector UInt8 16) (o_3_4:qc) (o_3_5:Nat) (o_3_6:Vector UInt8 16) (o_3_7:qc) (s10_3:Int) (v:JX):Tree (JX⊕Zv):=
 .cond (decide (v.2 < s10_3)) (
 .chk (0≤v.2∧v.2 < ((o_3_5:Nat):Int)) <|
 .bind (Xu v.1 o_3_5 v.2.toNat) fun e1=>
 .bind (Zn (qn.B e1)) fun r2=>
 .chk (0≤v.2∧v.2 < ((o_3_5:Nat):Int)) <|
 .bind (Xu v.1 o_3_5 v.2.toNat) fun e3=>
 .chk (qt (v.2 + 1)) <|
 .ret (.inl (v.1.set v.2.toNat (qn.mk (qn.No e3) (qn.S e3) (qn.Len e3) (qn.D e3) ((([]:List q_))++(qn.B e1))),v.2 + 1))) <|
 .ret (.inr (v.1,v.2,decide (v.2 < s10_3)))
def qga (N n:Nat) (f:XZ) (v:JX):Option Zv:=qY (XP N f.1 f.2.1 f.2.2.1 f.2.2.2.1 f.2.2.2.2.1 f.2.2.2.2.2.1 f.2.2.2.2.2.2) some n v
theorem qrp (N:Nat) (f:XZ) (n:Nat) (v:JX) (y:Zv) (h:qga N n f v=some y):LG Tryz.prog qdW 63 (qS qsz 3) (qrg f v) (JL f y):=
 zw qj (E:=qkE N) (L:=qL (qqV N)) (st:=JL f) (g:=some) (R:=JL f) (qhz N) (qo (by kernel_rfl) trivial) (rg0 (by kernel_rfl)) (fun v=>by kernel_rfl) (q6 (st:=JL f) fun y=>by rfl) n v y h
def qc9 (N:Nat) (o_3:List qn) (o_3_3:Vector UInt8 16) (o_3_4:qc) (o_3_5:Nat) (o_3_6:Vector UInt8 16) (o_3_7:qc) (s10_3:Int) (o_3_2:List qn) (s11_3:Int):Option Zv:=qga N N (o_3,o_3_3,o_3_4,o_3_5,o_3_6,o_3_7,s10_3) (o_3_2,s11_3)
def qfX (N:Nat):qD:=smL qfQ [(.sl 37 qZ),(.sl 37 qZ),(.ba 16),qi,.nat,(.ba 16),qi,(.i .i64),(.i .i64)] Zv (fun x=>qc9 N x.1 x.2.2.1 x.2.2.2.1 x.2.2.2.2.1 x.2.2.2.2.2.1 x.2.2.2.2.2.2.1 x.2.2.2.2.2.2.2.1 x.2.1 x.2.2.2.2.2.2.2.2.1) cs1 fun x=>JL (x.1,x.2.2.1,x.2.2.2.1,x.2.2.2.2.1,x.2.2.2.2.2.1,x.2.2.2.2.2.2.1,x.2.2.2.2.2.2.2.1)
theorem qp9 (N:Nat):jG Tryz.prog qdW 63 (qS qsz 3) (qfX N):=zI fun x z h=>qrp N (x.1,x.2.2.1,x.2.2.2.1,x.2.2.2.2.1,x.2.2.2.2.2.1,x.2.2.2.2.2.2.1,x.2.2.2.2.2.2.2.1) N (x.2.1,x.2.2.2.2.2.2.2.2.1) z h
def qxd (z:ql):TV×THp:=(.tv qP z,[])
def qdP (N:Nat) (a0:ql):Tree (ql):=
 .bind (Qs (ql.F a0)) fun r1=>
 .bind (je [(([]:List qn).length,0)] (qc9 N [] (ql.ID a0) (ql.qH a0) (((([]:List qn))++(ql.F a0)).length) ((Vector.replicate 16 0)) (qc.mk 0 0) ((((([]:List qn))++(ql.F a0)).length:Nat):Int) ((([]:List qn))++(ql.F a0)) 0)) fun z2=>
 .chk (z2.1.length=((([]:List qn))++(ql.F a0)).length) <|
 .ret (ql.mk (ql.ID a0) (ql.qH a0) z2.1)
def qc6 (N:Nat) (a0:ql):Option (ql):=(qdP N a0).run some
def qxa (N:Nat):List (Nat×qD):=[(3,qfX N)]
def qkk (N:Nat):Ent:=smF ⟨63,[],[.x qP],[],[]⟩ [qP] (ql) (fun x=>qc6 N x.1) cs1 fun _=>qxd
theorem quM (N:Nat):ze Tryz.prog (qkk N):=
 zd (H:=qdW) (L:=qL (qxa N)) (ts:=[qP]) (T:=fun x=>qdP N x.1) 0 qJ6 (qhz N) (qo (by kernel_rfl) ⟨qp9 N,trivial⟩) (rg0 (by kernel_rfl)) fun x=>by kernel_rfl
noncomputable def qKD:Code:=Tryz.f26.body.getD .skip
theorem qLF:FnF Tryz.prog 26 Tryz.f26 qKD:=⟨qj,by kernel_rfl,by kernel_rfl,by kernel_rfl⟩
def qvR:TH:={ live:=[(0,[2,3,4]),(1,[2,4,6]),(2,[2,4,6,12]),(3,[4,5]),(4,[4,5])],nil:=[(0,[⟨.ob 40 [2],45,(.sl 37 qZ)⟩]),(3,[⟨.ob 40 [2],45,(.sl 37 qZ)⟩])] }
def qup (N:Nat):List Ent:=[qaA N,qkk N]
theorem qqZ (N:Nat):qT Tryz.prog (qup N):=⟨qg8 N,quM N,trivial⟩
def qv6 (z:ql×Bool):TV×THp:=(.tup [.tv qP (z.1:ql),xb z.2],[])
def qcE (N:Nat) (a0:qk) (a1:Vector UInt8 16):Tree (ql×Bool):=
 .bind (Jr N a1 (qk.L a0)) fun r1=>
 .cond (decide (r1 < ((0:Int)))) (
 .chk (0=0) <|
 .ret (ql.mk ((Vector.replicate 16 0)) (qc.mk 0 0) [],false)) <|
 .bind (zh (qk.L a0) r1) fun e2=>
 .bind (qc6 N e2) fun r3=>
 .ret (r3,true)
def YG (N:Nat) (a0:qk) (a1:Vector UInt8 16):Option (ql×Bool):=(qcE N a0 a1).run some
def qwc (N:Nat):List (Nat×qD):=[]
def qiI (N:Nat):Ent:=smF ⟨26,[],[.x qw,.x (.ba 16)],[],[]⟩ [qw,(.ba 16)] (ql×Bool) (fun x=>YG N x.1 x.2.1) cs1 fun _=>qv6
theorem qtX (N:Nat):ze Tryz.prog (qiI N):=
 zd (H:=qvR) (L:=qL (qwc N)) (ts:=[qw,(.ba 16)]) (T:=fun x=>qcE N x.1 x.2.1) 0 qLF (qqZ N) (qo (by kernel_rfl) trivial) (rg0 (by kernel_rfl)) fun x=>by kernel_rfl
noncomputable def qKo:Code:=Tryz.f82.body.getD .skip
theorem qJX:FnF Tryz.prog 82 Tryz.f82 qKo:=⟨qj,by kernel_rfl,by kernel_rfl,by kernel_rfl⟩
def qqS:TH:={ live:=[(0,[1,2]),(1,[3])] }
def qq3 (N:Nat):List Ent:=[]
theorem qnI (N:Nat):qT Tryz.prog (qq3 N):=trivial
def qrB (a0:Int) (a1:qn) (z:Unit):TV×THp:=(xb (decide ((qn.No a1)=a0)),[(50,.cell false (xi a0))])
def qf5 (a0:Int) (a1:qn):Tree (Unit):=
 .ret ()
def qc7 (a0:Int) (a1:qn):Option (Unit):=(qf5 a0 a1).run some
def qqP:List (Nat×qD):=[]
def qf0:Ent:=smF ⟨82,[],[.x qZ],[.k (.p 50 [] 0)],[(50,.cell false (.x (.i .i64)))]⟩ [(.i .i64),qZ] (Unit) (fun x=>qc7 x.1 x.2.1) cs1 fun x=>qrB x.1 x.2.1
theorem qpz:ze Tryz.prog (qf0):=
 zd (H:=qqS) (L:=qL (qqP)) (ts:=[(.i .i64),qZ]) (T:=fun x=>qf5 x.1 x.2.1) 0 qJX (qnI 0) (qo (by kernel_rfl) trivial) (rg0 (by kernel_rfl)) fun x=>by kernel_rfl
noncomputable def qtC:Code:=Tryz.f64.body.getD .skip
theorem qJV:FnF Tryz.prog 64 Tryz.f64 qtC:=⟨qj,by kernel_rfl,by kernel_rfl,by kernel_rfl⟩
def J4:TH:={ live:=[(0,[0,1]),(1,[0,1,7,8]),(2,[0,1,7,8,9]),(3,[0,1,5,7,8]),(4,[0,1,5,7,8,16]),(5,[4]),(6,[0,1,7,8]),(7,[4])] }
def Kk (N:Nat):List Ent:=[qf0]
theorem WJ (N:Nat):qT Tryz.prog (Kk N):=⟨qpz,trivial⟩
abbrev Qf:=Int×List qn×Int
abbrev jt:=Int⊕(Int×Bool)
def j8 (f:Qf):jt→Ex×TSt
 | .inl y=>(.ret,⟨1,19,[50],[(4,xi y)],[(50,.cell false (xi f.1))],false,[]⟩)
 | .inr y=>(.exit 0,⟨1,19,[50],[(0,.tv (.sl 37 qZ) f.2.1),(1,.fn (.func 82) [] [.p 50 [] 0]),(7,xi f.2.2),(8,xi y.1),(9,xb y.2)],[(50,.cell false (xi f.1))],false,[]⟩)
def qdU (N:Nat):List (Nat×qD):=[]
abbrev jZ:=Int
def Wm:SP:=⟨1,19,[50],[(0,.x (.sl 37 qZ)),(1,.fn 82 [] [.k (.p 50 [] 0)]),(7,.x (.i .i64)),(8,.x (.i .i64))],[(50,.cell false (.x (.i .i64)))],false,[]⟩
def qd8 (f:Qf) (v:jZ):TSt:=zJ Wm [dv (.i .i64) f.1,dv (.sl 37 qZ) f.2.1,dv (.i .i64) f.2.2,dv (.i .i64) v]
def jV (N:Nat) (o_2:Int) (s0_2:List qn) (s7_2:Int) (v:jZ):Tree (jZ⊕jt):=
 .cond (decide (v < s7_2)) (
 .bind (zh s0_2 v) fun e1=>
 .bind (qc7 o_2 e1) fun r2=>
 .cond (decide ((qn.No e1)=o_2)) (
 .ret (.inr (.inl v))) <|
 .chk (qt (v + 1)) <|
 .ret (.inl (v + 1))) <|
 .ret (.inr (.inr ((v,decide (v < s7_2)))))
def X9 (N n:Nat) (f:Qf) (v:jZ):Option jt:=qY (jV N f.1 f.2.1 f.2.2) some n v
theorem qd5 (N:Nat) (f:Qf) (n:Nat) (v:jZ) (y:jt) (h:X9 N n f v=some y):LG Tryz.prog J4 64 (qS qtC 2) (qd8 f v) (j8 f y):=
 zw qj (E:=Kk N) (L:=qL (qdU N)) (st:=j8 f) (g:=some) (R:=j8 f) (WJ N) (qo (by kernel_rfl) trivial) (rg0 (by kernel_rfl)) (fun v=>by kernel_rfl) (q6 (st:=j8 f) fun y=>by rcases y with _ | _<;>rfl) n v y h
def JJ (N:Nat) (o_2:Int) (s0_2:List qn) (s7_2:Int) (s8_2:Int):Option jt:=X9 N N (o_2,s0_2,s7_2) s8_2
def Wx (N:Nat):qD:=smL Wm [(.i .i64),(.sl 37 qZ),(.i .i64),(.i .i64)] jt (fun x=>JJ N x.1 x.2.1 x.2.2.1 x.2.2.2.1) (csS cs1) fun x=>j8 (x.1,x.2.1,x.2.2.1)
theorem qdm (N:Nat):jG Tryz.prog J4 64 (qS qtC 2) (Wx N):=zI fun x z h=>qd5 N (x.1,x.2.1,x.2.2.1) N x.2.2.2.1 z h
def qgu (a0:Int) (z:Int):TV×THp:=(xi z,[(50,.cell false (xi a0))])
def JY (N:Nat) (a0:Int) (a1:List qn):Tree (Int):=
 .bind (JJ N a0 a1 ((a1.length:Nat):Int) 0) fun z1=>
 .sum z1 (fun z2=>
 .ret z2) fun z2=>
 .ret (-1)
def ZF (N:Nat) (a0:Int) (a1:List qn):Option (Int):=(JY N a0 a1).run some
def qge (N:Nat):List (Nat×qD):=[(2,Wx N)]
def Ki (N:Nat):Ent:=smF ⟨64,[],[.x (.sl 37 qZ),.fn 82 [] [.k (.p 50 [] 0)]],[],[(50,.cell false (.x (.i .i64)))]⟩ [(.i .i64),(.sl 37 qZ)] (Int) (fun x=>ZF N x.1 x.2.1) cs1 fun x=>qgu x.1
theorem qfx (N:Nat):ze Tryz.prog (Ki N):=
 zd (H:=J4) (L:=qL (qge N)) (ts:=[(.i .i64),(.sl 37 qZ)]) (T:=fun x=>JY N x.1 x.2.1) 0 qJV (WJ N) (qo (by kernel_rfl) ⟨qdm N,trivial⟩) (rg0 (by kernel_rfl)) fun x=>by kernel_rfl
noncomputable def qMj:Code:=Tryz.f49.body.getD .skip
theorem qKm:FnF Tryz.prog 49 Tryz.f49 qMj:=⟨qj,by kernel_rfl,by kernel_rfl,by kernel_rfl⟩
def qwb:TH:={ live:=[(0,[3,4,5]),(1,[3,4,7]),(2,[3,4,7,12]),(3,[6]),(4,[3,4,7,19]),(5,[6]),(6,[3,4,7,22]),(7,[6]),(8,[6])] }
def qvY (N:Nat):List Ent:=[Ki N,Jf N,qh0 N,qmz]
theorem qq5 (N:Nat):qT Tryz.prog (qvY N):=⟨qfx N,JE N,qiB N,qrM,trivial⟩
def quA (z:Bool):TV×THp:=(xb z,[])
def qcN (N:Nat) (a0:qd) (a1:ql) (a2:Int):Tree (Bool):=
 .bind (ZF N a2 (ql.F a1)) fun r1=>
 .bind (jT N (ql.qH a1) (qd.S a0)) fun r2=>
 .cond (!r2) (
 .ret false) <|
 .cond (decide (r1 < ((0:Int)))) (
 .ret true) <|
 .bind (zh (ql.F a1) r1) fun e3=>
 .cond (!(eqE qi (qn.S e3) (qd.S a0))) (
 .bind (zh (ql.F a1) r1) fun e4=>
 .bind (jT N (qn.S e4) (qd.S a0)) fun r5=>
 .ret r5) <|
 .bind (zh (ql.F a1) r1) fun e4=>
 .bind (qfa N (qd.V a0)) fun r5=>
 .bind (qdB (qn.D e4) r5) fun r6=>
 .ret r6
def YH (N:Nat) (a0:qd) (a1:ql) (a2:Int):Option (Bool):=(qcN N a0 a1 a2).run some
def qvU (N:Nat):List (Nat×qD):=[]
def qin (N:Nat):Ent:=smF ⟨49,[],[.x qp,.x qP,.x (.i .i64)],[],[]⟩ [qp,qP,(.i .i64)] (Bool) (fun x=>YH N x.1 x.2.1 x.2.2.1) cs1 fun _=>quA
theorem qtg (N:Nat):ze Tryz.prog (qin N):=
 zd (H:=qwb) (L:=qL (qvU N)) (ts:=[qp,qP,(.i .i64)]) (T:=fun x=>qcN N x.1 x.2.1 x.2.2.1) 0 qKm (qq5 N) (qo (by kernel_rfl) trivial) (rg0 (by kernel_rfl)) fun x=>by kernel_rfl
noncomputable def qKv:Code:=Tryz.f33.body.getD .skip
theorem qJG:FnF Tryz.prog 33 Tryz.f33 qKv:=⟨qj,by kernel_rfl,by kernel_rfl,by kernel_rfl⟩
def qAC:TH:={ live:=[(0,[1]),(1,[2])],dec:=[7] }
def qA4 (N:Nat):List Ent:=[]
theorem qww (N:Nat):qT Tryz.prog (qA4 N):=trivial
def qBo (z:Bool):TV×THp:=(xb z,[])
def qha (a0:qa):Tree (Bool):=
 .cond (eqE qi (qa.qH a0) (qc.mk 0 0)) (
 .ret (decide ((((qa.F a0).length:Nat):Int)=((0:Int))))) <|
 .ret false
def qcA (a0:qa):Option (Bool):=(qha a0).run some
def qz5:List (Nat×qD):=[]
def qhg:Ent:=smF ⟨33,[],[.x qf],[],[]⟩ [qf] (Bool) (fun x=>qcA x.1) cs1 fun _=>qBo
theorem qm3:ze Tryz.prog (qhg):=
 zd (H:=qAC) (L:=qL (qz5)) (ts:=[qf]) (T:=fun x=>qha x.1) 0 qJG (qww 0) (qo (by kernel_rfl) trivial) (rg0 (by kernel_rfl)) fun x=>by kernel_rfl
def qld:TH:={ live:=[(0,[2,3]),(1,[2,3,14]),(2,[4]),(3,[2,3,5]),(4,[5,17]),(5,[5,6]),(6,[5,6,21]),(8,[4])],dec:=[10],fresh:=[17] }
def qkZ (N:Nat):List Ent:=[qhg]
theorem qh7 (N:Nat):qT Tryz.prog (qkZ N):=⟨qm3,trivial⟩
def qlb (a0:qe) (a1:qk) (a2:qa):Unit⊕Unit→TV×THp
 | .inl z=>(.bc true,[(50,.cell false (.v 200250 1)),(50050,.loop [18] 27 [(5,.p 50 [] 0),(17,.fn (.func 79) [] [.p 100020 [] 0,.p 100030 [] 0])] 1600005 16 .ready none 50051),(50051,.dfr true),(100020,.cell false (.tv qu a0)),(100030,.cell false (.tv qw a1)),(200250,.vec false 19 (.sl 19 qf) ([a2]:List qa))])
 | .inr z=>(.bc true,[(50,.cell false .nils),(50050,.loop [18] 27 [(5,.p 50 [] 0),(17,.fn (.func 79) [] [.p 100020 [] 0,.p 100030 [] 0])] 1600005 16 .ready none 50051),(50051,.dfr true),(100020,.cell false (.tv qu a0)),(100030,.cell false (.tv qw a1))])
def Wb (a0:qe) (a1:qk) (a2:qa):Tree (Unit⊕Unit):=
 .bind (qcA a2) fun r1=>
 .cond (!r1) (
 .chk (qwM 1 56) <|
 .ret (.inl ())) <|
 .ret (.inr ())
def Qr (a0:qe) (a1:qk) (a2:qa):Option (Unit⊕Unit):=(Wb a0 a1 a2).run some
def qkY:List (Nat×qD):=[]
def qbS:Ent:=smR 50050 [.x qf] [(50,.cell false (.k .nils)),(50050,.loop [18] 27 [(5,.k (.p 50 [] 0)),(17,.fn 79 [] [.k (.p 100020 [] 0),.k (.p 100030 [] 0)])] 1600005 16 .ready none 50051),(50051,.dfr true),(100020,.cell false (.x qu)),(100030,.cell false (.x qw))] [qu,qw,qf] (Unit⊕Unit) (fun x=>Qr x.1 x.2.1 x.2.2.1) (csS cs1) fun x=>qlb x.1 x.2.1 x.2.2.1
theorem qjn:ze Tryz.prog (qbS):=
 qGZ (H:=qld) (L:=qL (qkY)) (ts:=[qu,qw,qf]) (T:=fun x=>Wb x.1 x.2.1 x.2.2.1) (K:=16) (cid:=1600005) 2 qj (qh7 0) (by kernel_rfl) (qo (by kernel_rfl) trivial) (rg0 (by kernel_rfl)) (rg0 (by kernel_rfl)) (fun x=>by kernel_rfl) fun x=>by kernel_rfl
def qii:TH:={ live:=[(0,[2,3]),(1,[2,3,14]),(2,[4]),(3,[2,3,5]),(4,[5,17]),(5,[5,6]),(6,[5,6,21]),(8,[4])],dec:=[10],fresh:=[17] }
def qih (N:Nat):List Ent:=[qhg]
theorem qgh (N:Nat):qT Tryz.prog (qih N):=⟨qm3,trivial⟩
def qib (a1:qe) (a2:qk) (z:List qa):TV×THp:=(.bc true,[(50,.cell false (.v 200250 z.length)),(50050,.loop [18] 27 [(5,.p 50 [] 0),(17,.fn (.func 79) [] [.p 100020 [] 0,.p 100030 [] 0])] 1600005 16 .ready none 50051),(50051,.dfr true),(100020,.cell false (.tv qu a1)),(100030,.cell false (.tv qw a2)),(200250,.vec false 19 (.sl 19 qf) z)])
def VN (a0:List qa) (a1:qe) (a2:qk) (a3:qa):Tree (List qa):=
 .bind (qcA a3) fun r1=>
 .cond (!r1) (
 .chk (jF a0.length a0.length ((a0++[a3]).length) 56) <|
 .ret (a0++[a3])) <|
 .ret a0
def Q1 (a0:List qa) (a1:qe) (a2:qk) (a3:qa):Option (List qa):=(VN a0 a1 a2 a3).run some
def qig:List (Nat×qD):=[]
def qaF:Ent:=smR 50050 [.x qf] [(50,.cell false (.vs 200250)),(50050,.loop [18] 27 [(5,.k (.p 50 [] 0)),(17,.fn 79 [] [.k (.p 100020 [] 0),.k (.p 100030 [] 0)])] 1600005 16 .ready none 50051),(50051,.dfr true),(100020,.cell false (.x qu)),(100030,.cell false (.x qw)),(200250,.vec false 19)] [(.sl 19 qf),qu,qw,qf] (List qa) (fun x=>Q1 x.1 x.2.1 x.2.2.1 x.2.2.2.1) cs1 fun x=>qib x.2.1 x.2.2.1
theorem qhi:ze Tryz.prog (qaF):=
 qGZ (H:=qii) (L:=qL (qig)) (ts:=[(.sl 19 qf),qu,qw,qf]) (T:=fun x=>VN x.1 x.2.1 x.2.2.1 x.2.2.2.1) (K:=16) (cid:=1600005) 3 qj (qgh 0) (by kernel_rfl) (qo (by kernel_rfl) trivial) (rg0 (by kernel_rfl)) (rg0 (by kernel_rfl)) (fun x=>by kernel_rfl) fun x=>by kernel_rfl
noncomputable def Kr:Code:=Tryz.f79.body.getD .skip
theorem qJy:FnF Tryz.prog 79 Tryz.f79 Kr:=⟨qj,by kernel_rfl,by kernel_rfl,by kernel_rfl⟩
def QW:TH:={ live:=[(0,[0,2,12,13,14]),(1,[0,2,12,13,14,15]),(2,[0,2,5,12,13,14]),(3,[0,2,5,6,12,13,14]),(4,[0,2,5,6,8,12,13,14]),(5,[0,2,5,6,8,12,13,14,32]),(6,[0,2,5,6,8,12,13,14]),(7,[0,2,6,8,12,13,14,37,38,39]),(8,[0,2,6,8,12,13,14,37,38,39,40]),(9,[0,2,6,8,10,12,13,14,37,38,39]),(10,[0,2,6,8,10,12,13,14,37,38,39,48]),(11,[0,2,6,8,12,13,14,37,38,39]),(12,[0,2,6,8,12,13,14,37,38,39]),(13,[0,2,12,13,14,59]),(14,[0,2,12,13,14])],fresh:=[58],nil:=[(4,[⟨.ob 200080 [2],200085,(.sl 4 qx)⟩])] }
def Wr (N:Nat):List Ent:=[qiI N,Jf N,qin N,qbS,qaF]
theorem VE (N:Nat):qT Tryz.prog (Wr N):=⟨qtX N,JE N,qtg N,qjn,qhi,trivial⟩
abbrev XV:=qe×qk×ql×Vector UInt8 16×qc×List qa×Int×Int×List qb×Int
abbrev Zt:=List qb×Int×Bool
def JU (f:XV) (y:Zt):Ex×TSt:=(.exit 2,⟨2,61,[50,50050,50051,100020,100030],[(0,.yl 50050),(2,.p 100030 [] 0),(6,.p 200060 [] 0),(8,.p 200080 [] 0),(12,.tv (.sl 19 qf) f.2.2.2.2.2.1),(13,xi f.2.2.2.2.2.2.1),(14,xi f.2.2.2.2.2.2.2.1),(37,.tv (.sl 4 qx) f.2.2.2.2.2.2.2.2.1),(38,xi f.2.2.2.2.2.2.2.2.2),(39,xi y.2.1),(40,xb y.2.2)],[(50,.cell false .nils),(50050,.loop [18] 27 [(5,.p 50 [] 0),(17,.fn (.func 79) [] [.p 100020 [] 0,.p 100030 [] 0])] 1600005 16 .ready none 50051),(50051,.dfr true),(100020,.cell false (.tv qu f.1)),(100030,.cell false (.tv qw f.2.1)),(200060,.cell false (.tv qP f.2.2.1)),(200080,.cell false (.ag [.tv (.ba 16) f.2.2.2.1,.tv qi f.2.2.2.2.1,.v 200085 y.1.length])),(200085,.vec false 4 (.sl 4 qx) (y.1:List qb))],false,[]⟩)
def qrj (N:Nat):List (Nat×qD):=[]
abbrev JT:=List qb×Int
def qf_:SP:=⟨2,61,[50,50050,50051,100020,100030],[(0,.k (.yl 50050)),(2,.k (.p 100030 [] 0)),(6,.k (.p 200060 [] 0)),(8,.k (.p 200080 [] 0)),(12,.x (.sl 19 qf)),(13,.x (.i .i64)),(14,.x (.i .i64)),(37,.x (.sl 4 qx)),(38,.x (.i .i64)),(39,.x (.i .i64))],[(50,.cell false (.k .nils)),(50050,.loop [18] 27 [(5,.k (.p 50 [] 0)),(17,.fn 79 [] [.k (.p 100020 [] 0),.k (.p 100030 [] 0)])] 1600005 16 .ready none 50051),(50051,.dfr true),(100020,.cell false (.x qu)),(100030,.cell false (.x qw)),(200060,.cell false (.x qP)),(200080,.cell false (.ag [.x (.ba 16),.x qi,.vs 200085])),(200085,.vec false 4)],false,[]⟩
def qrh (f:XV) (v:JT):TSt:=zJ qf_ [dv (.sl 4 qx) v.1,dv qu f.1,dv qw f.2.1,dv qP f.2.2.1,dv (.ba 16) f.2.2.2.1,dv qi f.2.2.2.2.1,dv (.sl 19 qf) f.2.2.2.2.2.1,dv (.i .i64) f.2.2.2.2.2.2.1,dv (.i .i64) f.2.2.2.2.2.2.2.1,dv (.sl 4 qx) f.2.2.2.2.2.2.2.2.1,dv (.i .i64) f.2.2.2.2.2.2.2.2.2,dv (.i .i64) v.2]
def XR (N:Nat) (o_8_2:qe) (o_8_3:qk) (o_8_4:ql) (o_8_5:Vector UInt8 16) (o_8_6:qc) (s12_8:List qa) (s13_8:Int) (s14_8:Int) (s37_8:List qb) (s38_8:Int) (v:JT):Tree (JT⊕Zt):=
 .cond (decide (v.2 < s38_8)) (
 .bind (zh s37_8 v.2) fun e1=>
 .bind (YH N (qb.C e1) o_8_4 (qb.No e1)) fun r2=>
 .cond r2 (
 .chk (jF v.1.length v.1.length ((v.1++[e1]).length) 40) <|
 .chk (qt (v.2 + 1)) <|
 .ret (.inl (v.1++[e1],v.2 + 1))) <|
 .chk (qt (v.2 + 1)) <|
 .ret (.inl (v.1,v.2 + 1))) <|
 .ret (.inr (v.1,v.2,decide (v.2 < s38_8)))
def qfZ (N n:Nat) (f:XV) (v:JT):Option Zt:=qY (XR N f.1 f.2.1 f.2.2.1 f.2.2.2.1 f.2.2.2.2.1 f.2.2.2.2.2.1 f.2.2.2.2.2.2.1 f.2.2.2.2.2.2.2.1 f.2.2.2.2.2.2.2.2.1 f.2.2.2.2.2.2.2.2.2) some n v
theorem qre (N:Nat) (f:XV) (n:Nat) (v:JT) (y:Zt) (h:qfZ N n f v=some y):LG Tryz.prog QW 79 (qS (qS Kr 1) 8) (qrh f v) (JU f y):=
 zw qj (E:=Wr N) (L:=qL (qrj N)) (st:=JU f) (g:=some) (R:=JU f) (VE N) (qo (by kernel_rfl) trivial) (rg0 (by kernel_rfl)) (fun v=>by kernel_rfl) (q6 (st:=JU f) fun y=>by rfl) n v y h
def V6 (N:Nat) (o_8_2:qe) (o_8_3:qk) (o_8_4:ql) (o_8_5:Vector UInt8 16) (o_8_6:qc) (s12_8:List qa) (s13_8:Int) (s14_8:Int) (s37_8:List qb) (s38_8:Int) (o_8:List qb) (s39_8:Int):Option Zt:=qfZ N N (o_8_2,o_8_3,o_8_4,o_8_5,o_8_6,s12_8,s13_8,s14_8,s37_8,s38_8) (o_8,s39_8)
def qf7 (N:Nat):qD:=smL qf_ [(.sl 4 qx),qu,qw,qP,(.ba 16),qi,(.sl 19 qf),(.i .i64),(.i .i64),(.sl 4 qx),(.i .i64),(.i .i64)] Zt (fun x=>V6 N x.2.1 x.2.2.1 x.2.2.2.1 x.2.2.2.2.1 x.2.2.2.2.2.1 x.2.2.2.2.2.2.1 x.2.2.2.2.2.2.2.1 x.2.2.2.2.2.2.2.2.1 x.2.2.2.2.2.2.2.2.2.1 x.2.2.2.2.2.2.2.2.2.2.1 x.1 x.2.2.2.2.2.2.2.2.2.2.2.1) cs1 fun x=>JU (x.2.1,x.2.2.1,x.2.2.2.1,x.2.2.2.2.1,x.2.2.2.2.2.1,x.2.2.2.2.2.2.1,x.2.2.2.2.2.2.2.1,x.2.2.2.2.2.2.2.2.1,x.2.2.2.2.2.2.2.2.2.1,x.2.2.2.2.2.2.2.2.2.2.1)
theorem qeC (N:Nat):jG Tryz.prog QW 79 (qS (qS Kr 1) 8) (qf7 N):=zI fun x z h=>qre N (x.2.1,x.2.2.1,x.2.2.2.1,x.2.2.2.2.1,x.2.2.2.2.2.1,x.2.2.2.2.2.2.1,x.2.2.2.2.2.2.2.1,x.2.2.2.2.2.2.2.2.1,x.2.2.2.2.2.2.2.2.2.1,x.2.2.2.2.2.2.2.2.2.2.1) N (x.1,x.2.2.2.2.2.2.2.2.2.2.2.1) z h
abbrev VL:=List qa×qe×qk×ql×Vector UInt8 16×qc×List qa×Int×Int×List qb×Int
abbrev Qt:=List qb×Int×Bool
def ZJ (f:VL) (y:Qt):Ex×TSt:=(.exit 2,⟨2,61,[50,50050,50051,100020,100030],[(0,.yl 50050),(2,.p 100030 [] 0),(6,.p 200060 [] 0),(8,.p 200080 [] 0),(12,.tv (.sl 19 qf) f.2.2.2.2.2.2.1),(13,xi f.2.2.2.2.2.2.2.1),(14,xi f.2.2.2.2.2.2.2.2.1),(37,.tv (.sl 4 qx) f.2.2.2.2.2.2.2.2.2.1),(38,xi f.2.2.2.2.2.2.2.2.2.2),(39,xi y.2.1),(40,xb y.2.2)],[(50,.cell false (.v 200250 f.1.length)),(50050,.loop [18] 27 [(5,.p 50 [] 0),(17,.fn (.func 79) [] [.p 100020 [] 0,.p 100030 [] 0])] 1600005 16 .ready none 50051),(50051,.dfr true),(100020,.cell false (.tv qu f.2.1)),(100030,.cell false (.tv qw f.2.2.1)),(200060,.cell false (.tv qP f.2.2.2.1)),(200080,.cell false (.ag [.tv (.ba 16) f.2.2.2.2.1,.tv qi f.2.2.2.2.2.1,.v 200085 y.1.length])),(200085,.vec false 4 (.sl 4 qx) (y.1:List qb)),(200250,.vec false 19 (.sl 19 qf) f.1)],false,[]⟩)
def qnF (N:Nat):List (Nat×qD):=[]
abbrev ZM:=List qb×Int
def qdz:SP:=⟨2,61,[50,50050,50051,100020,100030],[(0,.k (.yl 50050)),(2,.k (.p 100030 [] 0)),(6,.k (.p 200060 [] 0)),(8,.k (.p 200080 [] 0)),(12,.x (.sl 19 qf)),(13,.x (.i .i64)),(14,.x (.i .i64)),(37,.x (.sl 4 qx)),(38,.x (.i .i64)),(39,.x (.i .i64))],[(50,.cell false (.vs 200250)),(50050,.loop [18] 27 [(5,.k (.p 50 [] 0)),(17,.fn 79 [] [.k (.p 100020 [] 0),.k (.p 100030 [] 0)])] 1600005 16 .ready none 50051),(50051,.dfr true),(100020,.cell false (.x qu)),(100030,.cell false (.x qw)),(200060,.cell false (.x qP)),(200080,.cell false (.ag [.x (.ba 16),.x qi,.vs 200085])),(200085,.vec false 4),(200250,.vec false 19)],false,[]⟩
def qnU (f:VL) (v:ZM):TSt:=zJ qdz [dv (.sl 4 qx) v.1,dv (.sl 19 qf) f.1,dv qu f.2.1,dv qw f.2.2.1,dv qP f.2.2.2.1,dv (.ba 16) f.2.2.2.2.1,dv qi f.2.2.2.2.2.1,dv (.sl 19 qf) f.2.2.2.2.2.2.1,dv (.i .i64) f.2.2.2.2.2.2.2.1,dv (.i .i64) f.2.2.2.2.2.2.2.2.1,dv (.sl 4 qx) f.2.2.2.2.2.2.2.2.2.1,dv (.i .i64) f.2.2.2.2.2.2.2.2.2.2,dv (.i .i64) v.2]
def qn3 (N:Nat) (o_8_2:List qa) (o_8_3:qe) (o_8_4:qk) (o_8_5:ql) (o_8_6:Vector UInt8 16) (o_8_7:qc) (s12_8:List qa) (s13_8:Int) (s14_8:Int) (s37_8:List qb) (s38_8:Int) (v:ZM):Tree (ZM⊕Qt):=
 .cond (decide (v.2 < s38_8)) (
 .bind (zh s37_8 v.2) fun e1=>
 .bind (YH N (qb.C e1) o_8_5 (qb.No e1)) fun r2=>
 .cond r2 (
 .chk (jF v.1.length v.1.length ((v.1++[e1]).length) 40) <|
 .chk (qt (v.2 + 1)) <|
 .ret (.inl (v.1++[e1],v.2 + 1))) <|
 .chk (qt (v.2 + 1)) <|
 .ret (.inl (v.1,v.2 + 1))) <|
 .ret (.inr (v.1,v.2,decide (v.2 < s38_8)))
def qdr (N n:Nat) (f:VL) (v:ZM):Option Qt:=qY (qn3 N f.1 f.2.1 f.2.2.1 f.2.2.2.1 f.2.2.2.2.1 f.2.2.2.2.2.1 f.2.2.2.2.2.2.1 f.2.2.2.2.2.2.2.1 f.2.2.2.2.2.2.2.2.1 f.2.2.2.2.2.2.2.2.2.1 f.2.2.2.2.2.2.2.2.2.2) some n v
theorem qnL (N:Nat) (f:VL) (n:Nat) (v:ZM) (y:Qt) (h:qdr N n f v=some y):LG Tryz.prog QW 79 (qS (qS Kr 1) 8) (qnU f v) (ZJ f y):=
 zw qj (E:=Wr N) (L:=qL (qnF N)) (st:=ZJ f) (g:=some) (R:=ZJ f) (VE N) (qo (by kernel_rfl) trivial) (rg0 (by kernel_rfl)) (fun v=>by kernel_rfl) (q6 (st:=ZJ f) fun y=>by rfl) n v y h
def X1 (N:Nat) (o_8_2:List qa) (o_8_3:qe) (o_8_4:qk) (o_8_5:ql) (o_8_6:Vector UInt8 16) (o_8_7:qc) (s12_8:List qa) (s13_8:Int) (s14_8:Int) (s37_8:List qb) (s38_8:Int) (o_8:List qb) (s39_8:Int):Option Qt:=qdr N N (o_8_2,o_8_3,o_8_4,o_8_5,o_8_6,o_8_7,s12_8,s13_8,s14_8,s37_8,s38_8) (o_8,s39_8)
def qdq (N:Nat):qD:=smL qdz [(.sl 4 qx),(.sl 19 qf),qu,qw,qP,(.ba 16),qi,(.sl 19 qf),(.i .i64),(.i .i64),(.sl 4 qx),(.i .i64),(.i .i64)] Qt (fun x=>X1 N x.2.1 x.2.2.1 x.2.2.2.1 x.2.2.2.2.1 x.2.2.2.2.2.1 x.2.2.2.2.2.2.1 x.2.2.2.2.2.2.2.1 x.2.2.2.2.2.2.2.2.1 x.2.2.2.2.2.2.2.2.2.1 x.2.2.2.2.2.2.2.2.2.2.1 x.2.2.2.2.2.2.2.2.2.2.2.1 x.1 x.2.2.2.2.2.2.2.2.2.2.2.2.1) cs1 fun x=>ZJ (x.2.1,x.2.2.1,x.2.2.2.1,x.2.2.2.2.1,x.2.2.2.2.2.1,x.2.2.2.2.2.2.1,x.2.2.2.2.2.2.2.1,x.2.2.2.2.2.2.2.2.1,x.2.2.2.2.2.2.2.2.2.1,x.2.2.2.2.2.2.2.2.2.2.1,x.2.2.2.2.2.2.2.2.2.2.2.1)
theorem qcF (N:Nat):jG Tryz.prog QW 79 (qS (qS Kr 1) 8) (qdq N):=zI fun x z h=>qnL N (x.2.1,x.2.2.1,x.2.2.2.1,x.2.2.2.2.1,x.2.2.2.2.2.1,x.2.2.2.2.2.2.1,x.2.2.2.2.2.2.2.1,x.2.2.2.2.2.2.2.2.1,x.2.2.2.2.2.2.2.2.2.1,x.2.2.2.2.2.2.2.2.2.2.1,x.2.2.2.2.2.2.2.2.2.2.2.1) N (x.1,x.2.2.2.2.2.2.2.2.2.2.2.2.1) z h
abbrev jQ:=qe×qk×List qa×Int
abbrev jD:=(Int×Bool)⊕(List qa×Int×Bool)
def jS (f:jQ):jD→Ex×TSt
 | .inl y=>(.exit 0,⟨2,61,[50,50050,50051,100020,100030],[(0,.yl 50050),(2,.p 100030 [] 0),(12,.tv (.sl 19 qf) f.2.2.1),(13,xi f.2.2.2),(14,xi y.1),(15,xb y.2)],[(50,.cell false .nils),(50050,.loop [18] 27 [(5,.p 50 [] 0),(17,.fn (.func 79) [] [.p 100020 [] 0,.p 100030 [] 0])] 1600005 16 .ready none 50051),(50051,.dfr true),(100020,.cell false (.tv qu f.1)),(100030,.cell false (.tv qw f.2.1))],false,[]⟩)
 | .inr y=>(.exit 0,⟨2,61,[50,50050,50051,100020,100030],[(0,.yl 50050),(2,.p 100030 [] 0),(12,.tv (.sl 19 qf) f.2.2.1),(13,xi f.2.2.2),(14,xi y.2.1),(15,xb y.2.2)],[(50,.cell false (.v 200250 y.1.length)),(50050,.loop [18] 27 [(5,.p 50 [] 0),(17,.fn (.func 79) [] [.p 100020 [] 0,.p 100030 [] 0])] 1600005 16 .ready none 50051),(50051,.dfr true),(100020,.cell false (.tv qu f.1)),(100030,.cell false (.tv qw f.2.1)),(200250,.vec false 19 (.sl 19 qf) (y.1:List qa))],false,[]⟩)
def qgd (N:Nat):List (Nat×qD):=[(8,qf7 N),(8,qdq N)]
abbrev Qc:=List qa×Int
def qlD:SP:=⟨2,61,[50,50050,50051,100020,100030],[(0,.k (.yl 50050)),(2,.k (.p 100030 [] 0)),(12,.x (.sl 19 qf)),(13,.x (.i .i64)),(14,.x (.i .i64))],[(50,.cell false (.vs 200250)),(50050,.loop [18] 27 [(5,.k (.p 50 [] 0)),(17,.fn 79 [] [.k (.p 100020 [] 0),.k (.p 100030 [] 0)])] 1600005 16 .ready none 50051),(50051,.dfr true),(100020,.cell false (.x qu)),(100030,.cell false (.x qw)),(200250,.vec false 19)],false,[]⟩
def qdh (f:jQ) (v:Qc):TSt:=zJ qlD [dv (.sl 19 qf) v.1,dv qu f.1,dv qw f.2.1,dv (.sl 19 qf) f.2.2.1,dv (.i .i64) f.2.2.2,dv (.i .i64) v.2]
def Zf (N:Nat) (o_1:qe) (o_1_2:qk) (s12_1:List qa) (s13_1:Int) (v:Qc):Tree (Qc⊕jD):=
 .cond (decide (v.2 < s13_1)) (
 .bind (zh s12_1 v.2) fun e1=>
 .bind (YG N o_1_2 (qa.ID e1)) fun r2=>
 .bind (jT N (ql.qH r2.1) (qa.qH e1)) fun r3=>
 .cond r3 (
 .bind (je [(v.1.length,v.1.length),(([]:List qb).length,0)] (X1 N v.1 o_1 o_1_2 r2.1 (qa.ID e1) (qa.qH e1) s12_1 s13_1 v.2 (qa.F e1) (((qa.F e1).length:Nat):Int) [] 0)) fun z4=>
 .chk (z4.1.length=z4.1.length) <|
 .bind (je [(v.1.length,v.1.length)] (Q1 v.1 o_1 o_1_2 (qa.mk (qa.ID e1) (qa.qH e1) z4.1))) fun r5=>
 .chk (qt (v.2 + 1)) <|
 .ret (.inl (r5,v.2 + 1))) <|
 .bind (je [(v.1.length,v.1.length),(([]:List qb).length,0)] (X1 N v.1 o_1 o_1_2 r2.1 (qa.ID e1) (qc.mk 0 0) s12_1 s13_1 v.2 (qa.F e1) (((qa.F e1).length:Nat):Int) [] 0)) fun z4=>
 .chk (z4.1.length=z4.1.length) <|
 .bind (je [(v.1.length,v.1.length)] (Q1 v.1 o_1 o_1_2 (qa.mk (qa.ID e1) (qc.mk 0 0) z4.1))) fun r5=>
 .chk (qt (v.2 + 1)) <|
 .ret (.inl (r5,v.2 + 1))) <|
 .ret (.inr (.inr ((v.1,v.2,decide (v.2 < s13_1)))))
def qcq (N n:Nat) (f:jQ) (v:Qc):Option jD:=qY (Zf N f.1 f.2.1 f.2.2.1 f.2.2.2) some n v
theorem qmO (N:Nat) (f:jQ) (n:Nat) (v:Qc) (y:jD) (h:qcq N n f v=some y):LG Tryz.prog QW 79 (qS Kr 1) (qdh f v) (jS f y):=
 zw qj (E:=Wr N) (L:=qL (qgd N)) (st:=jS f) (g:=some) (R:=jS f) (VE N) (qo (by kernel_rfl) ⟨qeC N,qcF N,trivial⟩) (rg0 (by kernel_rfl)) (fun v=>by kernel_rfl) (q6 (st:=jS f) fun y=>by rcases y with _ | _<;>rfl) n v y h
abbrev JS:=Int
def qf6:SP:=⟨2,61,[50,50050,50051,100020,100030],[(0,.k (.yl 50050)),(2,.k (.p 100030 [] 0)),(12,.x (.sl 19 qf)),(13,.x (.i .i64)),(14,.x (.i .i64))],[(50,.cell false (.k .nils)),(50050,.loop [18] 27 [(5,.k (.p 50 [] 0)),(17,.fn 79 [] [.k (.p 100020 [] 0),.k (.p 100030 [] 0)])] 1600005 16 .ready none 50051),(50051,.dfr true),(100020,.cell false (.x qu)),(100030,.cell false (.x qw))],false,[]⟩
def qrr (f:jQ) (v:JS):TSt:=zJ qf6 [dv qu f.1,dv qw f.2.1,dv (.sl 19 qf) f.2.2.1,dv (.i .i64) f.2.2.2,dv (.i .i64) v]
abbrev XS:=Qc⊕jD
def JW (N:Nat) (o_1:qe) (o_1_2:qk) (s12_1:List qa) (s13_1:Int) (v:JS):Tree (JS⊕XS):=
 .cond (decide (v < s13_1)) (
 .bind (zh s12_1 v) fun e1=>
 .bind (YG N o_1_2 (qa.ID e1)) fun r2=>
 .bind (jT N (ql.qH r2.1) (qa.qH e1)) fun r3=>
 .cond r3 (
 .bind (je [(([]:List qb).length,0)] (V6 N o_1 o_1_2 r2.1 (qa.ID e1) (qa.qH e1) s12_1 s13_1 v (qa.F e1) (((qa.F e1).length:Nat):Int) [] 0)) fun z4=>
 .chk (z4.1.length=z4.1.length) <|
 .bind (Qr o_1 o_1_2 (qa.mk (qa.ID e1) (qa.qH e1) z4.1)) fun r5=>
 .sum r5 (fun r6=>
 .chk (qt (v + 1)) <|
 .ret (.inr (.inl ([qa.mk (qa.ID e1) (qa.qH e1) z4.1],v + 1)))) fun r6=>
 .chk (qt (v + 1)) <|
 .ret (.inl (v + 1))) <|
 .bind (je [(([]:List qb).length,0)] (V6 N o_1 o_1_2 r2.1 (qa.ID e1) (qc.mk 0 0) s12_1 s13_1 v (qa.F e1) (((qa.F e1).length:Nat):Int) [] 0)) fun z4=>
 .chk (z4.1.length=z4.1.length) <|
 .bind (Qr o_1 o_1_2 (qa.mk (qa.ID e1) (qc.mk 0 0) z4.1)) fun r5=>
 .sum r5 (fun r6=>
 .chk (qt (v + 1)) <|
 .ret (.inr (.inl ([qa.mk (qa.ID e1) (qc.mk 0 0) z4.1],v + 1)))) fun r6=>
 .chk (qt (v + 1)) <|
 .ret (.inl (v + 1))) <|
 .ret (.inr (.inr ((.inl (v,decide (v < s13_1))))))
def qaN (N n:Nat) (f:jQ):XS→Option jD
 | .inl w=>qcq N n f w
 | .inr w=>some w
def qqX (f:jQ):XS→Ex×TSt
 | .inl w=>(.normal,qdh f w)
 | .inr w=>jS f w
def qf9 (N n:Nat) (f:jQ) (v:JS):Option jD:=qY (JW N f.1 f.2.1 f.2.2.1 f.2.2.2) (qaN N n f) n v
theorem qq9 (N:Nat) (f:jQ) (n:Nat) (v:JS) (y:jD) (h:qf9 N n f v=some y):LG Tryz.prog QW 79 (qS Kr 1) (qrr f v) (jS f y):=
 zw qj (E:=Wr N) (L:=qL (qgd N)) (st:=qqX f) (g:=(qaN N n f)) (R:=jS f) (VE N) (qo (by kernel_rfl) ⟨qeC N,qcF N,trivial⟩) (rg0 (by kernel_rfl)) (fun v=>by kernel_rfl) (fun w y h=>by
 rcases w with w | w
 ·exact qmO N f n w y h
 ·exact q6 (st:=jS f) (fun y=>by rcases y with _ | _<;>rfl) w y h
) n v y h
def qcI (N:Nat) (o_1:qe) (o_1_2:qk) (s12_1:List qa) (s13_1:Int) (s14_1:Int):Option jD:=qf9 N N (o_1,o_1_2,s12_1,s13_1) s14_1
def qfS (N:Nat):qD:=smL qf6 [qu,qw,(.sl 19 qf),(.i .i64),(.i .i64)] jD (fun x=>qcI N x.1 x.2.1 x.2.2.1 x.2.2.2.1 x.2.2.2.2.1) (csS cs1) fun x=>jS (x.1,x.2.1,x.2.2.1,x.2.2.2.1)
theorem qoj (N:Nat):jG Tryz.prog QW 79 (qS Kr 1) (qfS N):=zI fun x z h=>qq9 N (x.1,x.2.1,x.2.2.1,x.2.2.2.1) N x.2.2.2.2.1 z h
def qwD (a0:qe) (a1:qk):Unit⊕List qa→TV×THp
 | .inl z=>(.tup [],[(50,.cell false .nils),(50050,.loop [18] 27 [(5,.p 50 [] 0),(17,.fn (.func 79) [] [.p 100020 [] 0,.p 100030 [] 0])] 1600005 16 .ready none 50051),(50051,.dfr true),(100020,.cell false (.tv qu a0)),(100030,.cell false (.tv qw a1))])
 | .inr z=>(.tup [],[(50,.cell false (.v 200250 z.length)),(50050,.loop [18] 27 [(5,.p 50 [] 0),(17,.fn (.func 79) [] [.p 100020 [] 0,.p 100030 [] 0])] 1600005 16 .ready none 50051),(50051,.dfr true),(100020,.cell false (.tv qu a0)),(100030,.cell false (.tv qw a1)),(200250,.vec false 19 (.sl 19 qf) z)])
def qar (N:Nat) (a0:qe) (a1:qk):Tree (Unit⊕List qa):=
 .bind (qcI N a0 a1 (qe.R a0) (((qe.R a0).length:Nat):Int) 0) fun z1=>
 .sum z1 (fun z2=>
 .ret (.inl ())) fun z2=>
 .ret (.inr z2.1)
def Wp (N:Nat) (a0:qe) (a1:qk):Option (Unit⊕List qa):=(qar N a0 a1).run some
def qwm (N:Nat):List (Nat×qD):=[(1,qfS N)]
def qle (N:Nat):Ent:=smF ⟨79,[],[.k (.yl 50050)],[.k (.p 100020 [] 0),.k (.p 100030 [] 0)],[(50,.cell false (.k .nils)),(50050,.loop [18] 27 [(5,.k (.p 50 [] 0)),(17,.fn 79 [] [.k (.p 100020 [] 0),.k (.p 100030 [] 0)])] 1600005 16 .ready none 50051),(50051,.dfr true),(100020,.cell false (.x qu)),(100030,.cell false (.x qw))]⟩ [qu,qw] (Unit⊕List qa) (fun x=>Wp N x.1 x.2.1) (csS cs1) fun x=>qwD x.1 x.2.1
theorem qvf (N:Nat):ze Tryz.prog (qle N):=
 zd (H:=QW) (L:=qL (qwm N)) (ts:=[qu,qw]) (T:=fun x=>qar N x.1 x.2.1) 1 qJy (VE N) (qo (by kernel_rfl) ⟨qoj N,trivial⟩) (rg0 (by kernel_rfl)) fun x=>by kernel_rfl
noncomputable def qKy:Code:=Tryz.f16.body.getD .skip
theorem qKN:FnF Tryz.prog 16 Tryz.f16 qKy:=⟨qj,by kernel_rfl,by kernel_rfl,by kernel_rfl⟩
def qyC:TH:={ live:=[(0,[2,3]),(1,[2,3,14]),(2,[4]),(3,[2,3,5]),(4,[5,17]),(5,[5,6]),(6,[5,6,21]),(8,[4])],dec:=[10],fresh:=[17] }
def qzy (N:Nat):List Ent:=[qcB N,qk2 N,qow,qle N]
theorem quG (N:Nat):qT Tryz.prog (qzy N):=⟨qep N,qvh N,qy_,qvf N,trivial⟩
def qy1 (z:List qa):TV×THp:=(.tv (.sl 19 qf) z,[])
def qfe (N:Nat) (a0:qe) (a1:qk):Tree (List qa):=
 .bind (Yg N a0) fun r1=>
 .cond (!r1) (
 .ret []) <|
 .bind (qcm N a1) fun r2=>
 .cond (!r2) (
 .ret []) <|
 .bind (qlS a0 a1) fun r3=>
 .bind (Wp N a0 a1) fun r4=>
 .sum r4 (fun r5=>
 .ret []) fun r5=>
 .chk (r5.length=r5.length) <|
 .ret r5
def XA (N:Nat) (a0:qe) (a1:qk):Option (List qa):=(qfe N a0 a1).run some
def qzG (N:Nat):List (Nat×qD):=[]
def qni (N:Nat):Ent:=smF ⟨16,[],[.x qu,.x qw],[],[]⟩ [qu,qw] (List qa) (fun x=>XA N x.1 x.2.1) cs1 fun _=>qy1
theorem qxC (N:Nat):ze Tryz.prog (qni N):=
 zd (H:=qyC) (L:=qL (qzG N)) (ts:=[qu,qw]) (T:=fun x=>qfe N x.1 x.2.1) 0 qKN (quG N) (qo (by kernel_rfl) trivial) (rgs (by kernel_rfl)) fun x=>by kernel_rfl
noncomputable def qLc:Code:=Tryz.f69.body.getD .skip
theorem qKx:FnF Tryz.prog 69 Tryz.f69 qLc:=⟨qj,by kernel_rfl,by kernel_rfl,by kernel_rfl⟩
def qyN:TH:={ live:=[(0,[1,2]),(1,[3])] }
def qyQ (N:Nat):List Ent:=[]
theorem qui (N:Nat):qT Tryz.prog (qyQ N):=trivial
def qyD (a0:Vector UInt8 16) (a1:qa) (z:Unit):TV×THp:=(xb (eqE (.ba 16) (qa.ID a1) a0),[(30,.cell false (.tv (.ba 16) a0))])
def qfl (a0:Vector UInt8 16) (a1:qa):Tree (Unit):=
 .ret ()
def qjP (a0:Vector UInt8 16) (a1:qa):Option (Unit):=(qfl a0 a1).run some
def qyV:List (Nat×qD):=[]
def qnl:Ent:=smF ⟨69,[],[.x qf],[.k (.p 30 [] 0)],[(30,.cell false (.x (.ba 16)))]⟩ [(.ba 16),qf] (Unit) (fun x=>qjP x.1 x.2.1) cs1 fun x=>qyD x.1 x.2.1
theorem qwv:ze Tryz.prog (qnl):=
 zd (H:=qyN) (L:=qL (qyV)) (ts:=[(.ba 16),qf]) (T:=fun x=>qfl x.1 x.2.1) 0 qKx (qui 0) (qo (by kernel_rfl) trivial) (rg0 (by kernel_rfl)) fun x=>by kernel_rfl
noncomputable def qsA:Code:=Tryz.f68.body.getD .skip
theorem qLA:FnF Tryz.prog 68 Tryz.f68 qsA:=⟨qj,by kernel_rfl,by kernel_rfl,by kernel_rfl⟩
def XB:TH:={ live:=[(0,[0,1]),(1,[0,1,7,8]),(2,[0,1,7,8,9]),(3,[0,1,5,7,8]),(4,[0,1,5,7,8,16]),(5,[4]),(6,[0,1,7,8]),(7,[4])] }
def qa9 (N:Nat):List Ent:=[qnl]
theorem KY (N:Nat):qT Tryz.prog (qa9 N):=⟨qwv,trivial⟩
abbrev Q3:=Vector UInt8 16×List qa×Int
abbrev jM:=Int⊕(Int×Bool)
def vP (f:Q3):jM→Ex×TSt
 | .inl y=>(.ret,⟨1,19,[30],[(4,xi y)],[(30,.cell false (.tv (.ba 16) f.1))],false,[]⟩)
 | .inr y=>(.exit 0,⟨1,19,[30],[(0,.tv (.sl 19 qf) f.2.1),(1,.fn (.func 69) [] [.p 30 [] 0]),(7,xi f.2.2),(8,xi y.1),(9,xb y.2)],[(30,.cell false (.tv (.ba 16) f.1))],false,[]⟩)
def qgr (N:Nat):List (Nat×qD):=[]
abbrev vO:=Int
def Ka:SP:=⟨1,19,[30],[(0,.x (.sl 19 qf)),(1,.fn 69 [] [.k (.p 30 [] 0)]),(7,.x (.i .i64)),(8,.x (.i .i64))],[(30,.cell false (.x (.ba 16)))],false,[]⟩
def qgn (f:Q3) (v:vO):TSt:=zJ Ka [dv (.ba 16) f.1,dv (.sl 19 qf) f.2.1,dv (.i .i64) f.2.2,dv (.i .i64) v]
def vM (N:Nat) (o_2:Vector UInt8 16) (s0_2:List qa) (s7_2:Int) (v:vO):Tree (vO⊕jM):=
 .cond (decide (v < s7_2)) (
 .bind (zh s0_2 v) fun e1=>
 .bind (qjP o_2 e1) fun r2=>
 .cond (eqE (.ba 16) (qa.ID e1) o_2) (
 .ret (.inr (.inl v))) <|
 .chk (qt (v + 1)) <|
 .ret (.inl (v + 1))) <|
 .ret (.inr (.inr ((v,decide (v < s7_2)))))
def Y_ (N n:Nat) (f:Q3) (v:vO):Option jM:=qY (vM N f.1 f.2.1 f.2.2) some n v
theorem qgf (N:Nat) (f:Q3) (n:Nat) (v:vO) (y:jM) (h:Y_ N n f v=some y):LG Tryz.prog XB 68 (qS qsA 2) (qgn f v) (vP f y):=
 zw qj (E:=qa9 N) (L:=qL (qgr N)) (st:=vP f) (g:=some) (R:=vP f) (KY N) (qo (by kernel_rfl) trivial) (rg0 (by kernel_rfl)) (fun v=>by kernel_rfl) (q6 (st:=vP f) fun y=>by rcases y with _ | _<;>rfl) n v y h
def VR (N:Nat) (o_2:Vector UInt8 16) (s0_2:List qa) (s7_2:Int) (s8_2:Int):Option jM:=Y_ N N (o_2,s0_2,s7_2) s8_2
def Kf (N:Nat):qD:=smL Ka [(.ba 16),(.sl 19 qf),(.i .i64),(.i .i64)] jM (fun x=>VR N x.1 x.2.1 x.2.2.1 x.2.2.2.1) (csS cs1) fun x=>vP (x.1,x.2.1,x.2.2.1)
theorem qfh (N:Nat):jG Tryz.prog XB 68 (qS qsA 2) (Kf N):=zI fun x z h=>qgf N (x.1,x.2.1,x.2.2.1) N x.2.2.2.1 z h
def qj1 (a0:Vector UInt8 16) (z:Int):TV×THp:=(xi z,[(30,.cell false (.tv (.ba 16) a0))])
def XK (N:Nat) (a0:Vector UInt8 16) (a1:List qa):Tree (Int):=
 .bind (VR N a0 a1 ((a1.length:Nat):Int) 0) fun z1=>
 .sum z1 (fun z2=>
 .ret z2) fun z2=>
 .ret (-1)
def J3 (N:Nat) (a0:Vector UInt8 16) (a1:List qa):Option (Int):=(XK N a0 a1).run some
def qjF (N:Nat):List (Nat×qD):=[(2,Kf N)]
def qaR (N:Nat):Ent:=smF ⟨68,[],[.x (.sl 19 qf),.fn 69 [] [.k (.p 30 [] 0)]],[],[(30,.cell false (.x (.ba 16)))]⟩ [(.ba 16),(.sl 19 qf)] (Int) (fun x=>J3 N x.1 x.2.1) cs1 fun x=>qj1 x.1
theorem qid (N:Nat):ze Tryz.prog (qaR N):=
 zd (H:=XB) (L:=qL (qjF N)) (ts:=[(.ba 16),(.sl 19 qf)]) (T:=fun x=>XK N x.1 x.2.1) 0 qLA (KY N) (qo (by kernel_rfl) ⟨qfh N,trivial⟩) (rg0 (by kernel_rfl)) fun x=>by kernel_rfl
noncomputable def qKG:Code:=Tryz.f30.body.getD .skip
theorem qKr:FnF Tryz.prog 30 Tryz.f30 qKG:=⟨qj,by kernel_rfl,by kernel_rfl,by kernel_rfl⟩
def qDd:TH:={ live:=[(0,[2,3,4]),(1,[2,4,6]),(2,[2,4,6,12]),(3,[4,5]),(4,[4,5])],nil:=[(0,[⟨.ob 40 [2],45,(.sl 4 qx)⟩]),(3,[⟨.ob 40 [2],45,(.sl 4 qx)⟩])] }
def qCN (N:Nat):List Ent:=[qaR N,qmY]
theorem qzJ (N:Nat):qT Tryz.prog (qCN N):=⟨qid N,qr8,trivial⟩
def qD5 (z:qa×Bool):TV×THp:=(.tup [.tv qf (z.1:qa),xb z.2],[])
def qjH (N:Nat) (a0:qe) (a1:Vector UInt8 16):Tree (qa×Bool):=
 .bind (J3 N a1 (qe.R a0)) fun r1=>
 .cond (decide (r1 < ((0:Int)))) (
 .chk (0=0) <|
 .ret (qa.mk ((Vector.replicate 16 0)) (qc.mk 0 0) [],false)) <|
 .bind (zh (qe.R a0) r1) fun e2=>
 .bind (qbL e2) fun r3=>
 .ret (qa.mk (qa.ID e2) (qa.qH e2) ((([]:List qb))++(qa.F e2)),true)
def qeO (N:Nat) (a0:qe) (a1:Vector UInt8 16):Option (qa×Bool):=(qjH N a0 a1).run some
def qD3 (N:Nat):List (Nat×qD):=[]
def qsh (N:Nat):Ent:=smF ⟨30,[],[.x qu,.x (.ba 16)],[],[]⟩ [qu,(.ba 16)] (qa×Bool) (fun x=>qeO N x.1 x.2.1) cs1 fun _=>qD5
theorem qAm (N:Nat):ze Tryz.prog (qsh N):=
 zd (H:=qDd) (L:=qL (qD3 N)) (ts:=[qu,(.ba 16)]) (T:=fun x=>qjH N x.1 x.2.1) 0 qKr (qzJ N) (qo (by kernel_rfl) trivial) (rg0 (by kernel_rfl)) fun x=>by kernel_rfl
noncomputable def qMb:Code:=Tryz.f71.body.getD .skip
theorem qLl:FnF Tryz.prog 71 Tryz.f71 qMb:=⟨qj,by kernel_rfl,by kernel_rfl,by kernel_rfl⟩
def qBP:TH:={ live:=[(0,[1,2]),(1,[3])] }
def qBQ (N:Nat):List Ent:=[]
theorem qxh (N:Nat):qT Tryz.prog (qBQ N):=trivial
def qCo (a0:Int) (a1:qb) (z:Unit):TV×THp:=(xb (decide ((qb.No a1)=a0)),[(30,.cell false (xi a0))])
def qg2 (a0:Int) (a1:qb):Tree (Unit):=
 .ret ()
def qmC (a0:Int) (a1:qb):Option (Unit):=(qg2 a0 a1).run some
def qB0:List (Nat×qD):=[]
def qp_:Ent:=smF ⟨71,[],[.x qx],[.k (.p 30 [] 0)],[(30,.cell false (.x (.i .i64)))]⟩ [(.i .i64),qx] (Unit) (fun x=>qmC x.1 x.2.1) cs1 fun x=>qCo x.1 x.2.1
theorem qyU:ze Tryz.prog (qp_):=
 zd (H:=qBP) (L:=qL (qB0)) (ts:=[(.i .i64),qx]) (T:=fun x=>qg2 x.1 x.2.1) 0 qLl (qxh 0) (qo (by kernel_rfl) trivial) (rg0 (by kernel_rfl)) fun x=>by kernel_rfl
noncomputable def qtl:Code:=Tryz.f70.body.getD .skip
theorem qLi:FnF Tryz.prog 70 Tryz.f70 qtl:=⟨qj,by kernel_rfl,by kernel_rfl,by kernel_rfl⟩
def VD:TH:={ live:=[(0,[0,1]),(1,[0,1,7,8]),(2,[0,1,7,8,9]),(3,[0,1,5,7,8]),(4,[0,1,5,7,8,16]),(5,[4]),(6,[0,1,7,8]),(7,[4])] }
def K5 (N:Nat):List Ent:=[qp_]
theorem Yx (N:Nat):qT Tryz.prog (K5 N):=⟨qyU,trivial⟩
abbrev Qq:=Int×List qb×Int
abbrev jA:=Int⊕(Int×Bool)
def vl (f:Qq):jA→Ex×TSt
 | .inl y=>(.ret,⟨1,19,[30],[(4,xi y)],[(30,.cell false (xi f.1))],false,[]⟩)
 | .inr y=>(.exit 0,⟨1,19,[30],[(0,.tv (.sl 4 qx) f.2.1),(1,.fn (.func 71) [] [.p 30 [] 0]),(7,xi f.2.2),(8,xi y.1),(9,xb y.2)],[(30,.cell false (xi f.1))],false,[]⟩)
def qeJ (N:Nat):List (Nat×qD):=[]
abbrev vh:=Int
def WK:SP:=⟨1,19,[30],[(0,.x (.sl 4 qx)),(1,.fn 71 [] [.k (.p 30 [] 0)]),(7,.x (.i .i64)),(8,.x (.i .i64))],[(30,.cell false (.x (.i .i64)))],false,[]⟩
def qe1 (f:Qq) (v:vh):TSt:=zJ WK [dv (.i .i64) f.1,dv (.sl 4 qx) f.2.1,dv (.i .i64) f.2.2,dv (.i .i64) v]
def vi (N:Nat) (o_2:Int) (s0_2:List qb) (s7_2:Int) (v:vh):Tree (vh⊕jA):=
 .cond (decide (v < s7_2)) (
 .bind (zh s0_2 v) fun e1=>
 .bind (qmC o_2 e1) fun r2=>
 .cond (decide ((qb.No e1)=o_2)) (
 .ret (.inr (.inl v))) <|
 .chk (qt (v + 1)) <|
 .ret (.inl (v + 1))) <|
 .ret (.inr (.inr ((v,decide (v < s7_2)))))
def WO (N n:Nat) (f:Qq) (v:vh):Option jA:=qY (vi N f.1 f.2.1 f.2.2) some n v
theorem qeY (N:Nat) (f:Qq) (n:Nat) (v:vh) (y:jA) (h:WO N n f v=some y):LG Tryz.prog VD 70 (qS qtl 2) (qe1 f v) (vl f y):=
 zw qj (E:=K5 N) (L:=qL (qeJ N)) (st:=vl f) (g:=some) (R:=vl f) (Yx N) (qo (by kernel_rfl) trivial) (rg0 (by kernel_rfl)) (fun v=>by kernel_rfl) (q6 (st:=vl f) fun y=>by rcases y with _ | _<;>rfl) n v y h
def J5 (N:Nat) (o_2:Int) (s0_2:List qb) (s7_2:Int) (s8_2:Int):Option jA:=WO N N (o_2,s0_2,s7_2) s8_2
def WG (N:Nat):qD:=smL WK [(.i .i64),(.sl 4 qx),(.i .i64),(.i .i64)] jA (fun x=>J5 N x.1 x.2.1 x.2.2.1 x.2.2.2.1) (csS cs1) fun x=>vl (x.1,x.2.1,x.2.2.1)
theorem qdZ (N:Nat):jG Tryz.prog VD 70 (qS qtl 2) (WG N):=zI fun x z h=>qeY N (x.1,x.2.1,x.2.2.1) N x.2.2.2.1 z h
def qhS (a0:Int) (z:Int):TV×THp:=(xi z,[(30,.cell false (xi a0))])
def Vq (N:Nat) (a0:Int) (a1:List qb):Tree (Int):=
 .bind (J5 N a0 a1 ((a1.length:Nat):Int) 0) fun z1=>
 .sum z1 (fun z2=>
 .ret z2) fun z2=>
 .ret (-1)
def Z3 (N:Nat) (a0:Int) (a1:List qb):Option (Int):=(Vq N a0 a1).run some
def qh1 (N:Nat):List (Nat×qD):=[(2,WG N)]
def KC (N:Nat):Ent:=smF ⟨70,[],[.x (.sl 4 qx),.fn 71 [] [.k (.p 30 [] 0)]],[],[(30,.cell false (.x (.i .i64)))]⟩ [(.i .i64),(.sl 4 qx)] (Int) (fun x=>Z3 N x.1 x.2.1) cs1 fun x=>qhS x.1
theorem qgx (N:Nat):ze Tryz.prog (KC N):=
 zd (H:=VD) (L:=qL (qh1 N)) (ts:=[(.i .i64),(.sl 4 qx)]) (T:=fun x=>Vq N x.1 x.2.1) 0 qLi (Yx N) (qo (by kernel_rfl) ⟨qdZ N,trivial⟩) (rg0 (by kernel_rfl)) fun x=>by kernel_rfl
noncomputable def qLm:Code:=Tryz.f31.body.getD .skip
theorem qJ3:FnF Tryz.prog 31 Tryz.f31 qLm:=⟨qj,by kernel_rfl,by kernel_rfl,by kernel_rfl⟩
def qFG:TH:={ live:=[(0,[2,3,4]),(1,[2,4,6]),(2,[2,4,6,12]),(3,[4,5]),(4,[4,5])] }
def qGA (N:Nat):List Ent:=[KC N]
theorem qAK (N:Nat):qT Tryz.prog (qGA N):=⟨qgx N,trivial⟩
def qFS (z:qd×Bool):TV×THp:=(.tup [.tv qp (z.1:qd),xb z.2],[])
def qmP (N:Nat) (a0:qa) (a1:Int):Tree (qd×Bool):=
 .bind (Z3 N a1 (qa.F a0)) fun r1=>
 .cond (decide (r1 < ((0:Int)))) (
 .ret (qd.mk (qc.mk 0 0) [],false)) <|
 .bind (zh (qa.F a0) r1) fun e2=>
 .ret (qb.C e2,true)
def qlH (N:Nat) (a0:qa) (a1:Int):Option (qd×Bool):=(qmP N a0 a1).run some
def qFp (N:Nat):List (Nat×qD):=[]
def quS (N:Nat):Ent:=smF ⟨31,[],[.x qf,.x (.i .i64)],[],[]⟩ [qf,(.i .i64)] (qd×Bool) (fun x=>qlH N x.1 x.2.1) cs1 fun _=>qFS
theorem qDe (N:Nat):ze Tryz.prog (quS N):=
 zd (H:=qFG) (L:=qL (qFp N)) (ts:=[qf,(.i .i64)]) (T:=fun x=>qmP N x.1 x.2.1) 0 qJ3 (qAK N) (qo (by kernel_rfl) trivial) (rg0 (by kernel_rfl)) fun x=>by kernel_rfl
noncomputable def qgM:Code:=Tryz.f8.body.getD .skip
theorem qNp:FnF Tryz.prog 8 Tryz.f8 qgM:=⟨qj,by kernel_rfl,by kernel_rfl,by kernel_rfl⟩
def vY:TH:={ live:=[(0,[2,3]),(1,[2,3,5]),(2,[2,3,5,6]),(3,[2,3,5,6,7]),(4,[2,3,5,6,7,8,9]),(5,[2,3,5,6,7,8,9,10,11]),(6,[2,3,5,6,7,8,9,11,12,13]),(7,[2,3,5,8,12,63]),(8,[4]),(9,[2,3,8,12,14]),(10,[2,3,8,12,14,15]),(11,[2,3,8,12,14,15,71]),(12,[2,3,8,12,14,15]),(13,[2,3,8,12,14,15,16,17]),(14,[2,3,8,12,14,15,16,116]),(15,[4]),(16,[2,3,8,12,14,15,16,18]),(17,[2,3,8,12,14,15,16,18,124]),(18,[2,3,8,12,14,15,16,18]),(19,[2,3,8,12,14,15,16,18,19,20]),(20,[2,3,8,12,14,15,16,18,155]),(21,[4]),(22,[4])],dec:=[44,48,52,56,60,86,95,105,143,161,168] }
def Vx (N:Nat):List Ent:=[qEN,qeM N,qm5 N,qr7 N,qni N,qsh N,quS N]
theorem JI (N:Nat):qT Tryz.prog (Vx N):=⟨qLH,qnH N,qw3 N,qB3 N,qxC N,qAm N,qDe N,trivial⟩
abbrev v9:=qe×qe×qk×qk×qa×List qa×Int
abbrev js:=Unit⊕(Int×Bool)
def j_ (f:v9):js→Ex×TSt
 | .inl y=>(.ret,⟨0,175,[],[(4,.bc false)],[],false,[]⟩)
 | .inr y=>(.exit 2,⟨0,175,[],[(2,.p 20 [] 0),(3,.p 30 [] 0),(8,.p 80 [] 0),(12,.p 120 [] 0),(14,.tv (.sl 19 qf) f.2.2.2.2.2.1),(15,xi f.2.2.2.2.2.2),(16,.p 160 [] 0),(18,xi y.1),(124,xb y.2)],[(20,.cell false (.tv qu f.1)),(30,.cell false (.tv qu f.2.1)),(80,.cell false (.tv qw f.2.2.1)),(120,.cell false (.tv qw f.2.2.2.1)),(160,.cell false (.tv qf f.2.2.2.2.1))],false,[]⟩)
def qd6 (N:Nat):List (Nat×qD):=[]
abbrev jX:=Int
def WD:SP:=⟨0,175,[],[(2,.k (.p 20 [] 0)),(3,.k (.p 30 [] 0)),(8,.k (.p 80 [] 0)),(12,.k (.p 120 [] 0)),(14,.x (.sl 19 qf)),(15,.x (.i .i64)),(16,.k (.p 160 [] 0)),(18,.x (.i .i64))],[(20,.cell false (.x qu)),(30,.cell false (.x qu)),(80,.cell false (.x qw)),(120,.cell false (.x qw)),(160,.cell false (.x qf))],false,[]⟩
def qdT (f:v9) (v:jX):TSt:=zJ WD [dv qu f.1,dv qu f.2.1,dv qw f.2.2.1,dv qw f.2.2.2.1,dv qf f.2.2.2.2.1,dv (.sl 19 qf) f.2.2.2.2.2.1,dv (.i .i64) f.2.2.2.2.2.2,dv (.i .i64) v]
def Qa (N:Nat) (o_17:qe) (o_17_2:qe) (o_17_3:qk) (o_17_4:qk) (o_17_5:qa) (s14_17:List qa) (s15_17:Int) (v:jX):Tree (jX⊕js):=
 .bind (zh s14_17 s15_17) fun e1=>
 .cond (decide (v < (((qa.F e1).length:Nat):Int))) (
 .bind (zh s14_17 s15_17) fun e2=>
 .bind (zh (qa.F e2) v) fun e3=>
 .bind (qlH N o_17_5 (qb.No e3)) fun r4=>
 .cond (!r4.2) (
 .ret (.inr (.inl ()))) <|
 .bind (zh s14_17 s15_17) fun e5=>
 .bind (zh (qa.F e5) v) fun e6=>
 .cond (!(eqE qp r4.1 (qb.C e6))) (
 .ret (.inr (.inl ()))) <|
 .chk (qt (v + 1)) <|
 .ret (.inl (v + 1))) <|
 .ret (.inr (.inr ((v,decide (v < (((qa.F e1).length:Nat):Int))))))
def WE (N n:Nat) (f:v9) (v:jX):Option js:=qY (Qa N f.1 f.2.1 f.2.2.1 f.2.2.2.1 f.2.2.2.2.1 f.2.2.2.2.2.1 f.2.2.2.2.2.2) some n v
theorem qdE (N:Nat) (f:v9) (n:Nat) (v:jX) (y:js) (h:WE N n f v=some y):LG Tryz.prog vY 8 (qS (qS qgM 11) 17) (qdT f v) (j_ f y):=
 zw qj (E:=Vx N) (L:=qL (qd6 N)) (st:=j_ f) (g:=some) (R:=j_ f) (JI N) (qo (by kernel_rfl) trivial) (rg0 (by kernel_rfl)) (fun v=>by kernel_rfl) (q6 (st:=j_ f) fun y=>by rcases y with _ | _<;>rfl) n v y h
def QI (N:Nat) (o_17:qe) (o_17_2:qe) (o_17_3:qk) (o_17_4:qk) (o_17_5:qa) (s14_17:List qa) (s15_17:Int) (s18_17:Int):Option js:=WE N N (o_17,o_17_2,o_17_3,o_17_4,o_17_5,s14_17,s15_17) s18_17
def Wh (N:Nat):qD:=smL WD [qu,qu,qw,qw,qf,(.sl 19 qf),(.i .i64),(.i .i64)] js (fun x=>QI N x.1 x.2.1 x.2.2.1 x.2.2.2.1 x.2.2.2.2.1 x.2.2.2.2.2.1 x.2.2.2.2.2.2.1 x.2.2.2.2.2.2.2.1) (csS cs1) fun x=>j_ (x.1,x.2.1,x.2.2.1,x.2.2.2.1,x.2.2.2.2.1,x.2.2.2.2.2.1,x.2.2.2.2.2.2.1)
theorem qdn (N:Nat):jG Tryz.prog vY 8 (qS (qS qgM 11) 17) (Wh N):=zI fun x z h=>qdE N (x.1,x.2.1,x.2.2.1,x.2.2.2.1,x.2.2.2.2.1,x.2.2.2.2.2.1,x.2.2.2.2.2.2.1) N x.2.2.2.2.2.2.2.1 z h
abbrev Qd:=qe×qe×qk×qk×List qa
abbrev jr:=Unit⊕(Int×Bool)
def j9 (f:Qd):jr→Ex×TSt
 | .inl y=>(.ret,⟨0,175,[],[(4,.bc false)],[],false,[]⟩)
 | .inr y=>(.exit 0,⟨0,175,[],[(2,.p 20 [] 0),(3,.p 30 [] 0),(8,.p 80 [] 0),(12,.p 120 [] 0),(14,.tv (.sl 19 qf) f.2.2.2.2),(15,xi y.1),(71,xb y.2)],[(20,.cell false (.tv qu f.1)),(30,.cell false (.tv qu f.2.1)),(80,.cell false (.tv qw f.2.2.1)),(120,.cell false (.tv qw f.2.2.2.1))],false,[]⟩)
def qdC (N:Nat):List (Nat×qD):=[(17,Wh N)]
abbrev jU:=Int
def X5:SP:=⟨0,175,[],[(2,.k (.p 20 [] 0)),(3,.k (.p 30 [] 0)),(8,.k (.p 80 [] 0)),(12,.k (.p 120 [] 0)),(14,.x (.sl 19 qf)),(15,.x (.i .i64))],[(20,.cell false (.x qu)),(30,.cell false (.x qu)),(80,.cell false (.x qw)),(120,.cell false (.x qw))],false,[]⟩
def qd9 (f:Qd) (v:jU):TSt:=zJ X5 [dv qu f.1,dv qu f.2.1,dv qw f.2.2.1,dv qw f.2.2.2.1,dv (.sl 19 qf) f.2.2.2.2,dv (.i .i64) v]
def Qb (N:Nat) (o_11:qe) (o_11_2:qe) (o_11_3:qk) (o_11_4:qk) (s14_11:List qa) (v:jU):Tree (jU⊕jr):=
 .cond (decide (v < ((s14_11.length:Nat):Int))) (
 .bind (zh s14_11 v) fun e1=>
 .bind (qeO N o_11 (qa.ID e1)) fun r2=>
 .cond (!r2.2) (
 .ret (.inr (.inl ()))) <|
 .bind (zh s14_11 v) fun e3=>
 .cond (!(eqE qi (qa.qH e3) (qa.qH r2.1))) (
 .bind (zh s14_11 v) fun e4=>
 .cond (!(eqE qi (qa.qH e4) (qc.mk 0 0))) (
 .ret (.inr (.inl ()))) <|
 .bind (zh s14_11 v) fun e5=>
 .cond (decide ((((qa.F r2.1).length:Nat):Int) < (((qa.F e5).length:Nat):Int))) (
 .ret (.inr (.inl ()))) <|
 .bind (QI N o_11 o_11_2 o_11_3 o_11_4 r2.1 s14_11 v 0) fun z6=>
 .sum z6 (fun z7=>
 .ret (.inr (.inl ()))) fun z7=>
 .chk (qt (v + 1)) <|
 .ret (.inl (v + 1))) <|
 .bind (zh s14_11 v) fun e4=>
 .cond (decide ((((qa.F r2.1).length:Nat):Int) < (((qa.F e4).length:Nat):Int))) (
 .ret (.inr (.inl ()))) <|
 .bind (QI N o_11 o_11_2 o_11_3 o_11_4 r2.1 s14_11 v 0) fun z5=>
 .sum z5 (fun z6=>
 .ret (.inr (.inl ()))) fun z6=>
 .chk (qt (v + 1)) <|
 .ret (.inl (v + 1))) <|
 .ret (.inr (.inr ((v,decide (v < ((s14_11.length:Nat):Int))))))
def Wg (N n:Nat) (f:Qd) (v:jU):Option jr:=qY (Qb N f.1 f.2.1 f.2.2.1 f.2.2.2.1 f.2.2.2.2) some n v
theorem qdF (N:Nat) (f:Qd) (n:Nat) (v:jU) (y:jr) (h:Wg N n f v=some y):LG Tryz.prog vY 8 (qS qgM 11) (qd9 f v) (j9 f y):=
 zw qj (E:=Vx N) (L:=qL (qdC N)) (st:=j9 f) (g:=some) (R:=j9 f) (JI N) (qo (by kernel_rfl) ⟨qdn N,trivial⟩) (rg0 (by kernel_rfl)) (fun v=>by kernel_rfl) (q6 (st:=j9 f) fun y=>by rcases y with _ | _<;>rfl) n v y h
def JH (N:Nat) (o_11:qe) (o_11_2:qe) (o_11_3:qk) (o_11_4:qk) (s14_11:List qa) (s15_11:Int):Option jr:=Wg N N (o_11,o_11_2,o_11_3,o_11_4,s14_11) s15_11
def Ww (N:Nat):qD:=smL X5 [qu,qu,qw,qw,(.sl 19 qf),(.i .i64)] jr (fun x=>JH N x.1 x.2.1 x.2.2.1 x.2.2.2.1 x.2.2.2.2.1 x.2.2.2.2.2.1) (csS cs1) fun x=>j9 (x.1,x.2.1,x.2.2.1,x.2.2.2.1,x.2.2.2.2.1)
theorem qdo (N:Nat):jG Tryz.prog vY 8 (qS qgM 11) (Ww N):=zI fun x z h=>qdF N (x.1,x.2.1,x.2.2.1,x.2.2.2.1,x.2.2.2.2.1) N x.2.2.2.2.2.1 z h
def qg1 (z:Bool):TV×THp:=(xb z,[])
def Vp (N:Nat) (a0:qe) (a1:qe):Tree (Bool):=
 .bind (qFu) fun r1=>
 .bind (Vo N a0) fun r2=>
 .bind (Vo N a1) fun r3=>
 .bind (Vc N a1) fun r4=>
 .bind (WL N a0 a1) fun r5=>
 .bind (Vc N r5.1) fun r6=>
 .cond (!r1) (
 .ret r1) <|
 .cond (!r2) (
 .ret r1) <|
 .cond (!r3) (
 .ret r1) <|
 .cond (!r4.2) (
 .ret r1) <|
 .cond (!r6.2) (
 .ret r1) <|
 .cond (!decide (r5.2=0)) (
 .ret r1) <|
 .bind (XA N a0 r4.1) fun r7=>
 .bind (JH N a0 a1 r4.1 r6.1 r7 0) fun z8=>
 .sum z8 (fun z9=>
 .ret false) fun z9=>
 .bind (XA N a0 r6.1) fun r10=>
 .cond (decide (((r10.length:Nat):Int)=((0:Int)))) (
 .bind (XA N a1 r6.1) fun r11=>
 .cond (decide (((r11.length:Nat):Int)=((0:Int)))) (
 .bind (XA N a1 r4.1) fun r12=>
 .ret (decide (((r12.length:Nat):Int)=((0:Int))))) <|
 .ret false) <|
 .ret false
def vF (N:Nat) (a0:qe) (a1:qe):Option (Bool):=(Vp N a0 a1).run some
def qhe (N:Nat):List (Nat×qD):=[(11,Ww N)]
theorem qfr (N:Nat):W2 Tryz.prog ⟨8,[],[.x qu,.x qu],[],[]⟩ [qu,qu] (fun x=>Vp N x.1 x.2.1) (fun _=>qg1):=
 VB (H:=vY) (L:=qL (qhe N)) 0 qNp (JI N) (qo (by kernel_rfl) ⟨qdo N,trivial⟩) (rg0 (by kernel_rfl)) fun x=>by kernel_rfl
end Go.Rx
end
set_option maxRecDepth 100000
noncomputable section
namespace Go.Rx
open Go.Proofs
abbrev Je (q:Nat→Bool) (n:Nat):Bool:=qA0 q n 0
theorem XG {q:Nat→Bool} {n:Nat}:Je q n=true↔∀ j,j < n→q j=true:=by
 unfold Je; rw [qCI]
 exact ⟨fun h j hj=>h j (Nat.zero_le _) (by omega),fun h j _ hj=>h j (by omega)⟩
theorem qJv {p q:Nat→Bool} {n:Nat} (h:vv p n 0=none) (hq:∀ j,j < n→p j=!q j):Je q n=true:=
 XG.2 fun j hj=>by
  have:=qsj h j (Nat.zero_le _) (by omega)
  rw [hq j hj] at this; simpa using this
theorem qHB {p q:Nat→Bool} {n i:Nat} (h:vv p n 0=some i) (hq:∀ j,j < n→p j=!q j):Je q n=false:=by
 obtain ⟨h1,_,h2,_⟩:=qjX h
 cases e:Je q n with
 | false=>rfl
 | true=>
  have:=XG.1 e i (by omega)
  rw [hq i (by omega),this] at h1; simp at h1
theorem WM {α Y : Type} {B : Int → Tree (Int ⊕ (α ⊕ (Int × Bool)))} {g : α ⊕ (Int × Bool) → Option Y} {q : Nat → Bool} {n : Nat} {hit : α}
    (h1:∀ k,k < n→(B (k:Int)).run some=some (if q k then .inl ((k + 1:Nat):Int) else .inr (.inl hit))) (h2:(B (n:Int)).run some=some (.inr (.inr (((n:Nat):Int),false)))) {N:Nat} (hN:n < N) :
    qY B g N ((0:Nat):Int)=g (if Je q n then .inr (((n:Nat):Int),false) else .inl hit):=by
 rw [qb_ (p:=fun k=>!q k) (hit:=fun _=>.inl hit) (fin:=.inr (((n:Nat):Int),false)) (n:=n) (fun k hk=>by rw [h1 k hk]; cases q k<;>rfl) h2 N 0 (Nat.zero_le _) (by omega),Nat.sub_zero]
 cases e:vv (fun k=>!q k) n 0 with
 | none=>rw [qJv e fun _ _=>rfl]; rfl
 | some i=>rw [qHB e fun _ _=>rfl]; rfl
class Vv (N:Nat):Prop where
 h:100000≤N
theorem Vv.of {N:Nat} (h:100000≤N):Vv N:=⟨h⟩
theorem big (N:Nat) [Vv N]:100000≤N:=Vv.h
abbrev zSt:qc:=((0:Int),(0:Int))
abbrev zE:qn:=qn.mk 0 zSt 0 (Vector.replicate 32 0) []
abbrev zL:ql:=ql.mk (Vector.replicate 16 0) zSt []
def qN2 (x:ql):Bool:=decide (x.F.length≤12)&&Je (fun k=>decide ((x.F.getD k zE).B.length≤40)) x.F.length
def qz7 (m:qk):Bool:=decide (m.L.length≤14)&&Je (fun k=>qN2 (m.L.getD k zL)) m.L.length
theorem qqw {k:Nat} (h:k≤1000000):qt ((k + 1:Nat):Int):=by unfold qt; omega
theorem qMe {c n:Nat}:decide (((c:Nat):Int) < ((n:Nat):Int))=!decide (n≤c):=by
 by_cases h:n≤c
 ·rw [decide_eq_true h,decide_eq_false (by omega)]; rfl
 ·rw [decide_eq_false h,decide_eq_true (by omega)]; rfl
section n
variable {N:Nat} [Vv N]
def stB (a:qc):Bool:=decide (a=zSt)||(decide (0 < a.1)&&decide (a.1≤1099511627776)&&decide (0≤a.2)&&decide (a.2 < 8))
def slB (a b:qc):Bool:=decide (a.1 < b.1∨(a.1=b.1∧a.2 < b.2))
theorem qfH (a b:qc):eqE qi a b=decide (a=b):=Bool.eq_iff_iff.2 ((VY qi a b).trans (decide_eq_true_iff (p:=(a:Int×Int)=b)).symm)
theorem qGr (a b:Vector UInt8 16):eqE (.ba 16) a b=decide (a=b):=Bool.eq_iff_iff.2 ((VY (.ba 16) a b).trans (decide_eq_true_iff (p:=(a:Vector UInt8 16)=b)).symm)
theorem qdL (a:qc):Xp a=some (stB a):=by
 unfold Xp qjv
 have e:=qfH a (qc.mk 0 0)
 simp only [Tree.run,e]
 show (bif decide (a=zSt) then _ else _)=some (decide (a=zSt)||_)
 cases decide (a=zSt) with
 | true=>rfl
 | false=>
  show (bif decide (0 < a.1) then _ else _)=_
  cases decide (0 < a.1) with
  | false=>rfl
  | true=>
   show (bif decide (a.1≤1099511627776) then _ else _)=_
   cases decide (a.1≤1099511627776) with
   | false=>rfl
   | true=>
    show (bif decide (0≤a.2) then _ else _)=_
    cases decide (0≤a.2)<;>rfl
def sgn (a b:Int):Int:=if a < b then -1 else if b < a then 1 else 0
theorem qOk (a b:Int):Xr a b=some (sgn a b):=by
 unfold Xr qaL qbv qcp
 simp only [Tree.run,Option.bind_some,decide_true,Bool.not_true,cond_false,sgn]
 by_cases h:a < b
 ·simp [h]
 ·by_cases h2:b < a
  ·simp [h,h2]
  ·simp [h,h2]
theorem qFU (a b:Int):qc_ N [a,b]=some (if a=0 then b else a):=by
 obtain ⟨n,rfl⟩:∃ n,N=n + 3:=⟨N - 3,by have:=big N; omega⟩
 have e:qfy (n + 3) [a,b] ((([a,b]:List Int).length:Nat):Int) 0=qY (Zc (n + 3) [a,b] 2) some (n + 3) 0:=rfl
 have r0:(Zc (n + 3) [a,b] 2 0).run some=if a=0 then some (.inl 1) else some (.inr (.inl a)):=by
  unfold Zc
  have g:zh [a,b] 0=some a:=rfl
  have c:qt ((0:Int) + 1):=by unfold qt; omega
  rw [qF,show decide ((0:Int) < 2)=true from rfl,cond_true,run_bind,g,Option.bind_some,qF,qR,qg c]
  by_cases h:a=0
  ·rw [if_pos h,decide_eq_true h]; rfl
  ·rw [if_neg h,decide_eq_false h]; rfl
 have r1:(Zc (n + 3) [a,b] 2 1).run some=if b=0 then some (.inl 2) else some (.inr (.inl b)):=by
  unfold Zc
  have g:zh [a,b] 1=some b:=rfl
  have c:qt ((1:Int) + 1):=by unfold qt; omega
  rw [qF,show decide ((1:Int) < 2)=true from rfl,cond_true,run_bind,g,Option.bind_some,qF,qR,qg c]
  by_cases h:b=0
  ·rw [if_pos h,decide_eq_true h]; rfl
  ·rw [if_neg h,decide_eq_false h]; rfl
 have r2:(Zc (n + 3) [a,b] 2 2).run some=some (.inr (.inr (2,false))):=rfl
 unfold qc_ qhJ
 rw [run_bind,e]
 by_cases h:a=0
 ·rw [if_pos h] at r0
  rw [WN r0,if_pos h]
  by_cases h2:b=0
  ·rw [if_pos h2] at r1
   rw [WN r1,jq r2,h2]; rfl
  ·rw [if_neg h2] at r1
   rw [jq r1]; rfl
 ·rw [if_neg h] at r0
  rw [jq r0,if_neg h]; rfl
theorem qO2 (a b:Int):sgn a b=-1∨sgn a b=0∨sgn a b=1:=by
 unfold sgn; split
 ·exact .inl rfl
 ·split
  ·exact .inr (.inr rfl)
  ·exact .inr (.inl rfl)
theorem Vb (a b:qc):jT N a b=some (slB a b):=by
 obtain ⟨a1,a2⟩:=a
 obtain ⟨b1,b2⟩:=b
 unfold jT qh3
 simp only [Tree.run,qfH,qOk,Option.bind_some]
 by_cases h:((a1,a2):qc)=(b1,b2)
 ·cases h
  have:slB ((a1,a2):qc) (a1,a2)=false:=decide_eq_false (by simp only; omega)
  rw [this,decide_eq_true rfl]; rfl
 ·rw [decide_eq_false h]
  simp only [Bool.not_false,cond_true]
  show ((qc_ N [sgn a1 b1,sgn a2 b2]).bind _)=_
  have hs:=qO2 a2 b2
  by_cases h1:a1 < b1
  ·rw [show sgn a1 b1=-1 from if_pos h1,qFU,show slB ((a1,a2):qc) (b1,b2)=true from decide_eq_true (.inl h1)]; rfl
  ·by_cases h2:b1 < a1
   ·rw [show sgn a1 b1=1 by unfold sgn; rw [if_neg h1,if_pos h2],qFU,show slB ((a1,a2):qc) (b1,b2)=false from decide_eq_false (by simp only; omega)]; rfl
   ·have he:a1=b1:=by omega
    rw [show sgn a1 b1=0 by unfold sgn; rw [if_neg h1,if_neg h2],qFU,if_pos rfl,Option.bind_some]
    congr 1
    show decide (sgn a2 b2 < 0)=decide (a1 < b1∨(a1=b1∧a2 < b2))
    rw [decide_eq_decide]
    simp only [he,Int.lt_irrefl,false_or,true_and]
    unfold sgn
    split
    ·rename_i h3; simp [h3]
    ·rename_i h3
     split
     ·simp; omega
     ·simp; omega
end n
theorem qqE {m:qk}:qz7 m=true↔m.L.length≤14∧∀ k,k < m.L.length→(m.L.getD k zL).F.length≤12∧∀ j,j < (m.L.getD k zL).F.length→((m.L.getD k zL).F.getD j zE).B.length≤40:=by
 unfold qz7
 rw [Bool.and_eq_true,decide_eq_true_iff,XG]
 refine and_congr Iff.rfl (forall_congr' fun k=>imp_congr_right fun _=>?_)
 unfold qN2
 rw [Bool.and_eq_true,decide_eq_true_iff,XG]
 exact and_congr Iff.rfl (forall_congr' fun j=>imp_congr_right fun _=>decide_eq_true_iff)
end Go.Rx
end
set_option maxRecDepth 100000
noncomputable section
namespace Go.Rx
open Go.Proofs
def blk (n:Int):Int:=if n < 24 then 0 else n.tdiv 8
def qCF (e:qn) (dead:qc):Bool:=
 decide (0≤e.No)&&(decide (e.No < 8)&&(decide (0≤e.Len)&&(decide (e.Len≤200)&&(decide (((e.B.length:Nat):Int)=blk e.Len)&&(stB e.S&&slB dead e.S)))))
def qsJ (l:List qn) (dead:qc) (k:Nat):Bool:=qCF (l.getD k zE) dead&&(decide (k=0)||!decide ((l.getD k zE).No≤(l.getD (k - 1) zE).No))
def qgq (x:ql):Bool:=Je (qsJ x.F x.qH) x.F.length&&(stB x.qH&&(decide (0 < x.F.length)||!decide (x.qH=zSt)))
def lbB (a b:Vector UInt8 16):Bool:=!decide (a=b)&&decide (Go.Lib.compareBytes a.toList b.toList < 0)
def quX (l:List ql) (k:Nat):Bool:=qgq (l.getD k zL)&&(decide (k=0)||lbB (l.getD (k - 1) zL).ID (l.getD k zL).ID)
def qwe (m:qk):Bool:=Je (quX m.L) m.L.length&&decide (m.L.length≤10)
theorem qMI {a b:Bool}:(bif a then some b else some false)=some (a&&b):=by cases a<;>rfl
theorem qJm {n:Int} (h:n≤200) (h0:0≤n):Kg n=some (blk n):=by
 unfold Kg qaI blk
 by_cases h1:n < 24
 ·simp only [Tree.run,decide_eq_true h1,cond_true,if_pos h1]
 ·have e:n.tdiv 8≤n:=by rw [Int.tdiv_eq_ediv_of_nonneg h0]; omega
  have e0:0≤n.tdiv 8:=by rw [Int.tdiv_eq_ediv_of_nonneg h0]; omega
  have h64:qt (n.tdiv 8):=by unfold qt; omega
  simp only [Tree.run,decide_eq_false h1,cond_false,if_neg h1,qg h64]
  exact qg (by decide)
section n
variable {N:Nat} [Vv N]
theorem qLY (e:qn) (dead:qc):qav N e dead=some (qCF e dead):=by
 unfold qav qbI qCF
 simp only [Tree.run]
 by_cases h1:0≤e.No
 ·rw [decide_eq_true h1]
  by_cases h2:e.No < 8
  ·rw [decide_eq_true h2]
   by_cases h3:0≤e.Len
   ·rw [decide_eq_true h3]
    by_cases h4:e.Len≤200
    ·rw [decide_eq_true h4,qJm h4 h3]
     simp only [cond_true,Option.bind_some,qdL,Vb,Bool.true_and]
     cases decide (((e.B.length:Nat):Int)=blk e.Len) with
     | false=>rfl
     | true=>exact qMI
    ·rw [decide_eq_false h4]; rfl
   ·rw [decide_eq_false h3]; rfl
  ·rw [decide_eq_false h2]; rfl
 ·rw [decide_eq_false h1]; rfl
theorem qlZ {k:Nat} (h:0 < k):(k:Int) - 1=((k - 1:Nat):Int):=by omega
theorem qqH {k:Nat}:decide ((0:Int) < (k:Int))=!decide (k=0):=by
 by_cases h:k=0
 ·subst h; rfl
 ·rw [decide_eq_false h,decide_eq_true (by omega)]; rfl
theorem qNq {x : ql} (h : x.F.length ≤ 600) :
    qbK N x x.F ((x.F.length:Nat):Int) 0=some (if Je (qsJ x.F x.qH) x.F.length then .inr (((x.F.length:Nat):Int),false) else .inl ()):=by
 refine WM (B:=Xi N x x.F ((x.F.length:Nat):Int)) (g:=some) (q:=qsJ x.F x.qH) (fun k hk=>?_) ?_ (by have:=big N; omega)
 ·unfold Xi
  have h64:qt ((k + 1:Nat):Int):=qqw (by omega)
  simp only [Tree.run,dec_lt hk,cond_true,zV (d:=zE) hk,Option.bind_some,zi,qg h64,qLY,qqH]
  unfold qsJ
  cases qCF (x.F.getD k zE) x.qH with
  | false=>rfl
  | true=>
   by_cases h0:k=0
   ·subst h0; rfl
   ·have hp:qt ((k - 1:Nat):Int):=by unfold qt; omega
    have hk1:k - 1 < x.F.length:=by omega
    simp only [decide_eq_false h0,Bool.not_true,Bool.not_false,cond_true,cond_false,qg hp,qlZ (Nat.pos_of_ne_zero h0),zV (d:=zE) hk1,Option.bind_some,Bool.false_or,Bool.true_and]
    cases decide ((x.F.getD k zE).No≤(x.F.getD (k - 1) zE).No)<;>rfl
 ·unfold Xi
  simp only [Tree.run,zG (Nat.lt_irrefl _),cond_false]
theorem qMK {x:ql} (h:x.F.length≤600):qbw N x=some (qgq x):=by
 unfold qbw qda qgq
 simp only [Tree.run,qNq h,Option.bind_some]
 cases Je (qsJ x.F x.qH) x.F.length with
 | false=>rfl
 | true=>
  simp only [reduceIte,Tree.run,qdL,Option.bind_some,qqH,qfH,Bool.true_and]
  have e:eqE qi x.qH (qc.mk 0 0)=decide (x.qH=zSt):=qfH x.qH (qc.mk 0 0)
  have e2:decide (0 < x.F.length)=!decide (x.F.length=0):=by
   by_cases h:x.F.length=0
   ·rw [decide_eq_true h,decide_eq_false (by omega)]; rfl
   ·rw [decide_eq_false h,decide_eq_true (by omega)]; rfl
  cases stB x.qH with
  | false=>rfl
  | true=>
   rw [e2]
   cases decide (x.F.length=0)<;>rfl
theorem qAB (a b:Vector UInt8 16):qe9 a b=some (lbB a b):=by
 unfold qe9 qjQ Yw qcR qL7 lbB
 simp only [Tree.run,Option.bind_some,qGr]
 cases decide (a=b)<;>rfl
theorem qOC {m : qk} (h : m.L.length ≤ 600) (hF : ∀ k, k < m.L.length → (m.L.getD k zL).F.length ≤ 600) :
    qdb N m m.L ((m.L.length:Nat):Int) 0=some (if Je (quX m.L) m.L.length then .inr (((m.L.length:Nat):Int),false) else .inl ()):=by
 refine WM (B:=XQ N m m.L ((m.L.length:Nat):Int)) (g:=some) (q:=quX m.L) (fun k hk=>?_) ?_ (by have:=big N; omega)
 ·unfold XQ
  have h64:qt ((k + 1:Nat):Int):=qqw (by omega)
  simp only [Tree.run,dec_lt hk,cond_true,zV (d:=zL) hk,Option.bind_some,zi,qg h64,qMK (hF k hk),qqH]
  unfold quX
  cases qgq (m.L.getD k zL) with
  | false=>rfl
  | true=>
   by_cases h0:k=0
   ·subst h0; rfl
   ·have hp:qt ((k - 1:Nat):Int):=by unfold qt; omega
    have hk1:k - 1 < m.L.length:=by omega
    simp only [decide_eq_false h0,Bool.not_true,Bool.not_false,cond_true,cond_false,qg hp,qlZ (Nat.pos_of_ne_zero h0),zV (d:=zL) hk1,Option.bind_some,Bool.false_or,Bool.true_and,qAB]
    cases lbB (m.L.getD (k - 1) zL).ID (m.L.getD k zL).ID<;>rfl
 ·unfold XQ
  simp only [Tree.run,zG (Nat.lt_irrefl _),cond_false]
theorem qOx {m:qk} (h:m.L.length≤600) (hF:∀ k,k < m.L.length→(m.L.getD k zL).F.length≤600):qcm N m=some (qwe m):=by
 unfold qcm qdI qwe
 simp only [Tree.run,qOC h hF,Option.bind_some]
 cases Je (quX m.L) m.L.length with
 | false=>rfl
 | true=>
  simp only [reduceIte,Tree.run,Bool.true_and]
  congr 1
  rw [decide_eq_decide]; omega
end n
theorem qKL {m:qk}:qwe m=true↔(∀ k,k < m.L.length→qgq (m.L.getD k zL)=true∧(k=0∨lbB (m.L.getD (k - 1) zL).ID (m.L.getD k zL).ID=true))∧m.L.length≤10:=by
 unfold qwe
 rw [Bool.and_eq_true,decide_eq_true_iff,XG]
 refine and_congr (forall_congr' fun k=>imp_congr_right fun _=>?_) Iff.rfl
 show (qgq (m.L.getD k zL)&&(decide (k=0)||lbB (m.L.getD (k - 1) zL).ID (m.L.getD k zL).ID))=true↔_
 rw [Bool.and_eq_true,Bool.or_eq_true,decide_eq_true_iff]
theorem qB9 (a:Vector UInt8 16):lbB a a=false:=by unfold lbB; rw [decide_eq_true rfl]; rfl
theorem qIS {x:ql}:qgq x=true↔(∀ k,k < x.F.length→qsJ x.F x.qH k=true)∧stB x.qH=true∧(0 < x.F.length∨x.qH≠zSt):=by
 unfold qgq
 rw [Bool.and_eq_true,Bool.and_eq_true,Bool.or_eq_true,XG,decide_eq_true_iff,Bool.not_eq_true',decide_eq_false_iff_not]
end Go.Rx
end
set_option maxRecDepth 100000
noncomputable section
namespace Go.Rx
abbrev c32 (x:UInt32):Int:=((x.toNat:Nat):Int)
theorem qL3 (x:UInt32):x.toNat < 4294967296:=x.toNat_lt
theorem qmf (n:Nat):IntKind.u32.wrap ((n:Nat):Int)=((n % 4294967296:Nat):Int):=by rw [IntKind.wrap_u32']; omega
theorem qbP (x:UInt32):BitVec.ofInt 32 (c32 x)=x.toBitVec:=by
 apply BitVec.eq_of_toNat_eq
 rw [ofInt_u32 _ (qL3 x)]
 rfl
theorem qti (x:UInt32):IntKind.u32.wrap ((x.toNat:Nat):Int)=c32 x:=by rw [qmf,Nat.mod_eq_of_lt (qL3 x)]
theorem qGD (x y:UInt32):XD .u32 (c32 x) (c32 y)=c32 (x + y):=by
 unfold XD
 show IntKind.u32.wrap (((x.toNat:Nat):Int) + ((y.toNat:Nat):Int))=_
 rw [← Int.natCast_add,qmf,c32,UInt32.toNat_add]
theorem qFx (x y:UInt32):qbH .u32 (c32 x) (c32 y)=c32 (x ^^^ y):=by
 unfold qbH
 rw [show IntKind.u32.bits=32 from rfl,qbP,qbP]
 exact qti (x ^^^ y)
theorem qOT (x y:UInt32):qhM .u32 (c32 x) (c32 y)=c32 (x &&& y):=by
 unfold qhM
 rw [show IntKind.u32.bits=32 from rfl,qbP,qbP]
 exact qti (x &&& y)
theorem qNP (x y:UInt32):uOr .u32 (c32 x) (c32 y)=c32 (x ||| y):=by
 unfold uOr
 rw [show IntKind.u32.bits=32 from rfl,qbP,qbP]
 exact qti (x ||| y)
theorem qOO (x:UInt32):qbH .u32 4294967295 (c32 x)=c32 (~~~x):=by
 have h:(4294967295:Int)=c32 4294967295:=rfl
 rw [h,qFx]
 congr 2
theorem qzN (x:UInt32) (n:Nat) (h:n < 32):qc5 .u32 (c32 x) n=c32 (x <<< UInt32.ofNat n):=by
 unfold qc5
 rw [show c32 x * 2 ^ n=((x.toNat * 2 ^ n:Nat):Int) by push_cast; rfl,qmf,c32,UInt32.toNat_shiftLeft,UInt32.toNat_ofNat_of_lt' (show n < UInt32.size by unfold UInt32.size; omega),Nat.mod_eq_of_lt h,Nat.shiftLeft_eq]
theorem qzR (x:UInt32) (n:Nat) (h:n < 32):Qz (c32 x) n=c32 (x >>> UInt32.ofNat n):=by
 unfold Qz
 rw [show ((2:Int) ^ n)=((2 ^ n:Nat):Int) by push_cast; rfl,Int.fdiv_eq_ediv_of_nonneg _ (Int.natCast_nonneg _),c32,← Int.natCast_ediv,c32,UInt32.toNat_shiftRight,UInt32.toNat_ofNat_of_lt' (show n < UInt32.size by unfold UInt32.size; omega),Nat.mod_eq_of_lt h,Nat.shiftRight_eq_div_pow]
theorem qzY (x:UInt32):inW (c32 x):=⟨Int.natCast_nonneg _,by have:=qL3 x; show ((x.toNat:Nat):Int) < _; omega⟩
def rot (x:UInt32) (n:Nat):UInt32:=(x <<< UInt32.ofNat (32 - n)) ||| (x >>> UInt32.ofNat n)
end Go.Rx
end
set_option maxRecDepth 100000
noncomputable section
namespace Go.Rx
open Go.Proofs
theorem qOe:∀ n < 32,0 < n→qhM .u64 (IntKind.u64.wrap (0 - ((n:Nat):Int))) 31=((32 - n:Nat):Int):=by decide +kernel
theorem qML:∀ n < 32,0 < n→qNJ .u64 (32:Int) ((32 - n:Nat):Int)=((n:Nat):Int):=by decide +kernel
theorem qhq (x:UInt32) (n:Nat) (h:n < 32) (h0:0 < n):ja (c32 x) ((n:Nat):Int)=some (c32 (rot x n)):=by
 unfold ja qjx XC Vz
 have h64:qt (0 - ((n:Nat):Int)):=by unfold qt; omega
 simp only [run_bind,qR,qO,qg h64,qOe n h h0,qML n h h0]
 rw [qg (show (0:Int)≤((32 - n:Nat):Int) by omega),qg (show (0:Int)≤((n:Nat):Int) by omega),Int.toNat_natCast,Int.toNat_natCast,Nat.min_eq_left (show 32 - n≤32 by omega),Nat.min_eq_left (show n≤32 by omega),qzN x _ (by omega),qzR x n h,qNP]
 rfl
abbrev wAt {n:Nat} (v:Vector UInt32 n) (k:Nat):UInt32:=v.toList.getD k 0
abbrev bAt (l:List UInt8) (k:Nat):UInt32:=(l.getD k 0).toUInt32
def qwA (b:List UInt8) (k:Nat) (w:Vector UInt32 64):Vector UInt32 64:=
 if k < 16 then w.setIfInBounds k ((bAt b (4 * k) <<< UInt32.ofNat 24) ||| (bAt b (4 * k + 1) <<< UInt32.ofNat 16) ||| (bAt b (4 * k + 2) <<< UInt32.ofNat 8) ||| bAt b (4 * k + 3))
 else w.setIfInBounds k (wAt w (k - 16) + wAt w (k - 7) + (rot (wAt w (k - 15)) 7 ^^^ rot (wAt w (k - 15)) 18 ^^^ (wAt w (k - 15) >>> UInt32.ofNat 3)) + (rot (wAt w (k - 2)) 17 ^^^ rot (wAt w (k - 2)) 19 ^^^ (wAt w (k - 2) >>> UInt32.ofNat 10)))
def qs7 (b:List UInt8):Vector UInt32 64:=Zb (qwA b) 64 0 (Vector.replicate 64 0)
theorem qOy (c:UInt8):IntKind.u32.wrap ((c.toNat:Nat):Int)=c32 c.toUInt32:=by
 rw [qmf,Nat.mod_eq_of_lt (by have:=c.toNat_lt; omega),c32,UInt8.toNat_toUInt32]
theorem qNF {N:Nat} {o:Vector UInt32 64} {b:List UInt8} {w:Vector UInt32 64} {k:Nat} (hb:b.length=64) (hk:k < 16):(Qj N o b (w,(k:Int))).run some=some (.inl (qwA b k w,((k + 1:Nat):Int))):=by
 have g:∀ j < 4,zh b ((4:Int) * (k:Int) + ((j:Nat):Int))=some (b.getD (4 * k + j) 0):=fun j hj=>by
  rw [show (4:Int) * (k:Int) + ((j:Nat):Int)=((4 * k + j:Nat):Int) by omega]; exact zV (by omega)
 have g0:zh b ((4:Int) * (k:Int))=some (b.getD (4 * k) 0):=by have:=g 0 (by omega); simpa using this
 have g1:zh b ((4:Int) * (k:Int) + 1)=some (b.getD (4 * k + 1) 0):=g 1 (by omega)
 have g2:zh b ((4:Int) * (k:Int) + 2)=some (b.getD (4 * k + 2) 0):=g 2 (by omega)
 have g3:zh b ((4:Int) * (k:Int) + 3)=some (b.getD (4 * k + 3) 0):=g 3 (by omega)
 have c0:qt ((4:Int) * (k:Int)):=by unfold qt; omega
 have c1:qt ((4:Int) * (k:Int) + 1):=by unfold qt; omega
 have c2:qt ((4:Int) * (k:Int) + 2):=by unfold qt; omega
 have c3:qt ((4:Int) * (k:Int) + 3):=by unfold qt; omega
 have c4:qt ((k:Int) + 1):=by unfold qt; omega
 have d1:decide ((k:Int) < 64)=true:=decide_eq_true (by omega)
 have d2:decide ((k:Int) < 16)=true:=decide_eq_true (by omega)
 have p8:(0:Int)≤8:=by omega
 have p16:(0:Int)≤16:=by omega
 have p24:(0:Int)≤24:=by omega
 have pk:(0:Int)≤(k:Int)∧(k:Int) < ((64:Nat):Int):=by omega
 have pk2:k < 64:=by omega
 unfold Qj qwA
 rw [if_pos hk]
 simp only [qF,run_bind,qR,qO,d1,d2,cond_true,qg c0,qg c1,qg c2,qg c3,g0,g1,g2,g3,Option.bind_some,qg p8,qg p16,qg p24,qOy,qzN _ 24 (by omega),qzN _ 16 (by omega),qzN _ 8 (by omega),qNP,qg (qzY _),qg pk,UInt32.ofNat_toNat,Int.toNat_natCast,qg pk2,qg c4]
 rw [zi]
theorem qN7 {N:Nat} {o:Vector UInt32 64} {b:List UInt8} {w:Vector UInt32 64} {k:Nat} (h1:¬ k < 16) (hk:k < 64):(Qj N o b (w,(k:Int))).run some=some (.inl (qwA b k w,((k + 1:Nat):Int))):=by
 have c4:qt ((k:Int) + 1):=by unfold qt; omega
 have d1:decide ((k:Int) < 64)=true:=decide_eq_true (by omega)
 have d2:decide ((k:Int) < 16)=false:=decide_eq_false (by omega)
 have e15:(k:Int) - 15=((k - 15:Nat):Int):=by omega
 have e2:(k:Int) - 2=((k - 2:Nat):Int):=by omega
 have e16:(k:Int) - 16=((k - 16:Nat):Int):=by omega
 have e7:(k:Int) - 7=((k - 7:Nat):Int):=by omega
 have i15:qt (((k - 15:Nat)):Int):=by unfold qt; omega
 have i2:qt (((k - 2:Nat)):Int):=by unfold qt; omega
 have i16:qt (((k - 16:Nat)):Int):=by unfold qt; omega
 have i7:qt (((k - 7:Nat)):Int):=by unfold qt; omega
 have p15:(0:Int)≤((k - 15:Nat):Int)∧((k - 15:Nat):Int) < ((64:Nat):Int):=by omega
 have p2:(0:Int)≤((k - 2:Nat):Int)∧((k - 2:Nat):Int) < ((64:Nat):Int):=by omega
 have p16:(0:Int)≤((k - 16:Nat):Int)∧((k - 16:Nat):Int) < ((64:Nat):Int):=by omega
 have p7:(0:Int)≤((k - 7:Nat):Int)∧((k - 7:Nat):Int) < ((64:Nat):Int):=by omega
 have q15:k - 15 < 64:=by omega
 have q2:k - 2 < 64:=by omega
 have q16:k - 16 < 64:=by omega
 have q7:k - 7 < 64:=by omega
 have p3:(0:Int)≤3:=by omega
 have p10:(0:Int)≤10:=by omega
 have pk:(0:Int)≤(k:Int)∧(k:Int) < ((64:Nat):Int):=by omega
 have r7:=fun x=>qhq x 7 (by omega) (by omega)
 have r18:=fun x=>qhq x 18 (by omega) (by omega)
 have r17:=fun x=>qhq x 17 (by omega) (by omega)
 have r19:=fun x=>qhq x 19 (by omega) (by omega)
 unfold Qj qwA
 rw [if_neg h1]
 simp only [qF,run_bind,qR,qO,d1,d2,cond_true,cond_false]
 rw [e15,e2,e16,e7]
 rw [qg i15,qg p15,Int.toNat_natCast,qg q15,qg i2,qg p2,Int.toNat_natCast,qg q2,qg i16,qg p16,Int.toNat_natCast,qg q16,qg i7,qg p7,Int.toNat_natCast,qg q7]
 show (Option.bind (ja (c32 (wAt w (k - 15))) ((7:Nat):Int)) _)=_
 rw [r7,Option.bind_some]
 show (Option.bind (ja (c32 (wAt w (k - 15))) ((18:Nat):Int)) _)=_
 rw [r18,Option.bind_some,qg p3]
 show (Option.bind (ja (c32 (wAt w (k - 2))) ((17:Nat):Int)) _)=_
 rw [r17,Option.bind_some]
 show (Option.bind (ja (c32 (wAt w (k - 2))) ((19:Nat):Int)) _)=_
 rw [r19,Option.bind_some,qg p10,qg pk]
 simp only [qFx,qGD,qzR _ 3 (by omega),qzR _ 10 (by omega),qg (qzY _),Int.toNat_natCast,UInt32.ofNat_toNat,qg hk,qg c4]
 rw [zi]
theorem qK3 {N:Nat} {b:List UInt8} (hN:64 < N) (hb:b.length=64):qcX N b=some (qs7 b):=by
 have key:qck N (Vector.replicate 64 0) b (Vector.replicate 64 0) 0=some (qs7 b,(64:Int),false):=by
  refine (vZ (σ:=Vector UInt32 64) (B:=Qj N (Vector.replicate 64 0) b) (g:=some) (at_:=fun k s=>(s,(k:Int))) (I:=fun _ _=>True) (f:=qwA b) (n:=64)
   (fin:=fun s=>(s,(64:Int),false)) (fun k s hk _=>⟨?_,trivial⟩) (fun s _=>?_) N 0 (Vector.replicate 64 0) trivial (Nat.zero_le _) (by omega))
  ·by_cases h:k < 16
   ·exact qNF hb h
   ·exact qN7 h hk
  ·unfold Qj
   rfl
 unfold qcX qd0
 rw [run_bind,key,Option.bind_some,qO]
def tW (K w:Vector UInt32 64) (i:Nat) (x:Vector UInt32 8):UInt32:=wAt x 7 + (rot (wAt x 4) 6 ^^^ rot (wAt x 4) 11 ^^^ rot (wAt x 4) 25) + ((wAt x 4 &&& wAt x 5) ^^^ (~~~(wAt x 4) &&& wAt x 6)) + wAt K i + wAt w i
def uW (x:Vector UInt32 8):UInt32:=(rot (wAt x 0) 2 ^^^ rot (wAt x 0) 13 ^^^ rot (wAt x 0) 22) + ((wAt x 0 &&& wAt x 1) ^^^ (wAt x 0 &&& wAt x 2) ^^^ (wAt x 1 &&& wAt x 2))
def qAI (K w:Vector UInt32 64) (i:Nat) (x:Vector UInt32 8):Vector UInt32 8:=
 ((Yp x 1 7).setIfInBounds 0 (tW K w i x + uW x)).setIfInBounds 4 (wAt ((Yp x 1 7).setIfInBounds 0 (tW K w i x + uW x)) 4 + tW K w i x)
def qFH (x:Vector UInt32 8) (k:Nat) (s:Vector UInt32 8):Vector UInt32 8:=s.setIfInBounds k (wAt s k + wAt x k)
def qzS (s:Vector UInt32 8) (K:Vector UInt32 64) (b:List UInt8):Vector UInt32 8:=Zb (qFH (Zb (qAI K (qs7 b)) 64 0 s)) 8 0 s
theorem qN5 {N:Nat} {s:Vector UInt32 8} {K w:Vector UInt32 64} {x:Vector UInt32 8} {k:Nat} (hk:k < 64):(ZK N s K w (x,(k:Int))).run some=some (.inl (qAI K w k x,((k + 1:Nat):Int))):=by
 have c4:qt ((k:Int) + 1):=by unfold qt; omega
 have d1:decide ((k:Int) < 64)=true:=decide_eq_true (by omega)
 have pk:(0:Int)≤(k:Int)∧(k:Int) < ((64:Nat):Int):=by omega
 have hj:∀ j < 8,(0:Int)≤((j:Nat):Int)∧((j:Nat):Int) < ((8:Nat):Int):=fun j hj=>by omega
 have j0:(0:Int)≤(0:Int)∧(0:Int) < ((8:Nat):Int):=hj 0 (by omega)
 have j1:(0:Int)≤(1:Int)∧(1:Int) < ((8:Nat):Int):=hj 1 (by omega)
 have j2:(0:Int)≤(2:Int)∧(2:Int) < ((8:Nat):Int):=hj 2 (by omega)
 have j4:(0:Int)≤(4:Int)∧(4:Int) < ((8:Nat):Int):=hj 4 (by omega)
 have j5:(0:Int)≤(5:Int)∧(5:Int) < ((8:Nat):Int):=hj 5 (by omega)
 have j6:(0:Int)≤(6:Int)∧(6:Int) < ((8:Nat):Int):=hj 6 (by omega)
 have j7:(0:Int)≤(7:Int)∧(7:Int) < ((8:Nat):Int):=hj 7 (by omega)
 have n0:0 < 8:=by omega
 have n1:1 < 8:=by omega
 have n2:2 < 8:=by omega
 have n4:4 < 8:=by omega
 have n5:5 < 8:=by omega
 have n6:6 < 8:=by omega
 have n7:7 < 8:=by omega
 have r:=fun x n h h0=>qhq x n h h0
 unfold ZK qAI tW uW
 rw [qF,d1,cond_true]
 simp only [run_bind,qR,qO]
 rw [qg j0,qg n0,qg j4,qg n4,qg j7,qg n7]
 show (Option.bind (ja (c32 (wAt x 4)) ((6:Nat):Int)) _)=_
 rw [r _ 6 (by omega) (by omega),Option.bind_some]
 show (Option.bind (ja (c32 (wAt x 4)) ((11:Nat):Int)) _)=_
 rw [r _ 11 (by omega) (by omega),Option.bind_some]
 show (Option.bind (ja (c32 (wAt x 4)) ((25:Nat):Int)) _)=_
 rw [r _ 25 (by omega) (by omega),Option.bind_some,qg j5,qg n5,qg j6,qg n6,qg pk,Int.toNat_natCast,qg hk]
 rw [qg pk,qg hk]
 show (Option.bind (ja (c32 (wAt x 0)) ((2:Nat):Int)) _)=_
 rw [r _ 2 (by omega) (by omega),Option.bind_some]
 show (Option.bind (ja (c32 (wAt x 0)) ((13:Nat):Int)) _)=_
 rw [r _ 13 (by omega) (by omega),Option.bind_some]
 show (Option.bind (ja (c32 (wAt x 0)) ((22:Nat):Int)) _)=_
 rw [r _ 22 (by omega) (by omega),Option.bind_some]
 rw [qg j1,qg n1,qg j2,qg n2,qg j1,qg n1,qg j2,qg n2,qg j0]
 simp only [qFx,qOT,qOO,qGD,qg (qzY _),Int.toNat_natCast,UInt32.ofNat_toNat,qg n0,qg j4,qg n4,qg c4]
 rw [zi]
theorem qE3 {N:Nat} {s:Vector UInt32 8} {K:Vector UInt32 64} {b:List UInt8} (hN:64 < N) (hb:b.length=64):Wt N s K b=some (qzS s K b):=by
 have k1:qaP N s K (qs7 b) s 0=some (Zb (qAI K (qs7 b)) 64 0 s,(64:Int),false):=by
  refine (vZ (σ:=Vector UInt32 8) (B:=ZK N s K (qs7 b)) (g:=some) (at_:=fun k s=>(s,(k:Int))) (I:=fun _ _=>True) (f:=qAI K (qs7 b)) (n:=64)
   (fin:=fun s=>(s,(64:Int),false)) (fun k x hk _=>⟨qN5 hk,trivial⟩) (fun x _=>?_) N 0 s trivial (Nat.zero_le _) (by omega))
  unfold ZK
  rfl
 have k2:∀ x:Vector UInt32 8,KO N K x s 0=some (Zb (qFH x) 8 0 s,(8:Int),false):=fun x=>by
  refine (vZ (σ:=Vector UInt32 8) (B:=J1 N K x) (g:=some) (at_:=fun k s=>(s,(k:Int))) (I:=fun _ _=>True) (f:=qFH x) (n:=8)
   (fin:=fun s=>(s,(8:Int),false)) (fun k y hk _=>⟨?_,trivial⟩) (fun y _=>?_) N 0 s trivial (Nat.zero_le _) (by omega))
  ·have c4:qt ((k:Int) + 1):=by unfold qt; omega
   have d1:decide ((k:Int) < 8)=true:=decide_eq_true (by omega)
   have pk:(0:Int)≤(k:Int)∧(k:Int) < ((8:Nat):Int):=by omega
   unfold J1 qFH
   simp only [qF,run_bind,qR,qO,d1,cond_true]
   rw [qg pk,Int.toNat_natCast,qg hk,qg pk,qg hk,qg pk]
   simp only [qGD,qg (qzY _),Int.toNat_natCast,UInt32.ofNat_toNat,qg hk,qg c4]
   rw [zi]
  ·unfold J1
   rfl
 unfold Wt qbB
 rw [run_bind,qK3 hN hb,Option.bind_some,run_bind,k1,Option.bind_some,run_bind,k2,Option.bind_some,qO]
 rfl
end Go.Rx
end
